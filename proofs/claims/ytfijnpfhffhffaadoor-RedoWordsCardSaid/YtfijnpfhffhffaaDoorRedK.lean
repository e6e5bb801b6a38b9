/- Worlds in which one block of the call's own has been written, the block told by the slice that lies there. No program in sight. The walk of law 25's kind at the layout of law 20. -/
import Derived.Test.YtfijnpfhffhffaaDoorGrn
import Derived.Test.YtfijnpfhffhffaaDoorC25A
import Derived.Test.YtfijnpfhffhffaaDoorRedB
import Derived.Test.YtfijnpfhffhffaaDoorRedL
import Derived.Test.YtfijnpfhffhffaaDoorPlaceLaw
namespace Go.Proofs.YtfijnpfhffhffaaDoor
set_option linter.unusedSimpArgs false
set_option linter.unusedVariables false
open Go.RowKit

section
variable {w w' w'' : World} {row : Option Nat}
theorem Gro.of_ext (h : Ext w w') (row : Option Nat) : w.grownBy w' row := by
  have hb := h.below
  exact ⟨hb.os, hb.tape, hb.output, hb.size, fun k hk _ => hb.block k hk⟩
theorem Blk.gro {b : Nat} {l : List Value} (h : Blk w b l) (k : w.grownBy w' row) (hb : row ≠ some b) : Blk w' b l := by
  have e : w'.heap[b]? = w.heap[b]? := k.block b h.1 (fun e => hb e.symm)
  exact ⟨Nat.lt_of_lt_of_le h.1 k.size, fun j => by rw [World.frozen?_of_block (w := w) e]; exact h.2.1 j, fun j v hv => by rw [World.cell?_of_block (w := w) e]; exact h.2.2 j v hv⟩
theorem Ext.gro {W : World} (h : Ext W w) (k : w.grownBy w' row) (hg : ∀ b, row = some b → W.heap.size ≤ b) : Ext W w' :=
  Ext.of_below (h.below.grown k h.size hg)
theorem Grn.gro {g : Nat} {W : World} (h : Grn g W w) (k : w.grownBy w' row) (hg : ∀ b, row = some b → W.heap.size ≤ b) : Grn g W w' :=
  ⟨k.os.trans h.os, k.tape.trans h.tape, k.output.trans h.output, Nat.le_trans h.size k.size, fun i hi hne => (k.block i (Nat.lt_of_lt_of_le hi h.size) (fun e => by have := hg i e.symm; omega)).trans (h.block i hi hne)⟩
section
variable {α : Type} {enc : α → List Value} {base : Nat} {e : TypeId} {size : Nat} {v : Value} {l : List α}
theorem Own.gro (h : Own w base e size enc v l) (k : w.grownBy w' row) (hne : v.ownBlock = none ∨ v.ownBlock ≠ row) : Own w' base e size enc v l := World.ownsRow.kept h k hne
theorem Own.bases (h : Own w base e size enc v l) : ∀ b, v.ownBlock = some b → base ≤ b := fun b hb => (World.ownsRow.lt h b hb).1
theorem Own.tops (h : Own w base e size enc v l) : ∀ b, v.ownBlock = some b → b < w.heap.size := fun b hb => (World.ownsRow.lt h b hb).2
theorem Own.not_at (h : Own w base e size enc v l) {b : Nat} (hb : b < base) : v.ownBlock ≠ some b := fun he => by have := h.bases b he; omega
end
/-- Two slices of the call's own that do not lie in one block. -/
def Two (v u : Value) : Prop := v.ownBlock = none ∨ v.ownBlock ≠ u.ownBlock
theorem Two.symm {v u : Value} (h : Two v u) : Two u v := by
  rcases h with h | h
  · by_cases hu : u.ownBlock = none
    · exact .inl hu
    · exact .inr (by rw [h]; exact hu)
  · exact .inr (fun e => h e.symm)
theorem Two.nil (u : Value) : Two (.slice none 0 0) u := .inl rfl
/-- One of them has been appended to. -/
theorem Two.next {v v' u : Value} (h : Two v u) (hu : ∀ b, u.ownBlock = some b → b < w.heap.size) (hv : v'.ownBlock = v.ownBlock ∨ v'.ownBlock = some w.heap.size) : Two v' u := by
  rcases hv with hv | hv
  · unfold Two; rw [hv]; exact h
  · refine .inr ?_
    rw [hv]
    intro e
    have := hu _ e.symm
    omega
end

end Go.Proofs.YtfijnpfhffhffaaDoor

namespace Go.Proofs.YtfijnpfhffhffaaDoor
set_option linter.unusedSimpArgs false
set_option linter.unusedVariables false
open Go.RowKit

theorem Tryd.infoIntK : (Tryd.prog.info? 3).map (fun i => (i.zero, i.size, i.bytes)) = some (some (.int .i64 0), 1, 8) := by kernel_rfl
/-- The slice v is the call's own and reads as these ints. -/
def Li (w : World) (base : Nat) (v : Value) (l : List Nat) : Prop := Own w base 3 1 locE v l
theorem li_append_b {ops : Array Oper} {rest : List Oper} {o : Oper} {a : Act} {Q : Exit → Act → World → Prop} {w : World} {base : Nat} {v : Value} {l : List Nat} (hgd : o.guard = none)
    (s x : Operand) (ho : o.op = .call { callee := .builtin .append, args := #[s, x], argTypes := #[44, 44] })
    (W : World) (hW : Ext W w) (hWb : W.heap.size ≤ base) (hbw : base ≤ w.heap.size) (hs : a.eval s = v) (hown : Li w base v l)
    (ad : Addr) (m c : Nat) (hx : a.eval x = .slice (some ad) m c) (news : List Nat) (hm : news.length = m)
    (hnews : ∀ (j : Nat) (u : Value), (news.flatMap locE)[j]? = some u → w.cell? (ad.add j) = some u)
    (hlen : l.length + m ≤ 1000000)
    (h : ∀ v' w', Li w' base v' (l ++ news) → Ext W w' → Below base w w' → wpList Tryd.prog ops Q rest (a.put o.dst v') w') : wpList Tryd.prog ops Q (o :: rest) a w := by
  obtain ⟨i0, hi, hz0, hz1, hz2⟩ := info_parts Tryd.infoIntK
  exact own_append_b Tryd.underlying44 hi hz0 hz1 hz2 rfl (by decide) locE_len locE_one hgd s x ho W hW hWb hbw hs hown ad m c hx news hm hnews (by unfold maxLen; omega) (by omega) h
theorem li_append_op {o : Oper} {a : Act} {K : Act → World → Prop} {Q : Exit → Act → World → Prop} {w : World} {base : Nat} {v : Value} {l : List Nat}
    (s x : Operand) (ho : o.op = .call { callee := .builtin .append, args := #[s, x], argTypes := #[44, 44] })
    (W : World) (hW : Ext W w) (hWb : W.heap.size ≤ base) (hbw : base ≤ w.heap.size) (hs : a.eval s = v) (hown : Li w base v l)
    (ad : Addr) (m c : Nat) (hx : a.eval x = .slice (some ad) m c) (news : List Nat) (hm : news.length = m)
    (hnews : ∀ (j : Nat) (u : Value), (news.flatMap locE)[j]? = some u → w.cell? (ad.add j) = some u)
    (hlen : l.length + m ≤ 1000000)
    (h : ∀ v' w', Li w' base v' (l ++ news) → Ext W w' → Below base w w' → K (a.put o.dst v') w') : Oper.wp Tryd.prog o a w K Q := by
  obtain ⟨i0, hi, hz0, hz1, hz2⟩ := info_parts Tryd.infoIntK
  exact own_append_bop Tryd.underlying44 hi hz0 hz1 hz2 rfl (by decide) locE_len locE_one s x ho W hW hWb hbw hs hown ad m c hx news hm hnews (by unfold maxLen; omega) (by omega) h

theorem mk_bools (n : Nat) (hn : n ≤ 100000) (w : World) : (Instr.makeSlice 41 (.int .i64 n) (.int .i64 n)).run Tryd.prog w =
    .ok (.slice (some ⟨w.heap.size, 0, none⟩) n n) (w.alloc (.cells (madeCells #[.bool false] (n * 1)) 4)) := by
  obtain ⟨i0, hi, hz0, hz1, hz2⟩ := info_parts Tryd.infoBool
  have := run_make (P := Tryd.prog) w 41 4 i0 _ Tryd.underlying41 hi hz0 .i64 .i64 n n (by omega) (by omega) (by rw [hz2]; omega) (by omega)
  have hcs : (Value.bool false).cells = #[.bool false] := by simp [Value.cells]
  rw [hz1, hcs] at this
  simpa using this

/-- Plain: the words' marks behind j rounds, as cells. -/
def bitsV (j : Nat) : List Value := (List.range 416).map (fun i => Value.bool (decide (i < j) && mayN 3 8 1 i))
theorem bitsV_len (j : Nat) : (bitsV j).length = 416 := by simp [bitsV]
set_option maxRecDepth 100000 in
theorem bitsV_zero : (madeCells #[.bool false] (416 * 1)).toList = bitsV 0 := by
  rw [show (madeCells #[.bool false] (416 * 1)).toList = List.replicate 416 (.bool false) by kernel_rfl]
  unfold bitsV
  apply List.ext_getElem
  · rw [List.length_replicate, List.length_map, List.length_range]
  · intro i h1 h2; rw [List.getElem_replicate, List.getElem_map]; rfl
theorem bitsV_zero2 : (madeCells #[.bool false] 416).toList = bitsV 0 := bitsV_zero
theorem bitsV_yes {j : Nat} (hj : j < 416) (h : mayN 3 8 1 j = true) : (bitsV j).set j (.bool true) = bitsV (j + 1) := by
  unfold bitsV
  apply List.ext_getElem
  · simp
  · intro i h1 h2
    rw [List.getElem_set, List.getElem_map, List.getElem_map, List.getElem_range]
    split
    · rename_i e; subst e; simp [h]
    · rename_i e
      have : decide (i < j) = decide (i < j + 1) := by apply decide_eq_decide.2; omega
      rw [this]
theorem bitsV_no {j : Nat} (h : mayN 3 8 1 j = false) : bitsV j = bitsV (j + 1) := by
  unfold bitsV
  apply List.map_congr_left
  intro i _
  by_cases e : i = j
  · subst e; simp [h]
  · have : decide (i < j) = decide (i < j + 1) := by apply decide_eq_decide.2; omega
    rw [this]
theorem bitsV_all : bitsV 416 = (mayL 3 8 1 416).map Value.bool := by
  unfold bitsV mayL
  rw [List.map_map]
  apply List.map_congr_left
  intro i hi
  rw [List.mem_range] at hi
  simp [hi]
theorem blk_bools {w : World} {g n : Nat} {L : List Bool} (h : Blk w g (L.map Value.bool)) (hn : L.length = n) (hb : n ≤ 100000) : Sl w 1 boE (.slice (some ⟨g, 0, none⟩) n n) L := by
  subst hn
  refine ⟨_, _, rfl, ⟨by omega, Nat.le_refl _⟩, fun _ => ⟨g, 0, rfl, h.1, fun i x hx j hj => ?_⟩⟩
  obtain rfl : j = 0 := by omega
  have := h.2.2 i (.bool x) (by rw [List.getElem?_map, hx]; rfl)
  rw [show 0 + i * 1 + 0 = i by omega, this]; rfl

theorem locs_flat_len (l : List Nat) : (l.flatMap locE).length = l.length * 1 := by
  induction l with
  | nil => rfl
  | cons y ys ih => simp only [List.flatMap_cons, List.length_append, locE_len, List.length_cons, Nat.add_mul]; rw [ih]; omega
/-- The same, with what has turned told whole: the block of v alone. -/
theorem li_append_gb {ops : Array Oper} {rest : List Oper} {o : Oper} {a : Act} {Q : Exit → Act → World → Prop} {w : World} {base : Nat} {v : Value} {l : List Nat} (hgd : o.guard = none)
    (s x : Operand) (ho : o.op = .call { callee := .builtin .append, args := #[s, x], argTypes := #[44, 44] })
    (hbw : base ≤ w.heap.size) (hs : a.eval s = v) (hown : Li w base v l)
    (ad : Addr) (m c : Nat) (hx : a.eval x = .slice (some ad) m c) (news : List Nat) (hm : news.length = m)
    (hnews : ∀ (j : Nat) (u : Value), (news.flatMap locE)[j]? = some u → w.cell? (ad.add j) = some u)
    (hlen : l.length + m ≤ 1000000)
    (h : ∀ v' w', Li w' base v' (l ++ news) → w.grownBy w' v.ownBlock → (v'.ownBlock = v.ownBlock ∨ v'.ownBlock = some w.heap.size) → wpList Tryd.prog ops Q rest (a.put o.dst v') w') : wpList Tryd.prog ops Q (o :: rest) a w := by
  obtain ⟨i0, hi, hz0, hz1, hz2⟩ := info_parts Tryd.infoIntK
  have hl : (news.flatMap locE).length = m * 1 := by rw [← hm]; exact locs_flat_len news
  refine wpList_append_own_at w hgd s x 44 ho base 3 i0 _ 1 _ Tryd.underlying44 hi hz0 hz1 hz2 rfl (by decide) v l.length (l.flatMap locE) hs hown ad m c (news.flatMap locE) hx hl hnews
    (fun u hu => by obtain ⟨y, _, hy⟩ := List.mem_flatMap.1 hu; exact locE_one y u hy) (by unfold maxLen; omega) (by omega) hbw ?_
  intro v' w' h1 h2 _ h4
  refine h v' w' ?_ h2 h4
  have e1 : (l ++ news).length = l.length + m := by simp [hm]
  have e2 : (l ++ news).flatMap locE = l.flatMap locE ++ news.flatMap locE := by simp
  unfold Li Own
  rw [e1, e2]
  exact h1
theorem li_append_gop {o : Oper} {a : Act} {K : Act → World → Prop} {Q : Exit → Act → World → Prop} {w : World} {base : Nat} {v : Value} {l : List Nat}
    (s x : Operand) (ho : o.op = .call { callee := .builtin .append, args := #[s, x], argTypes := #[44, 44] })
    (hbw : base ≤ w.heap.size) (hs : a.eval s = v) (hown : Li w base v l)
    (ad : Addr) (m c : Nat) (hx : a.eval x = .slice (some ad) m c) (news : List Nat) (hm : news.length = m)
    (hnews : ∀ (j : Nat) (u : Value), (news.flatMap locE)[j]? = some u → w.cell? (ad.add j) = some u)
    (hlen : l.length + m ≤ 1000000)
    (h : ∀ v' w', Li w' base v' (l ++ news) → w.grownBy w' v.ownBlock → (v'.ownBlock = v.ownBlock ∨ v'.ownBlock = some w.heap.size) → K (a.put o.dst v') w') : Oper.wp Tryd.prog o a w K Q := by
  obtain ⟨i0, hi, hz0, hz1, hz2⟩ := info_parts Tryd.infoIntK
  have hl : (news.flatMap locE).length = m * 1 := by rw [← hm]; exact locs_flat_len news
  obtain ⟨v', w', hr, h1, h2, _, h4⟩ := run_append_own_at (P := Tryd.prog) w base 44 o.type 3 i0 _ 1 _ Tryd.underlying44 hi hz0 hz1 hz2 rfl (by decide) v l.length (l.flatMap locE) hown ad m c (news.flatMap locE) hl hnews
    (fun u hu => by obtain ⟨y, _, hy⟩ := List.mem_flatMap.1 hu; exact locE_one y u hy) (by unfold maxLen; omega) (by omega) hbw
  unfold Oper.wp execOp
  simp only [ho, resolve, invoke, builtin, Sem.run_bind, Sem.run_pure, Result.andThen_ok, List.map_toArray, List.map_cons, List.map_nil, hs, hx, hr]
  refine h v' w' ?_ h2 h4
  have e1 : (l ++ news).length = l.length + m := by simp [hm]
  have e2 : (l ++ news).flatMap locE = l.flatMap locE ++ news.flatMap locE := by simp
  unfold Li Own
  rw [e1, e2]
  exact h1

theorem bitsV_at {j : Nat} (hj : j < 416) : (bitsV j)[j]? = some (.bool false) := by
  unfold bitsV
  rw [List.getElem?_map, List.getElem?_range hj]
  simp

/-- What kind leaves. -/
def KindPost (w : World) (y : Ending) (w' : World) : Prop := ∃ pv mv sv ov, y = .returned (.agg #[.int .i64 3, .int .i64 1, .int .i64 64, .int .i64 384, .int .i64 104, .int .i64 32, pv, .int .i64 416, mv, sv, ov]) ∧ (∃ r, w' = ext w r) ∧
  Sl w' 1 boE pv (mayL 3 8 1 416) ∧ Sl w' 1 locE mv (maysL 3 8 1) ∧ Sl w' 1 locE sv (statsL 3 8 1) ∧ Sl w' 1 locE ov (ownsL 3 8 1)

set_option maxRecDepth 100000 in
set_option maxHeartbeats 4000000 in
theorem kind25_any (w : World) (hs : Szs w) : Calls Tryd.prog 9 #[.agg #[.int .i64 3, .int .i64 8, .int .i64 1]] w fun y w' => KindPost w y w' := by
  have HS := hid hs
  have hmk : ∀ w : World, (Instr.makeSlice 41 (.int .i64 416) (.int .i64 416)).run Tryd.prog w = .ok (.slice (some ⟨w.heap.size, 0, none⟩) 416 416) (w.alloc (.cells (madeCells #[.bool false] (416 * 1)) 4)) := fun w => mk_bools 416 (by omega) w
  have HSl := hid (show atN 3 8 1 4 (wrap64 (1 - 1)) 0 = 64 by kernel_rfl)
  have HBl := hid (show atN 3 8 1 6 0 0 = 384 by kernel_rfl)
  have HSz := hid size31
  clear hs
  go_enter Tryd.func9, Tryd.ntmps9
  go_upto_region 1 with fail
  generalize hW : World.alloc (World.alloc _ _) _ = W
  have HB1 := hid (show Blk W w.heap.size [.int .i64 3, .int .i64 8, .int .i64 1] by rw [← hW]; (show Blk _ _ _; repeat (first | with_reducible (refine Hid.out ?_; assumption) | with_reducible refine Blk.drew ?_ | with_reducible refine Blk.ext ?_ _ | (with_reducible refine Blk.new _ _ rfl ?_; first | with_reducible rfl | (simp; done)) | with_reducible refine Blk.alloc ?_ _ | with_reducible assumption | with_reducible apply Blk.setE | (with_reducible refine Blk.other' ?_ ?_; first | omega | (simp; omega)) | (show List.set _ _ _ = _; exact rfl) | (show _ < List.length _; simp; done))))
  have HB2 := hid (show Blk W (w.heap.size + 1) [.int .i64 0, .int .i64 0, .int .i64 0, .int .i64 0, .int .i64 0, .int .i64 0, .slice none 0 0, .int .i64 0, .slice none 0 0, .slice none 0 0, .slice none 0 0] by rw [← hW]; (show Blk _ _ _; repeat (first | with_reducible (refine Hid.out ?_; assumption) | with_reducible refine Blk.drew ?_ | with_reducible refine Blk.ext ?_ _ | (with_reducible refine Blk.new _ _ rfl ?_; first | with_reducible rfl | (simp; done)) | with_reducible refine Blk.alloc ?_ _ | with_reducible assumption | with_reducible apply Blk.setE | (with_reducible refine Blk.other' ?_ ?_; first | omega | (simp; omega)) | (show List.set _ _ _ = _; exact rfl) | (show _ < List.length _; simp; done))))
  have HWx := hid (show Ext w W by rw [← hW]; (show Ext _ _; repeat (first | with_reducible (refine Hid.out ?_; assumption) | with_reducible exact Ext.refl _ | with_reducible refine Ext.ext ?_ _ | with_reducible refine Ext.alloc ?_ _ | refine Ext.drew ?_ | refine Ext.drewN ?_ _ | exact Ext.refl _)))
  clear hW
  have HSW := hid (Szs.of HS.out HWx.out)
  obtain ⟨l0, l1, l2⟩ := HB1.out.three
  have l4 := HB1.out.1
  go_cut [3] (fun s3 wx => ∃ g gw : Nat, s3 = .pointer (some ⟨g, 0, none⟩) ∧ Blk wx g [.int .i64 3, .int .i64 1, .int .i64 64, .int .i64 384, .int .i64 104, .int .i64 32, .slice (some ⟨gw, 0, none⟩) 416 416, .int .i64 416, .slice none 0 0, .slice none 0 0, .slice none 0 0] ∧ Blk wx gw (bitsV 0) ∧ g ≠ gw ∧ Ext W wx ∧ W.heap.size ≤ g ∧ W.heap.size ≤ gw)
  case first =>
    have HSt := hid (fun w' (h : Ext W w') => And.intro h (And.intro (h.cell l0) (And.intro (h.cell l1) (h.cell l2))))
    refine wp_region_held_drew (S := fun w' => Ext W w' ∧ w'.cell? ⟨w.heap.size, 0, none⟩ = some (.int .i64 3) ∧ w'.cell? ⟨w.heap.size, 1, none⟩ = some (.int .i64 8) ∧ w'.cell? ⟨w.heap.size, 2, none⟩ = some (.int .i64 1)) (by kernel_rfl) (by exact HSt.out _ (by (show Ext _ _; repeat (first | with_reducible (refine Hid.out ?_; assumption) | with_reducible exact Ext.refl _ | with_reducible refine Ext.ext ?_ _ | with_reducible refine Ext.alloc ?_ _ | with_reducible refine Ext.drew ?_ | with_reducible refine Ext.setCell ?_ (by (try dsimp only); first | omega | (simp; done) | (simp; omega)) _)))) (fun hHeld => ?_)
    refine take_met 0 (oi := ⟨_, _, _, _, _, _⟩) (v := ?_) (by kernel_rfl) rfl (by rfl) (fun _ _ _ h => h) (by assumption) ?_ ?_
    rotate_left 1
    · intro w hSw
      try dsimp only at hSw
      go_simp
      try with_reducible rfl
    (try simp only [Act.put, List.setIfInBounds_toArray, List.set_cons_zero, List.set_cons_succ])
    refine take_met 1 (oi := ⟨_, _, _, _, _, _⟩) (v := ?_) (by kernel_rfl) rfl (by rfl) (fun _ _ _ h => h) (by assumption) ?_ ?_
    rotate_left 1
    · intro w hSw
      try dsimp only at hSw
      go_simp
      try with_reducible rfl
    (try simp only [Act.put, List.setIfInBounds_toArray, List.set_cons_zero, List.set_cons_succ])
    refine take_met 2 (oi := ⟨_, _, _, _, _, _⟩) (v := ?_) (by kernel_rfl) rfl (by rfl) (fun _ _ _ h => h) (by assumption) ?_ ?_
    rotate_left 1
    · intro w hSw
      try dsimp only at hSw
      go_simp
      try with_reducible rfl
    (try simp only [Act.put, List.setIfInBounds_toArray, List.set_cons_zero, List.set_cons_succ])
    refine take_met 3 (oi := ⟨_, _, _, _, _, _⟩) (v := ?_) (by kernel_rfl) rfl (by rfl) (fun _ _ _ h => h) (by assumption) ?_ ?_
    rotate_left 1
    · intro w hSw
      try dsimp only at hSw
      go_simp
      try with_reducible rfl
    (try simp only [Act.put, List.setIfInBounds_toArray, List.set_cons_zero, List.set_cons_succ])
    refine take_met 4 (oi := ⟨_, _, _, _, _, _⟩) (v := ?_) (by kernel_rfl) rfl (by rfl) (fun _ _ _ h => h) (by assumption) ?_ ?_
    rotate_left 1
    · intro w hSw
      try dsimp only at hSw
      go_simp
      try with_reducible rfl
    (try simp only [Act.put, List.setIfInBounds_toArray, List.set_cons_zero, List.set_cons_succ])
    refine take_met 6 (oi := ⟨_, _, _, _, _, _⟩) (v := ?_) (by kernel_rfl) rfl (by rfl) (fun _ _ _ h => h) (by assumption) ?_ ?_
    rotate_left 1
    · intro w hSw
      try dsimp only at hSw
      go_simp
      try with_reducible rfl
    (try simp only [Act.put, List.setIfInBounds_toArray, List.set_cons_zero, List.set_cons_succ])
    refine take_met 8 (oi := ⟨_, _, _, _, _, _⟩) (v := ?_) (by kernel_rfl) rfl (by rfl) (fun _ _ _ h => h) (by assumption) ?_ ?_
    rotate_left 1
    · intro w hSw
      try dsimp only at hSw
      go_simp
      try with_reducible rfl
    (try simp only [Act.put, List.setIfInBounds_toArray, List.set_cons_zero, List.set_cons_succ])
    refine take_met 11 (oi := ⟨_, _, _, _, _, _⟩) (v := ?_) (by kernel_rfl) rfl (by rfl) (fun _ _ _ h => h) (by assumption) ?_ ?_
    rotate_left 1
    · intro w hSw
      try dsimp only at hSw
      go_simp
      try with_reducible rfl
    (try simp only [Act.put, List.setIfInBounds_toArray, List.set_cons_zero, List.set_cons_succ])
    refine wpAnyH_ready (rs := [5, 15]) (by kernel_rfl) (by simp) ?_
    refine AllReadyH.cons (o := ⟨_, _, _, _, _, _⟩) rfl (fun K hK => ?_) ?_
    · skip
      go_simp
      first
        | (go_at_call 17; refine (slot_any 3 8 1 1 _ (HSW.out.of (by (show Ext _ _; repeat (first | with_reducible (refine Hid.out ?_; assumption) | with_reducible exact Ext.refl _ | with_reducible refine Ext.ext ?_ _ | with_reducible refine Ext.alloc ?_ _ | refine Ext.drew ?_ | refine Ext.drewN ?_ _ | exact Ext.refl _))))).mono ?_; rintro e w' ⟨rfl, r2, rfl⟩; rw [HSl.out])
      have hOld := hHeld
      clear hHeld
      refine hK.out _ _ (by exact HSt.out _ (by (show Ext _ _; repeat (first | with_reducible (refine Hid.out ?_; assumption) | with_reducible exact Ext.refl _ | with_reducible refine Ext.ext ?_ _ | with_reducible refine Ext.alloc ?_ _ | with_reducible refine Ext.drew ?_ | with_reducible refine Ext.setCell ?_ (by (try dsimp only); first | omega | (simp; done) | (simp; omega)) _)))) (fun hHeld => ?_)
      clear hOld hK K
      (try simp only [Act.put, List.setIfInBounds_toArray, List.set_cons_zero, List.set_cons_succ])
      refine wpAnyH_ready (rs := [7, 15]) (by kernel_rfl) (by simp) ?_
      refine AllReadyH.cons (o := ⟨_, _, _, _, _, _⟩) rfl (fun K hK => ?_) ?_
      · skip
        go_simp
        first
          | (go_at_call 30; refine (block_any 3 8 1 0 _ (HSW.out.of (by (show Ext _ _; repeat (first | with_reducible (refine Hid.out ?_; assumption) | with_reducible exact Ext.refl _ | with_reducible refine Ext.ext ?_ _ | with_reducible refine Ext.alloc ?_ _ | refine Ext.drew ?_ | refine Ext.drewN ?_ _ | exact Ext.refl _))))).mono ?_; rintro e w' ⟨rfl, r3, rfl⟩; rw [HBl.out])
        have hOld := hHeld
        clear hHeld
        refine hK.out _ _ (by exact HSt.out _ (by (show Ext _ _; repeat (first | with_reducible (refine Hid.out ?_; assumption) | with_reducible exact Ext.refl _ | with_reducible refine Ext.ext ?_ _ | with_reducible refine Ext.alloc ?_ _ | with_reducible refine Ext.drew ?_ | with_reducible refine Ext.setCell ?_ (by (try dsimp only); first | omega | (simp; done) | (simp; omega)) _)))) (fun hHeld => ?_)
        clear hOld hK K
        (try simp only [Act.put, List.setIfInBounds_toArray, List.set_cons_zero, List.set_cons_succ])
        refine wpAnyH_ready (rs := [9, 15]) (by kernel_rfl) (by simp) ?_
        refine AllReadyH.cons (o := ⟨_, _, _, _, _, _⟩) rfl (fun K hK => ?_) ?_
        · skip
          go_simp
          first
            | (go_at_call 21; refine (size_any 3 8 1 _ (HSW.out.of (by (show Ext _ _; repeat (first | with_reducible (refine Hid.out ?_; assumption) | with_reducible exact Ext.refl _ | with_reducible refine Ext.ext ?_ _ | with_reducible refine Ext.alloc ?_ _ | refine Ext.drew ?_ | refine Ext.drewN ?_ _ | exact Ext.refl _))))).mono ?_; rintro e w' ⟨rfl, r4, rfl⟩; rw [HSz.out])
          have hOld := hHeld
          clear hHeld
          refine hK.out _ _ (by exact HSt.out _ (by (show Ext _ _; repeat (first | with_reducible (refine Hid.out ?_; assumption) | with_reducible exact Ext.refl _ | with_reducible refine Ext.ext ?_ _ | with_reducible refine Ext.alloc ?_ _ | with_reducible refine Ext.drew ?_ | with_reducible refine Ext.setCell ?_ (by (try dsimp only); first | omega | (simp; done) | (simp; omega)) _)))) (fun hHeld => ?_)
          clear hOld hK K
          (try simp only [Act.put, List.setIfInBounds_toArray, List.set_cons_zero, List.set_cons_succ])
          refine wpAnyH_ready (rs := [10, 12, 15]) (by kernel_rfl) (by simp) ?_
          refine AllReadyH.cons (o := ⟨_, _, _, _, _, _⟩) rfl (fun K hK => ?_) ?_
          · skip
            go_simp
            have hOld := hHeld
            clear hHeld
            refine hK.out _ _ (by exact HSt.out _ (by (show Ext _ _; repeat (first | with_reducible (refine Hid.out ?_; assumption) | with_reducible exact Ext.refl _ | with_reducible refine Ext.ext ?_ _ | with_reducible refine Ext.alloc ?_ _ | with_reducible refine Ext.drew ?_ | with_reducible refine Ext.setCell ?_ (by (try dsimp only); first | omega | (simp; done) | (simp; omega)) _)))) (fun hHeld => ?_)
            clear hOld hK K
            (try simp only [Act.put, List.setIfInBounds_toArray, List.set_cons_zero, List.set_cons_succ])
            refine wpAnyH_ready (rs := [12, 15]) (by kernel_rfl) (by simp) ?_
            refine AllReadyH.cons (o := ⟨_, _, _, _, _, _⟩) rfl (fun K hK => ?_) ?_
            · skip
              go_simp
              first
                | (go_at_call 21; refine (size_any 3 8 1 _ (HSW.out.of (by (show Ext _ _; repeat (first | with_reducible (refine Hid.out ?_; assumption) | with_reducible exact Ext.refl _ | with_reducible refine Ext.ext ?_ _ | with_reducible refine Ext.alloc ?_ _ | refine Ext.drew ?_ | refine Ext.drewN ?_ _ | exact Ext.refl _))))).mono ?_; rintro e w' ⟨rfl, r5, rfl⟩; rw [HSz.out])
              have hOld := hHeld
              clear hHeld
              refine hK.out _ _ (by exact HSt.out _ (by (show Ext _ _; repeat (first | with_reducible (refine Hid.out ?_; assumption) | with_reducible exact Ext.refl _ | with_reducible refine Ext.ext ?_ _ | with_reducible refine Ext.alloc ?_ _ | with_reducible refine Ext.drew ?_ | with_reducible refine Ext.setCell ?_ (by (try dsimp only); first | omega | (simp; done) | (simp; omega)) _)))) (fun hHeld => ?_)
              clear hOld hK K
              (try simp only [Act.put, List.setIfInBounds_toArray, List.set_cons_zero, List.set_cons_succ])
              refine take_met 13 (oi := ⟨_, _, _, _, _, _⟩) (v := ?_) (by kernel_rfl) rfl (by rfl) (fun _ _ _ h => h) (by assumption) ?_ ?_
              rotate_left 1
              · intro w hSw
                try dsimp only at hSw
                go_simp
                try with_reducible rfl
              (try simp only [Act.put, List.setIfInBounds_toArray, List.set_cons_zero, List.set_cons_succ])
              refine take_met 14 (oi := ⟨_, _, _, _, _, _⟩) (v := ?_) (by kernel_rfl) rfl (by rfl) (fun _ _ _ h => h) (by assumption) ?_ ?_
              rotate_left 1
              · intro w hSw
                try dsimp only at hSw
                go_simp
                try with_reducible rfl
              (try simp only [Act.put, List.setIfInBounds_toArray, List.set_cons_zero, List.set_cons_succ])
              refine take_only 15 (oi := ⟨_, _, _, _, _, _⟩) (by kernel_rfl) rfl (fun K hK => ?_)
              go_simp
              have hOld := hHeld
              clear hHeld
              refine hK.out _ _ (by exact HSt.out _ (by (show Ext _ _; repeat (first | with_reducible (refine Hid.out ?_; assumption) | with_reducible exact Ext.refl _ | with_reducible refine Ext.ext ?_ _ | with_reducible refine Ext.alloc ?_ _ | with_reducible refine Ext.drew ?_ | with_reducible refine Ext.setCell ?_ (by (try dsimp only); first | omega | (simp; done) | (simp; omega)) _)))) (fun hHeld => ?_)
              clear hOld hK K
              (try simp only [Act.put, List.setIfInBounds_toArray, List.set_cons_zero, List.set_cons_succ])
              refine take_only 16 (oi := ⟨_, _, _, _, _, _⟩) (by kernel_rfl) rfl (fun K hK => ?_)
              go_simp
              have hOld := hHeld
              clear hHeld
              refine hK.out _ _ (by exact HSt.out _ (by (show Ext _ _; repeat (first | with_reducible (refine Hid.out ?_; assumption) | with_reducible exact Ext.refl _ | with_reducible refine Ext.ext ?_ _ | with_reducible refine Ext.alloc ?_ _ | with_reducible refine Ext.drew ?_ | with_reducible refine Ext.setCell ?_ (by (try dsimp only); first | omega | (simp; done) | (simp; omega)) _)))) (fun hHeld => ?_)
              clear hOld hK K
              (try simp only [Act.put, List.setIfInBounds_toArray, List.set_cons_zero, List.set_cons_succ])
              refine wpAnyH_done (by kernel_rfl) ?_ _
              go_wp2_with fail
              go_meet
              exact ⟨_, _, rfl, by (show Blk _ _ _; repeat (first | with_reducible (refine Hid.out ?_; assumption) | with_reducible apply Blk.drew | with_reducible apply Blk.ext | ((with_reducible refine Blk.new _ _ rfl ?_); first | with_reducible rfl | focus (simp; done)) | ((with_reducible apply Blk.newE); first | with_reducible rfl | focus (simp; done)) | with_reducible apply Blk.alloc | with_reducible assumption | with_reducible apply Blk.setE | ((with_reducible apply Blk.other'); first | omega | (simp; omega)) | (show List.set _ _ _ = _; exact rfl) | focus (show _ < List.length _; simp; done))), by (show Blk _ _ _; repeat (first | with_reducible apply Blk.drew | with_reducible apply Blk.ext | (with_reducible refine Blk.new _ _ bitsV_zero2 ?_; first | with_reducible rfl | focus (simp; done)) | ((with_reducible refine Blk.other' ?_ ?_); first | omega | (simp; omega)) | with_reducible apply Blk.alloc)), by first | omega | (simp; omega), by (show Ext _ _; repeat (first | with_reducible (refine Hid.out ?_; assumption) | with_reducible exact Ext.refl _ | with_reducible refine Ext.ext ?_ _ | with_reducible refine Ext.alloc ?_ _ | with_reducible refine Ext.drew ?_ | with_reducible refine Ext.setCell ?_ (by (try dsimp only); first | omega | (simp; done) | (simp; omega)) _)), by first | omega | (simp; omega), by first | omega | (simp; omega)⟩
            refine AllReadyH.cons (o := ⟨_, _, _, _, _, _⟩) rfl (fun K hK => ?_) AllReadyH.nil
            go_simp
            have hOld := hHeld
            clear hHeld
            refine hK.out _ _ (by exact HSt.out _ (by (show Ext _ _; repeat (first | with_reducible (refine Hid.out ?_; assumption) | with_reducible exact Ext.refl _ | with_reducible refine Ext.ext ?_ _ | with_reducible refine Ext.alloc ?_ _ | with_reducible refine Ext.drew ?_ | with_reducible refine Ext.setCell ?_ (by (try dsimp only); first | omega | (simp; done) | (simp; omega)) _)))) (fun hHeld => ?_)
            clear hOld hK K
            (try simp only [Act.put, List.setIfInBounds_toArray, List.set_cons_zero, List.set_cons_succ])
            refine take_only 12 (oi := ⟨_, _, _, _, _, _⟩) (by kernel_rfl) rfl (fun K hK => ?_)
            go_simp
            first
              | (go_at_call 21; refine (size_any 3 8 1 _ (HSW.out.of (by (show Ext _ _; repeat (first | with_reducible (refine Hid.out ?_; assumption) | with_reducible exact Ext.refl _ | with_reducible refine Ext.ext ?_ _ | with_reducible refine Ext.alloc ?_ _ | refine Ext.drew ?_ | refine Ext.drewN ?_ _ | exact Ext.refl _))))).mono ?_; rintro e w' ⟨rfl, r5, rfl⟩; rw [HSz.out])
            have hOld := hHeld
            clear hHeld
            refine hK.out _ _ (by exact HSt.out _ (by (show Ext _ _; repeat (first | with_reducible (refine Hid.out ?_; assumption) | with_reducible exact Ext.refl _ | with_reducible refine Ext.ext ?_ _ | with_reducible refine Ext.alloc ?_ _ | with_reducible refine Ext.drew ?_ | with_reducible refine Ext.setCell ?_ (by (try dsimp only); first | omega | (simp; done) | (simp; omega)) _)))) (fun hHeld => ?_)
            clear hOld hK K
            (try simp only [Act.put, List.setIfInBounds_toArray, List.set_cons_zero, List.set_cons_succ])
            refine take_met 13 (oi := ⟨_, _, _, _, _, _⟩) (v := ?_) (by kernel_rfl) rfl (by rfl) (fun _ _ _ h => h) (by assumption) ?_ ?_
            rotate_left 1
            · intro w hSw
              try dsimp only at hSw
              go_simp
              try with_reducible rfl
            (try simp only [Act.put, List.setIfInBounds_toArray, List.set_cons_zero, List.set_cons_succ])
            refine take_met 14 (oi := ⟨_, _, _, _, _, _⟩) (v := ?_) (by kernel_rfl) rfl (by rfl) (fun _ _ _ h => h) (by assumption) ?_ ?_
            rotate_left 1
            · intro w hSw
              try dsimp only at hSw
              go_simp
              try with_reducible rfl
            (try simp only [Act.put, List.setIfInBounds_toArray, List.set_cons_zero, List.set_cons_succ])
            refine take_only 16 (oi := ⟨_, _, _, _, _, _⟩) (by kernel_rfl) rfl (fun K hK => ?_)
            go_simp
            have hOld := hHeld
            clear hHeld
            refine hK.out _ _ (by exact HSt.out _ (by (show Ext _ _; repeat (first | with_reducible (refine Hid.out ?_; assumption) | with_reducible exact Ext.refl _ | with_reducible refine Ext.ext ?_ _ | with_reducible refine Ext.alloc ?_ _ | with_reducible refine Ext.drew ?_ | with_reducible refine Ext.setCell ?_ (by (try dsimp only); first | omega | (simp; done) | (simp; omega)) _)))) (fun hHeld => ?_)
            clear hOld hK K
            (try simp only [Act.put, List.setIfInBounds_toArray, List.set_cons_zero, List.set_cons_succ])
            refine wpAnyH_done (by kernel_rfl) ?_ _
            go_wp2_with fail
            go_meet
            exact ⟨_, _, rfl, by (show Blk _ _ _; repeat (first | with_reducible (refine Hid.out ?_; assumption) | with_reducible apply Blk.drew | with_reducible apply Blk.ext | ((with_reducible refine Blk.new _ _ rfl ?_); first | with_reducible rfl | focus (simp; done)) | ((with_reducible apply Blk.newE); first | with_reducible rfl | focus (simp; done)) | with_reducible apply Blk.alloc | with_reducible assumption | with_reducible apply Blk.setE | ((with_reducible apply Blk.other'); first | omega | (simp; omega)) | (show List.set _ _ _ = _; exact rfl) | focus (show _ < List.length _; simp; done))), by (show Blk _ _ _; repeat (first | with_reducible apply Blk.drew | with_reducible apply Blk.ext | (with_reducible refine Blk.new _ _ bitsV_zero2 ?_; first | with_reducible rfl | focus (simp; done)) | ((with_reducible refine Blk.other' ?_ ?_); first | omega | (simp; omega)) | with_reducible apply Blk.alloc)), by first | omega | (simp; omega), by (show Ext _ _; repeat (first | with_reducible (refine Hid.out ?_; assumption) | with_reducible exact Ext.refl _ | with_reducible refine Ext.ext ?_ _ | with_reducible refine Ext.alloc ?_ _ | with_reducible refine Ext.drew ?_ | with_reducible refine Ext.setCell ?_ (by (try dsimp only); first | omega | (simp; done) | (simp; omega)) _)), by first | omega | (simp; omega), by first | omega | (simp; omega)⟩
          refine AllReadyH.cons (o := ⟨_, _, _, _, _, _⟩) rfl (fun K hK => ?_) ?_
          · skip
            go_simp
            first
              | (go_at_call 21; refine (size_any 3 8 1 _ (HSW.out.of (by (show Ext _ _; repeat (first | with_reducible (refine Hid.out ?_; assumption) | with_reducible exact Ext.refl _ | with_reducible refine Ext.ext ?_ _ | with_reducible refine Ext.alloc ?_ _ | refine Ext.drew ?_ | refine Ext.drewN ?_ _ | exact Ext.refl _))))).mono ?_; rintro e w' ⟨rfl, r5, rfl⟩; rw [HSz.out])
            have hOld := hHeld
            clear hHeld
            refine hK.out _ _ (by exact HSt.out _ (by (show Ext _ _; repeat (first | with_reducible (refine Hid.out ?_; assumption) | with_reducible exact Ext.refl _ | with_reducible refine Ext.ext ?_ _ | with_reducible refine Ext.alloc ?_ _ | with_reducible refine Ext.drew ?_ | with_reducible refine Ext.setCell ?_ (by (try dsimp only); first | omega | (simp; done) | (simp; omega)) _)))) (fun hHeld => ?_)
            clear hOld hK K
            (try simp only [Act.put, List.setIfInBounds_toArray, List.set_cons_zero, List.set_cons_succ])
            refine wpAnyH_ready (rs := [10, 15]) (by kernel_rfl) (by simp) ?_
            refine AllReadyH.cons (o := ⟨_, _, _, _, _, _⟩) rfl (fun K hK => ?_) ?_
            · skip
              go_simp
              have hOld := hHeld
              clear hHeld
              refine hK.out _ _ (by exact HSt.out _ (by (show Ext _ _; repeat (first | with_reducible (refine Hid.out ?_; assumption) | with_reducible exact Ext.refl _ | with_reducible refine Ext.ext ?_ _ | with_reducible refine Ext.alloc ?_ _ | with_reducible refine Ext.drew ?_ | with_reducible refine Ext.setCell ?_ (by (try dsimp only); first | omega | (simp; done) | (simp; omega)) _)))) (fun hHeld => ?_)
              clear hOld hK K
              (try simp only [Act.put, List.setIfInBounds_toArray, List.set_cons_zero, List.set_cons_succ])
              refine take_met 13 (oi := ⟨_, _, _, _, _, _⟩) (v := ?_) (by kernel_rfl) rfl (by rfl) (fun _ _ _ h => h) (by assumption) ?_ ?_
              rotate_left 1
              · intro w hSw
                try dsimp only at hSw
                go_simp
                try with_reducible rfl
              (try simp only [Act.put, List.setIfInBounds_toArray, List.set_cons_zero, List.set_cons_succ])
              refine take_met 14 (oi := ⟨_, _, _, _, _, _⟩) (v := ?_) (by kernel_rfl) rfl (by rfl) (fun _ _ _ h => h) (by assumption) ?_ ?_
              rotate_left 1
              · intro w hSw
                try dsimp only at hSw
                go_simp
                try with_reducible rfl
              (try simp only [Act.put, List.setIfInBounds_toArray, List.set_cons_zero, List.set_cons_succ])
              refine take_only 15 (oi := ⟨_, _, _, _, _, _⟩) (by kernel_rfl) rfl (fun K hK => ?_)
              go_simp
              have hOld := hHeld
              clear hHeld
              refine hK.out _ _ (by exact HSt.out _ (by (show Ext _ _; repeat (first | with_reducible (refine Hid.out ?_; assumption) | with_reducible exact Ext.refl _ | with_reducible refine Ext.ext ?_ _ | with_reducible refine Ext.alloc ?_ _ | with_reducible refine Ext.drew ?_ | with_reducible refine Ext.setCell ?_ (by (try dsimp only); first | omega | (simp; done) | (simp; omega)) _)))) (fun hHeld => ?_)
              clear hOld hK K
              (try simp only [Act.put, List.setIfInBounds_toArray, List.set_cons_zero, List.set_cons_succ])
              refine take_only 16 (oi := ⟨_, _, _, _, _, _⟩) (by kernel_rfl) rfl (fun K hK => ?_)
              go_simp
              have hOld := hHeld
              clear hHeld
              refine hK.out _ _ (by exact HSt.out _ (by (show Ext _ _; repeat (first | with_reducible (refine Hid.out ?_; assumption) | with_reducible exact Ext.refl _ | with_reducible refine Ext.ext ?_ _ | with_reducible refine Ext.alloc ?_ _ | with_reducible refine Ext.drew ?_ | with_reducible refine Ext.setCell ?_ (by (try dsimp only); first | omega | (simp; done) | (simp; omega)) _)))) (fun hHeld => ?_)
              clear hOld hK K
              (try simp only [Act.put, List.setIfInBounds_toArray, List.set_cons_zero, List.set_cons_succ])
              refine wpAnyH_done (by kernel_rfl) ?_ _
              go_wp2_with fail
              go_meet
              exact ⟨_, _, rfl, by (show Blk _ _ _; repeat (first | with_reducible (refine Hid.out ?_; assumption) | with_reducible apply Blk.drew | with_reducible apply Blk.ext | ((with_reducible refine Blk.new _ _ rfl ?_); first | with_reducible rfl | focus (simp; done)) | ((with_reducible apply Blk.newE); first | with_reducible rfl | focus (simp; done)) | with_reducible apply Blk.alloc | with_reducible assumption | with_reducible apply Blk.setE | ((with_reducible apply Blk.other'); first | omega | (simp; omega)) | (show List.set _ _ _ = _; exact rfl) | focus (show _ < List.length _; simp; done))), by (show Blk _ _ _; repeat (first | with_reducible apply Blk.drew | with_reducible apply Blk.ext | (with_reducible refine Blk.new _ _ bitsV_zero2 ?_; first | with_reducible rfl | focus (simp; done)) | ((with_reducible refine Blk.other' ?_ ?_); first | omega | (simp; omega)) | with_reducible apply Blk.alloc)), by first | omega | (simp; omega), by (show Ext _ _; repeat (first | with_reducible (refine Hid.out ?_; assumption) | with_reducible exact Ext.refl _ | with_reducible refine Ext.ext ?_ _ | with_reducible refine Ext.alloc ?_ _ | with_reducible refine Ext.drew ?_ | with_reducible refine Ext.setCell ?_ (by (try dsimp only); first | omega | (simp; done) | (simp; omega)) _)), by first | omega | (simp; omega), by first | omega | (simp; omega)⟩
            refine AllReadyH.cons (o := ⟨_, _, _, _, _, _⟩) rfl (fun K hK => ?_) AllReadyH.nil
            go_simp
            have hOld := hHeld
            clear hHeld
            refine hK.out _ _ (by exact HSt.out _ (by (show Ext _ _; repeat (first | with_reducible (refine Hid.out ?_; assumption) | with_reducible exact Ext.refl _ | with_reducible refine Ext.ext ?_ _ | with_reducible refine Ext.alloc ?_ _ | with_reducible refine Ext.drew ?_ | with_reducible refine Ext.setCell ?_ (by (try dsimp only); first | omega | (simp; done) | (simp; omega)) _)))) (fun hHeld => ?_)
            clear hOld hK K
            (try simp only [Act.put, List.setIfInBounds_toArray, List.set_cons_zero, List.set_cons_succ])
            refine take_only 10 (oi := ⟨_, _, _, _, _, _⟩) (by kernel_rfl) rfl (fun K hK => ?_)
            go_simp
            have hOld := hHeld
            clear hHeld
            refine hK.out _ _ (by exact HSt.out _ (by (show Ext _ _; repeat (first | with_reducible (refine Hid.out ?_; assumption) | with_reducible exact Ext.refl _ | with_reducible refine Ext.ext ?_ _ | with_reducible refine Ext.alloc ?_ _ | with_reducible refine Ext.drew ?_ | with_reducible refine Ext.setCell ?_ (by (try dsimp only); first | omega | (simp; done) | (simp; omega)) _)))) (fun hHeld => ?_)
            clear hOld hK K
            (try simp only [Act.put, List.setIfInBounds_toArray, List.set_cons_zero, List.set_cons_succ])
            refine take_met 13 (oi := ⟨_, _, _, _, _, _⟩) (v := ?_) (by kernel_rfl) rfl (by rfl) (fun _ _ _ h => h) (by assumption) ?_ ?_
            rotate_left 1
            · intro w hSw
              try dsimp only at hSw
              go_simp
              try with_reducible rfl
            (try simp only [Act.put, List.setIfInBounds_toArray, List.set_cons_zero, List.set_cons_succ])
            refine take_met 14 (oi := ⟨_, _, _, _, _, _⟩) (v := ?_) (by kernel_rfl) rfl (by rfl) (fun _ _ _ h => h) (by assumption) ?_ ?_
            rotate_left 1
            · intro w hSw
              try dsimp only at hSw
              go_simp
              try with_reducible rfl
            (try simp only [Act.put, List.setIfInBounds_toArray, List.set_cons_zero, List.set_cons_succ])
            refine take_only 16 (oi := ⟨_, _, _, _, _, _⟩) (by kernel_rfl) rfl (fun K hK => ?_)
            go_simp
            have hOld := hHeld
            clear hHeld
            refine hK.out _ _ (by exact HSt.out _ (by (show Ext _ _; repeat (first | with_reducible (refine Hid.out ?_; assumption) | with_reducible exact Ext.refl _ | with_reducible refine Ext.ext ?_ _ | with_reducible refine Ext.alloc ?_ _ | with_reducible refine Ext.drew ?_ | with_reducible refine Ext.setCell ?_ (by (try dsimp only); first | omega | (simp; done) | (simp; omega)) _)))) (fun hHeld => ?_)
            clear hOld hK K
            (try simp only [Act.put, List.setIfInBounds_toArray, List.set_cons_zero, List.set_cons_succ])
            refine wpAnyH_done (by kernel_rfl) ?_ _
            go_wp2_with fail
            go_meet
            exact ⟨_, _, rfl, by (show Blk _ _ _; repeat (first | with_reducible (refine Hid.out ?_; assumption) | with_reducible apply Blk.drew | with_reducible apply Blk.ext | ((with_reducible refine Blk.new _ _ rfl ?_); first | with_reducible rfl | focus (simp; done)) | ((with_reducible apply Blk.newE); first | with_reducible rfl | focus (simp; done)) | with_reducible apply Blk.alloc | with_reducible assumption | with_reducible apply Blk.setE | ((with_reducible apply Blk.other'); first | omega | (simp; omega)) | (show List.set _ _ _ = _; exact rfl) | focus (show _ < List.length _; simp; done))), by (show Blk _ _ _; repeat (first | with_reducible apply Blk.drew | with_reducible apply Blk.ext | (with_reducible refine Blk.new _ _ bitsV_zero2 ?_; first | with_reducible rfl | focus (simp; done)) | ((with_reducible refine Blk.other' ?_ ?_); first | omega | (simp; omega)) | with_reducible apply Blk.alloc)), by first | omega | (simp; omega), by (show Ext _ _; repeat (first | with_reducible (refine Hid.out ?_; assumption) | with_reducible exact Ext.refl _ | with_reducible refine Ext.ext ?_ _ | with_reducible refine Ext.alloc ?_ _ | with_reducible refine Ext.drew ?_ | with_reducible refine Ext.setCell ?_ (by (try dsimp only); first | omega | (simp; done) | (simp; omega)) _)), by first | omega | (simp; omega), by first | omega | (simp; omega)⟩
          refine AllReadyH.cons (o := ⟨_, _, _, _, _, _⟩) rfl (fun K hK => ?_) AllReadyH.nil
          go_simp
          have hOld := hHeld
          clear hHeld
          refine hK.out _ _ (by exact HSt.out _ (by (show Ext _ _; repeat (first | with_reducible (refine Hid.out ?_; assumption) | with_reducible exact Ext.refl _ | with_reducible refine Ext.ext ?_ _ | with_reducible refine Ext.alloc ?_ _ | with_reducible refine Ext.drew ?_ | with_reducible refine Ext.setCell ?_ (by (try dsimp only); first | omega | (simp; done) | (simp; omega)) _)))) (fun hHeld => ?_)
          clear hOld hK K
          (try simp only [Act.put, List.setIfInBounds_toArray, List.set_cons_zero, List.set_cons_succ])
          refine wpAnyH_ready (rs := [10, 12]) (by kernel_rfl) (by simp) ?_
          refine AllReadyH.cons (o := ⟨_, _, _, _, _, _⟩) rfl (fun K hK => ?_) ?_
          · skip
            go_simp
            have hOld := hHeld
            clear hHeld
            refine hK.out _ _ (by exact HSt.out _ (by (show Ext _ _; repeat (first | with_reducible (refine Hid.out ?_; assumption) | with_reducible exact Ext.refl _ | with_reducible refine Ext.ext ?_ _ | with_reducible refine Ext.alloc ?_ _ | with_reducible refine Ext.drew ?_ | with_reducible refine Ext.setCell ?_ (by (try dsimp only); first | omega | (simp; done) | (simp; omega)) _)))) (fun hHeld => ?_)
            clear hOld hK K
            (try simp only [Act.put, List.setIfInBounds_toArray, List.set_cons_zero, List.set_cons_succ])
            refine take_only 12 (oi := ⟨_, _, _, _, _, _⟩) (by kernel_rfl) rfl (fun K hK => ?_)
            go_simp
            first
              | (go_at_call 21; refine (size_any 3 8 1 _ (HSW.out.of (by (show Ext _ _; repeat (first | with_reducible (refine Hid.out ?_; assumption) | with_reducible exact Ext.refl _ | with_reducible refine Ext.ext ?_ _ | with_reducible refine Ext.alloc ?_ _ | refine Ext.drew ?_ | refine Ext.drewN ?_ _ | exact Ext.refl _))))).mono ?_; rintro e w' ⟨rfl, r5, rfl⟩; rw [HSz.out])
            have hOld := hHeld
            clear hHeld
            refine hK.out _ _ (by exact HSt.out _ (by (show Ext _ _; repeat (first | with_reducible (refine Hid.out ?_; assumption) | with_reducible exact Ext.refl _ | with_reducible refine Ext.ext ?_ _ | with_reducible refine Ext.alloc ?_ _ | with_reducible refine Ext.drew ?_ | with_reducible refine Ext.setCell ?_ (by (try dsimp only); first | omega | (simp; done) | (simp; omega)) _)))) (fun hHeld => ?_)
            clear hOld hK K
            (try simp only [Act.put, List.setIfInBounds_toArray, List.set_cons_zero, List.set_cons_succ])
            refine take_met 13 (oi := ⟨_, _, _, _, _, _⟩) (v := ?_) (by kernel_rfl) rfl (by rfl) (fun _ _ _ h => h) (by assumption) ?_ ?_
            rotate_left 1
            · intro w hSw
              try dsimp only at hSw
              go_simp
              try with_reducible rfl
            (try simp only [Act.put, List.setIfInBounds_toArray, List.set_cons_zero, List.set_cons_succ])
            refine take_met 14 (oi := ⟨_, _, _, _, _, _⟩) (v := ?_) (by kernel_rfl) rfl (by rfl) (fun _ _ _ h => h) (by assumption) ?_ ?_
            rotate_left 1
            · intro w hSw
              try dsimp only at hSw
              go_simp
              try with_reducible rfl
            (try simp only [Act.put, List.setIfInBounds_toArray, List.set_cons_zero, List.set_cons_succ])
            refine take_only 16 (oi := ⟨_, _, _, _, _, _⟩) (by kernel_rfl) rfl (fun K hK => ?_)
            go_simp
            have hOld := hHeld
            clear hHeld
            refine hK.out _ _ (by exact HSt.out _ (by (show Ext _ _; repeat (first | with_reducible (refine Hid.out ?_; assumption) | with_reducible exact Ext.refl _ | with_reducible refine Ext.ext ?_ _ | with_reducible refine Ext.alloc ?_ _ | with_reducible refine Ext.drew ?_ | with_reducible refine Ext.setCell ?_ (by (try dsimp only); first | omega | (simp; done) | (simp; omega)) _)))) (fun hHeld => ?_)
            clear hOld hK K
            (try simp only [Act.put, List.setIfInBounds_toArray, List.set_cons_zero, List.set_cons_succ])
            refine wpAnyH_done (by kernel_rfl) ?_ _
            go_wp2_with fail
            go_meet
            exact ⟨_, _, rfl, by (show Blk _ _ _; repeat (first | with_reducible (refine Hid.out ?_; assumption) | with_reducible apply Blk.drew | with_reducible apply Blk.ext | ((with_reducible refine Blk.new _ _ rfl ?_); first | with_reducible rfl | focus (simp; done)) | ((with_reducible apply Blk.newE); first | with_reducible rfl | focus (simp; done)) | with_reducible apply Blk.alloc | with_reducible assumption | with_reducible apply Blk.setE | ((with_reducible apply Blk.other'); first | omega | (simp; omega)) | (show List.set _ _ _ = _; exact rfl) | focus (show _ < List.length _; simp; done))), by (show Blk _ _ _; repeat (first | with_reducible apply Blk.drew | with_reducible apply Blk.ext | (with_reducible refine Blk.new _ _ bitsV_zero2 ?_; first | with_reducible rfl | focus (simp; done)) | ((with_reducible refine Blk.other' ?_ ?_); first | omega | (simp; omega)) | with_reducible apply Blk.alloc)), by first | omega | (simp; omega), by (show Ext _ _; repeat (first | with_reducible (refine Hid.out ?_; assumption) | with_reducible exact Ext.refl _ | with_reducible refine Ext.ext ?_ _ | with_reducible refine Ext.alloc ?_ _ | with_reducible refine Ext.drew ?_ | with_reducible refine Ext.setCell ?_ (by (try dsimp only); first | omega | (simp; done) | (simp; omega)) _)), by first | omega | (simp; omega), by first | omega | (simp; omega)⟩
          refine AllReadyH.cons (o := ⟨_, _, _, _, _, _⟩) rfl (fun K hK => ?_) AllReadyH.nil
          go_simp
          first
            | (go_at_call 21; refine (size_any 3 8 1 _ (HSW.out.of (by (show Ext _ _; repeat (first | with_reducible (refine Hid.out ?_; assumption) | with_reducible exact Ext.refl _ | with_reducible refine Ext.ext ?_ _ | with_reducible refine Ext.alloc ?_ _ | refine Ext.drew ?_ | refine Ext.drewN ?_ _ | exact Ext.refl _))))).mono ?_; rintro e w' ⟨rfl, r5, rfl⟩; rw [HSz.out])
          have hOld := hHeld
          clear hHeld
          refine hK.out _ _ (by exact HSt.out _ (by (show Ext _ _; repeat (first | with_reducible (refine Hid.out ?_; assumption) | with_reducible exact Ext.refl _ | with_reducible refine Ext.ext ?_ _ | with_reducible refine Ext.alloc ?_ _ | with_reducible refine Ext.drew ?_ | with_reducible refine Ext.setCell ?_ (by (try dsimp only); first | omega | (simp; done) | (simp; omega)) _)))) (fun hHeld => ?_)
          clear hOld hK K
          (try simp only [Act.put, List.setIfInBounds_toArray, List.set_cons_zero, List.set_cons_succ])
          refine take_only 10 (oi := ⟨_, _, _, _, _, _⟩) (by kernel_rfl) rfl (fun K hK => ?_)
          go_simp
          have hOld := hHeld
          clear hHeld
          refine hK.out _ _ (by exact HSt.out _ (by (show Ext _ _; repeat (first | with_reducible (refine Hid.out ?_; assumption) | with_reducible exact Ext.refl _ | with_reducible refine Ext.ext ?_ _ | with_reducible refine Ext.alloc ?_ _ | with_reducible refine Ext.drew ?_ | with_reducible refine Ext.setCell ?_ (by (try dsimp only); first | omega | (simp; done) | (simp; omega)) _)))) (fun hHeld => ?_)
          clear hOld hK K
          (try simp only [Act.put, List.setIfInBounds_toArray, List.set_cons_zero, List.set_cons_succ])
          refine take_met 13 (oi := ⟨_, _, _, _, _, _⟩) (v := ?_) (by kernel_rfl) rfl (by rfl) (fun _ _ _ h => h) (by assumption) ?_ ?_
          rotate_left 1
          · intro w hSw
            try dsimp only at hSw
            go_simp
            try with_reducible rfl
          (try simp only [Act.put, List.setIfInBounds_toArray, List.set_cons_zero, List.set_cons_succ])
          refine take_met 14 (oi := ⟨_, _, _, _, _, _⟩) (v := ?_) (by kernel_rfl) rfl (by rfl) (fun _ _ _ h => h) (by assumption) ?_ ?_
          rotate_left 1
          · intro w hSw
            try dsimp only at hSw
            go_simp
            try with_reducible rfl
          (try simp only [Act.put, List.setIfInBounds_toArray, List.set_cons_zero, List.set_cons_succ])
          refine take_only 16 (oi := ⟨_, _, _, _, _, _⟩) (by kernel_rfl) rfl (fun K hK => ?_)
          go_simp
          have hOld := hHeld
          clear hHeld
          refine hK.out _ _ (by exact HSt.out _ (by (show Ext _ _; repeat (first | with_reducible (refine Hid.out ?_; assumption) | with_reducible exact Ext.refl _ | with_reducible refine Ext.ext ?_ _ | with_reducible refine Ext.alloc ?_ _ | with_reducible refine Ext.drew ?_ | with_reducible refine Ext.setCell ?_ (by (try dsimp only); first | omega | (simp; done) | (simp; omega)) _)))) (fun hHeld => ?_)
          clear hOld hK K
          (try simp only [Act.put, List.setIfInBounds_toArray, List.set_cons_zero, List.set_cons_succ])
          refine wpAnyH_done (by kernel_rfl) ?_ _
          go_wp2_with fail
          go_meet
          exact ⟨_, _, rfl, by (show Blk _ _ _; repeat (first | with_reducible (refine Hid.out ?_; assumption) | with_reducible apply Blk.drew | with_reducible apply Blk.ext | ((with_reducible refine Blk.new _ _ rfl ?_); first | with_reducible rfl | focus (simp; done)) | ((with_reducible apply Blk.newE); first | with_reducible rfl | focus (simp; done)) | with_reducible apply Blk.alloc | with_reducible assumption | with_reducible apply Blk.setE | ((with_reducible apply Blk.other'); first | omega | (simp; omega)) | (show List.set _ _ _ = _; exact rfl) | focus (show _ < List.length _; simp; done))), by (show Blk _ _ _; repeat (first | with_reducible apply Blk.drew | with_reducible apply Blk.ext | (with_reducible refine Blk.new _ _ bitsV_zero2 ?_; first | with_reducible rfl | focus (simp; done)) | ((with_reducible refine Blk.other' ?_ ?_); first | omega | (simp; omega)) | with_reducible apply Blk.alloc)), by first | omega | (simp; omega), by (show Ext _ _; repeat (first | with_reducible (refine Hid.out ?_; assumption) | with_reducible exact Ext.refl _ | with_reducible refine Ext.ext ?_ _ | with_reducible refine Ext.alloc ?_ _ | with_reducible refine Ext.drew ?_ | with_reducible refine Ext.setCell ?_ (by (try dsimp only); first | omega | (simp; done) | (simp; omega)) _)), by first | omega | (simp; omega), by first | omega | (simp; omega)⟩
        refine AllReadyH.cons (o := ⟨_, _, _, _, _, _⟩) rfl (fun K hK => ?_) AllReadyH.nil
        go_simp
        have hOld := hHeld
        clear hHeld
        refine hK.out _ _ (by exact HSt.out _ (by (show Ext _ _; repeat (first | with_reducible (refine Hid.out ?_; assumption) | with_reducible exact Ext.refl _ | with_reducible refine Ext.ext ?_ _ | with_reducible refine Ext.alloc ?_ _ | with_reducible refine Ext.drew ?_ | with_reducible refine Ext.setCell ?_ (by (try dsimp only); first | omega | (simp; done) | (simp; omega)) _)))) (fun hHeld => ?_)
        clear hOld hK K
        (try simp only [Act.put, List.setIfInBounds_toArray, List.set_cons_zero, List.set_cons_succ])
        refine take_only 9 (oi := ⟨_, _, _, _, _, _⟩) (by kernel_rfl) rfl (fun K hK => ?_)
        go_simp
        first
          | (go_at_call 21; refine (size_any 3 8 1 _ (HSW.out.of (by (show Ext _ _; repeat (first | with_reducible (refine Hid.out ?_; assumption) | with_reducible exact Ext.refl _ | with_reducible refine Ext.ext ?_ _ | with_reducible refine Ext.alloc ?_ _ | refine Ext.drew ?_ | refine Ext.drewN ?_ _ | exact Ext.refl _))))).mono ?_; rintro e w' ⟨rfl, r4, rfl⟩; rw [HSz.out])
        have hOld := hHeld
        clear hHeld
        refine hK.out _ _ (by exact HSt.out _ (by (show Ext _ _; repeat (first | with_reducible (refine Hid.out ?_; assumption) | with_reducible exact Ext.refl _ | with_reducible refine Ext.ext ?_ _ | with_reducible refine Ext.alloc ?_ _ | with_reducible refine Ext.drew ?_ | with_reducible refine Ext.setCell ?_ (by (try dsimp only); first | omega | (simp; done) | (simp; omega)) _)))) (fun hHeld => ?_)
        clear hOld hK K
        (try simp only [Act.put, List.setIfInBounds_toArray, List.set_cons_zero, List.set_cons_succ])
        refine wpAnyH_ready (rs := [10, 12]) (by kernel_rfl) (by simp) ?_
        refine AllReadyH.cons (o := ⟨_, _, _, _, _, _⟩) rfl (fun K hK => ?_) ?_
        · skip
          go_simp
          have hOld := hHeld
          clear hHeld
          refine hK.out _ _ (by exact HSt.out _ (by (show Ext _ _; repeat (first | with_reducible (refine Hid.out ?_; assumption) | with_reducible exact Ext.refl _ | with_reducible refine Ext.ext ?_ _ | with_reducible refine Ext.alloc ?_ _ | with_reducible refine Ext.drew ?_ | with_reducible refine Ext.setCell ?_ (by (try dsimp only); first | omega | (simp; done) | (simp; omega)) _)))) (fun hHeld => ?_)
          clear hOld hK K
          (try simp only [Act.put, List.setIfInBounds_toArray, List.set_cons_zero, List.set_cons_succ])
          refine take_only 12 (oi := ⟨_, _, _, _, _, _⟩) (by kernel_rfl) rfl (fun K hK => ?_)
          go_simp
          first
            | (go_at_call 21; refine (size_any 3 8 1 _ (HSW.out.of (by (show Ext _ _; repeat (first | with_reducible (refine Hid.out ?_; assumption) | with_reducible exact Ext.refl _ | with_reducible refine Ext.ext ?_ _ | with_reducible refine Ext.alloc ?_ _ | refine Ext.drew ?_ | refine Ext.drewN ?_ _ | exact Ext.refl _))))).mono ?_; rintro e w' ⟨rfl, r5, rfl⟩; rw [HSz.out])
          have hOld := hHeld
          clear hHeld
          refine hK.out _ _ (by exact HSt.out _ (by (show Ext _ _; repeat (first | with_reducible (refine Hid.out ?_; assumption) | with_reducible exact Ext.refl _ | with_reducible refine Ext.ext ?_ _ | with_reducible refine Ext.alloc ?_ _ | with_reducible refine Ext.drew ?_ | with_reducible refine Ext.setCell ?_ (by (try dsimp only); first | omega | (simp; done) | (simp; omega)) _)))) (fun hHeld => ?_)
          clear hOld hK K
          (try simp only [Act.put, List.setIfInBounds_toArray, List.set_cons_zero, List.set_cons_succ])
          refine take_met 13 (oi := ⟨_, _, _, _, _, _⟩) (v := ?_) (by kernel_rfl) rfl (by rfl) (fun _ _ _ h => h) (by assumption) ?_ ?_
          rotate_left 1
          · intro w hSw
            try dsimp only at hSw
            go_simp
            try with_reducible rfl
          (try simp only [Act.put, List.setIfInBounds_toArray, List.set_cons_zero, List.set_cons_succ])
          refine take_met 14 (oi := ⟨_, _, _, _, _, _⟩) (v := ?_) (by kernel_rfl) rfl (by rfl) (fun _ _ _ h => h) (by assumption) ?_ ?_
          rotate_left 1
          · intro w hSw
            try dsimp only at hSw
            go_simp
            try with_reducible rfl
          (try simp only [Act.put, List.setIfInBounds_toArray, List.set_cons_zero, List.set_cons_succ])
          refine take_only 16 (oi := ⟨_, _, _, _, _, _⟩) (by kernel_rfl) rfl (fun K hK => ?_)
          go_simp
          have hOld := hHeld
          clear hHeld
          refine hK.out _ _ (by exact HSt.out _ (by (show Ext _ _; repeat (first | with_reducible (refine Hid.out ?_; assumption) | with_reducible exact Ext.refl _ | with_reducible refine Ext.ext ?_ _ | with_reducible refine Ext.alloc ?_ _ | with_reducible refine Ext.drew ?_ | with_reducible refine Ext.setCell ?_ (by (try dsimp only); first | omega | (simp; done) | (simp; omega)) _)))) (fun hHeld => ?_)
          clear hOld hK K
          (try simp only [Act.put, List.setIfInBounds_toArray, List.set_cons_zero, List.set_cons_succ])
          refine wpAnyH_done (by kernel_rfl) ?_ _
          go_wp2_with fail
          go_meet
          exact ⟨_, _, rfl, by (show Blk _ _ _; repeat (first | with_reducible (refine Hid.out ?_; assumption) | with_reducible apply Blk.drew | with_reducible apply Blk.ext | ((with_reducible refine Blk.new _ _ rfl ?_); first | with_reducible rfl | focus (simp; done)) | ((with_reducible apply Blk.newE); first | with_reducible rfl | focus (simp; done)) | with_reducible apply Blk.alloc | with_reducible assumption | with_reducible apply Blk.setE | ((with_reducible apply Blk.other'); first | omega | (simp; omega)) | (show List.set _ _ _ = _; exact rfl) | focus (show _ < List.length _; simp; done))), by (show Blk _ _ _; repeat (first | with_reducible apply Blk.drew | with_reducible apply Blk.ext | (with_reducible refine Blk.new _ _ bitsV_zero2 ?_; first | with_reducible rfl | focus (simp; done)) | ((with_reducible refine Blk.other' ?_ ?_); first | omega | (simp; omega)) | with_reducible apply Blk.alloc)), by first | omega | (simp; omega), by (show Ext _ _; repeat (first | with_reducible (refine Hid.out ?_; assumption) | with_reducible exact Ext.refl _ | with_reducible refine Ext.ext ?_ _ | with_reducible refine Ext.alloc ?_ _ | with_reducible refine Ext.drew ?_ | with_reducible refine Ext.setCell ?_ (by (try dsimp only); first | omega | (simp; done) | (simp; omega)) _)), by first | omega | (simp; omega), by first | omega | (simp; omega)⟩
        refine AllReadyH.cons (o := ⟨_, _, _, _, _, _⟩) rfl (fun K hK => ?_) AllReadyH.nil
        go_simp
        first
          | (go_at_call 21; refine (size_any 3 8 1 _ (HSW.out.of (by (show Ext _ _; repeat (first | with_reducible (refine Hid.out ?_; assumption) | with_reducible exact Ext.refl _ | with_reducible refine Ext.ext ?_ _ | with_reducible refine Ext.alloc ?_ _ | refine Ext.drew ?_ | refine Ext.drewN ?_ _ | exact Ext.refl _))))).mono ?_; rintro e w' ⟨rfl, r5, rfl⟩; rw [HSz.out])
        have hOld := hHeld
        clear hHeld
        refine hK.out _ _ (by exact HSt.out _ (by (show Ext _ _; repeat (first | with_reducible (refine Hid.out ?_; assumption) | with_reducible exact Ext.refl _ | with_reducible refine Ext.ext ?_ _ | with_reducible refine Ext.alloc ?_ _ | with_reducible refine Ext.drew ?_ | with_reducible refine Ext.setCell ?_ (by (try dsimp only); first | omega | (simp; done) | (simp; omega)) _)))) (fun hHeld => ?_)
        clear hOld hK K
        (try simp only [Act.put, List.setIfInBounds_toArray, List.set_cons_zero, List.set_cons_succ])
        refine take_only 10 (oi := ⟨_, _, _, _, _, _⟩) (by kernel_rfl) rfl (fun K hK => ?_)
        go_simp
        have hOld := hHeld
        clear hHeld
        refine hK.out _ _ (by exact HSt.out _ (by (show Ext _ _; repeat (first | with_reducible (refine Hid.out ?_; assumption) | with_reducible exact Ext.refl _ | with_reducible refine Ext.ext ?_ _ | with_reducible refine Ext.alloc ?_ _ | with_reducible refine Ext.drew ?_ | with_reducible refine Ext.setCell ?_ (by (try dsimp only); first | omega | (simp; done) | (simp; omega)) _)))) (fun hHeld => ?_)
        clear hOld hK K
        (try simp only [Act.put, List.setIfInBounds_toArray, List.set_cons_zero, List.set_cons_succ])
        refine take_met 13 (oi := ⟨_, _, _, _, _, _⟩) (v := ?_) (by kernel_rfl) rfl (by rfl) (fun _ _ _ h => h) (by assumption) ?_ ?_
        rotate_left 1
        · intro w hSw
          try dsimp only at hSw
          go_simp
          try with_reducible rfl
        (try simp only [Act.put, List.setIfInBounds_toArray, List.set_cons_zero, List.set_cons_succ])
        refine take_met 14 (oi := ⟨_, _, _, _, _, _⟩) (v := ?_) (by kernel_rfl) rfl (by rfl) (fun _ _ _ h => h) (by assumption) ?_ ?_
        rotate_left 1
        · intro w hSw
          try dsimp only at hSw
          go_simp
          try with_reducible rfl
        (try simp only [Act.put, List.setIfInBounds_toArray, List.set_cons_zero, List.set_cons_succ])
        refine take_only 16 (oi := ⟨_, _, _, _, _, _⟩) (by kernel_rfl) rfl (fun K hK => ?_)
        go_simp
        have hOld := hHeld
        clear hHeld
        refine hK.out _ _ (by exact HSt.out _ (by (show Ext _ _; repeat (first | with_reducible (refine Hid.out ?_; assumption) | with_reducible exact Ext.refl _ | with_reducible refine Ext.ext ?_ _ | with_reducible refine Ext.alloc ?_ _ | with_reducible refine Ext.drew ?_ | with_reducible refine Ext.setCell ?_ (by (try dsimp only); first | omega | (simp; done) | (simp; omega)) _)))) (fun hHeld => ?_)
        clear hOld hK K
        (try simp only [Act.put, List.setIfInBounds_toArray, List.set_cons_zero, List.set_cons_succ])
        refine wpAnyH_done (by kernel_rfl) ?_ _
        go_wp2_with fail
        go_meet
        exact ⟨_, _, rfl, by (show Blk _ _ _; repeat (first | with_reducible (refine Hid.out ?_; assumption) | with_reducible apply Blk.drew | with_reducible apply Blk.ext | ((with_reducible refine Blk.new _ _ rfl ?_); first | with_reducible rfl | focus (simp; done)) | ((with_reducible apply Blk.newE); first | with_reducible rfl | focus (simp; done)) | with_reducible apply Blk.alloc | with_reducible assumption | with_reducible apply Blk.setE | ((with_reducible apply Blk.other'); first | omega | (simp; omega)) | (show List.set _ _ _ = _; exact rfl) | focus (show _ < List.length _; simp; done))), by (show Blk _ _ _; repeat (first | with_reducible apply Blk.drew | with_reducible apply Blk.ext | (with_reducible refine Blk.new _ _ bitsV_zero2 ?_; first | with_reducible rfl | focus (simp; done)) | ((with_reducible refine Blk.other' ?_ ?_); first | omega | (simp; omega)) | with_reducible apply Blk.alloc)), by first | omega | (simp; omega), by (show Ext _ _; repeat (first | with_reducible (refine Hid.out ?_; assumption) | with_reducible exact Ext.refl _ | with_reducible refine Ext.ext ?_ _ | with_reducible refine Ext.alloc ?_ _ | with_reducible refine Ext.drew ?_ | with_reducible refine Ext.setCell ?_ (by (try dsimp only); first | omega | (simp; done) | (simp; omega)) _)), by first | omega | (simp; omega), by first | omega | (simp; omega)⟩
      refine AllReadyH.cons (o := ⟨_, _, _, _, _, _⟩) rfl (fun K hK => ?_) AllReadyH.nil
      go_simp
      have hOld := hHeld
      clear hHeld
      refine hK.out _ _ (by exact HSt.out _ (by (show Ext _ _; repeat (first | with_reducible (refine Hid.out ?_; assumption) | with_reducible exact Ext.refl _ | with_reducible refine Ext.ext ?_ _ | with_reducible refine Ext.alloc ?_ _ | with_reducible refine Ext.drew ?_ | with_reducible refine Ext.setCell ?_ (by (try dsimp only); first | omega | (simp; done) | (simp; omega)) _)))) (fun hHeld => ?_)
      clear hOld hK K
      (try simp only [Act.put, List.setIfInBounds_toArray, List.set_cons_zero, List.set_cons_succ])
      refine take_only 7 (oi := ⟨_, _, _, _, _, _⟩) (by kernel_rfl) rfl (fun K hK => ?_)
      go_simp
      first
        | (go_at_call 30; refine (block_any 3 8 1 0 _ (HSW.out.of (by (show Ext _ _; repeat (first | with_reducible (refine Hid.out ?_; assumption) | with_reducible exact Ext.refl _ | with_reducible refine Ext.ext ?_ _ | with_reducible refine Ext.alloc ?_ _ | refine Ext.drew ?_ | refine Ext.drewN ?_ _ | exact Ext.refl _))))).mono ?_; rintro e w' ⟨rfl, r3, rfl⟩; rw [HBl.out])
      have hOld := hHeld
      clear hHeld
      refine hK.out _ _ (by exact HSt.out _ (by (show Ext _ _; repeat (first | with_reducible (refine Hid.out ?_; assumption) | with_reducible exact Ext.refl _ | with_reducible refine Ext.ext ?_ _ | with_reducible refine Ext.alloc ?_ _ | with_reducible refine Ext.drew ?_ | with_reducible refine Ext.setCell ?_ (by (try dsimp only); first | omega | (simp; done) | (simp; omega)) _)))) (fun hHeld => ?_)
      clear hOld hK K
      (try simp only [Act.put, List.setIfInBounds_toArray, List.set_cons_zero, List.set_cons_succ])
      refine take_only 9 (oi := ⟨_, _, _, _, _, _⟩) (by kernel_rfl) rfl (fun K hK => ?_)
      go_simp
      first
        | (go_at_call 21; refine (size_any 3 8 1 _ (HSW.out.of (by (show Ext _ _; repeat (first | with_reducible (refine Hid.out ?_; assumption) | with_reducible exact Ext.refl _ | with_reducible refine Ext.ext ?_ _ | with_reducible refine Ext.alloc ?_ _ | refine Ext.drew ?_ | refine Ext.drewN ?_ _ | exact Ext.refl _))))).mono ?_; rintro e w' ⟨rfl, r4, rfl⟩; rw [HSz.out])
      have hOld := hHeld
      clear hHeld
      refine hK.out _ _ (by exact HSt.out _ (by (show Ext _ _; repeat (first | with_reducible (refine Hid.out ?_; assumption) | with_reducible exact Ext.refl _ | with_reducible refine Ext.ext ?_ _ | with_reducible refine Ext.alloc ?_ _ | with_reducible refine Ext.drew ?_ | with_reducible refine Ext.setCell ?_ (by (try dsimp only); first | omega | (simp; done) | (simp; omega)) _)))) (fun hHeld => ?_)
      clear hOld hK K
      (try simp only [Act.put, List.setIfInBounds_toArray, List.set_cons_zero, List.set_cons_succ])
      refine wpAnyH_ready (rs := [10, 12]) (by kernel_rfl) (by simp) ?_
      refine AllReadyH.cons (o := ⟨_, _, _, _, _, _⟩) rfl (fun K hK => ?_) ?_
      · skip
        go_simp
        have hOld := hHeld
        clear hHeld
        refine hK.out _ _ (by exact HSt.out _ (by (show Ext _ _; repeat (first | with_reducible (refine Hid.out ?_; assumption) | with_reducible exact Ext.refl _ | with_reducible refine Ext.ext ?_ _ | with_reducible refine Ext.alloc ?_ _ | with_reducible refine Ext.drew ?_ | with_reducible refine Ext.setCell ?_ (by (try dsimp only); first | omega | (simp; done) | (simp; omega)) _)))) (fun hHeld => ?_)
        clear hOld hK K
        (try simp only [Act.put, List.setIfInBounds_toArray, List.set_cons_zero, List.set_cons_succ])
        refine take_only 12 (oi := ⟨_, _, _, _, _, _⟩) (by kernel_rfl) rfl (fun K hK => ?_)
        go_simp
        first
          | (go_at_call 21; refine (size_any 3 8 1 _ (HSW.out.of (by (show Ext _ _; repeat (first | with_reducible (refine Hid.out ?_; assumption) | with_reducible exact Ext.refl _ | with_reducible refine Ext.ext ?_ _ | with_reducible refine Ext.alloc ?_ _ | refine Ext.drew ?_ | refine Ext.drewN ?_ _ | exact Ext.refl _))))).mono ?_; rintro e w' ⟨rfl, r5, rfl⟩; rw [HSz.out])
        have hOld := hHeld
        clear hHeld
        refine hK.out _ _ (by exact HSt.out _ (by (show Ext _ _; repeat (first | with_reducible (refine Hid.out ?_; assumption) | with_reducible exact Ext.refl _ | with_reducible refine Ext.ext ?_ _ | with_reducible refine Ext.alloc ?_ _ | with_reducible refine Ext.drew ?_ | with_reducible refine Ext.setCell ?_ (by (try dsimp only); first | omega | (simp; done) | (simp; omega)) _)))) (fun hHeld => ?_)
        clear hOld hK K
        (try simp only [Act.put, List.setIfInBounds_toArray, List.set_cons_zero, List.set_cons_succ])
        refine take_met 13 (oi := ⟨_, _, _, _, _, _⟩) (v := ?_) (by kernel_rfl) rfl (by rfl) (fun _ _ _ h => h) (by assumption) ?_ ?_
        rotate_left 1
        · intro w hSw
          try dsimp only at hSw
          go_simp
          try with_reducible rfl
        (try simp only [Act.put, List.setIfInBounds_toArray, List.set_cons_zero, List.set_cons_succ])
        refine take_met 14 (oi := ⟨_, _, _, _, _, _⟩) (v := ?_) (by kernel_rfl) rfl (by rfl) (fun _ _ _ h => h) (by assumption) ?_ ?_
        rotate_left 1
        · intro w hSw
          try dsimp only at hSw
          go_simp
          try with_reducible rfl
        (try simp only [Act.put, List.setIfInBounds_toArray, List.set_cons_zero, List.set_cons_succ])
        refine take_only 16 (oi := ⟨_, _, _, _, _, _⟩) (by kernel_rfl) rfl (fun K hK => ?_)
        go_simp
        have hOld := hHeld
        clear hHeld
        refine hK.out _ _ (by exact HSt.out _ (by (show Ext _ _; repeat (first | with_reducible (refine Hid.out ?_; assumption) | with_reducible exact Ext.refl _ | with_reducible refine Ext.ext ?_ _ | with_reducible refine Ext.alloc ?_ _ | with_reducible refine Ext.drew ?_ | with_reducible refine Ext.setCell ?_ (by (try dsimp only); first | omega | (simp; done) | (simp; omega)) _)))) (fun hHeld => ?_)
        clear hOld hK K
        (try simp only [Act.put, List.setIfInBounds_toArray, List.set_cons_zero, List.set_cons_succ])
        refine wpAnyH_done (by kernel_rfl) ?_ _
        go_wp2_with fail
        go_meet
        exact ⟨_, _, rfl, by (show Blk _ _ _; repeat (first | with_reducible (refine Hid.out ?_; assumption) | with_reducible apply Blk.drew | with_reducible apply Blk.ext | ((with_reducible refine Blk.new _ _ rfl ?_); first | with_reducible rfl | focus (simp; done)) | ((with_reducible apply Blk.newE); first | with_reducible rfl | focus (simp; done)) | with_reducible apply Blk.alloc | with_reducible assumption | with_reducible apply Blk.setE | ((with_reducible apply Blk.other'); first | omega | (simp; omega)) | (show List.set _ _ _ = _; exact rfl) | focus (show _ < List.length _; simp; done))), by (show Blk _ _ _; repeat (first | with_reducible apply Blk.drew | with_reducible apply Blk.ext | (with_reducible refine Blk.new _ _ bitsV_zero2 ?_; first | with_reducible rfl | focus (simp; done)) | ((with_reducible refine Blk.other' ?_ ?_); first | omega | (simp; omega)) | with_reducible apply Blk.alloc)), by first | omega | (simp; omega), by (show Ext _ _; repeat (first | with_reducible (refine Hid.out ?_; assumption) | with_reducible exact Ext.refl _ | with_reducible refine Ext.ext ?_ _ | with_reducible refine Ext.alloc ?_ _ | with_reducible refine Ext.drew ?_ | with_reducible refine Ext.setCell ?_ (by (try dsimp only); first | omega | (simp; done) | (simp; omega)) _)), by first | omega | (simp; omega), by first | omega | (simp; omega)⟩
      refine AllReadyH.cons (o := ⟨_, _, _, _, _, _⟩) rfl (fun K hK => ?_) AllReadyH.nil
      go_simp
      first
        | (go_at_call 21; refine (size_any 3 8 1 _ (HSW.out.of (by (show Ext _ _; repeat (first | with_reducible (refine Hid.out ?_; assumption) | with_reducible exact Ext.refl _ | with_reducible refine Ext.ext ?_ _ | with_reducible refine Ext.alloc ?_ _ | refine Ext.drew ?_ | refine Ext.drewN ?_ _ | exact Ext.refl _))))).mono ?_; rintro e w' ⟨rfl, r5, rfl⟩; rw [HSz.out])
      have hOld := hHeld
      clear hHeld
      refine hK.out _ _ (by exact HSt.out _ (by (show Ext _ _; repeat (first | with_reducible (refine Hid.out ?_; assumption) | with_reducible exact Ext.refl _ | with_reducible refine Ext.ext ?_ _ | with_reducible refine Ext.alloc ?_ _ | with_reducible refine Ext.drew ?_ | with_reducible refine Ext.setCell ?_ (by (try dsimp only); first | omega | (simp; done) | (simp; omega)) _)))) (fun hHeld => ?_)
      clear hOld hK K
      (try simp only [Act.put, List.setIfInBounds_toArray, List.set_cons_zero, List.set_cons_succ])
      refine take_only 10 (oi := ⟨_, _, _, _, _, _⟩) (by kernel_rfl) rfl (fun K hK => ?_)
      go_simp
      have hOld := hHeld
      clear hHeld
      refine hK.out _ _ (by exact HSt.out _ (by (show Ext _ _; repeat (first | with_reducible (refine Hid.out ?_; assumption) | with_reducible exact Ext.refl _ | with_reducible refine Ext.ext ?_ _ | with_reducible refine Ext.alloc ?_ _ | with_reducible refine Ext.drew ?_ | with_reducible refine Ext.setCell ?_ (by (try dsimp only); first | omega | (simp; done) | (simp; omega)) _)))) (fun hHeld => ?_)
      clear hOld hK K
      (try simp only [Act.put, List.setIfInBounds_toArray, List.set_cons_zero, List.set_cons_succ])
      refine take_met 13 (oi := ⟨_, _, _, _, _, _⟩) (v := ?_) (by kernel_rfl) rfl (by rfl) (fun _ _ _ h => h) (by assumption) ?_ ?_
      rotate_left 1
      · intro w hSw
        try dsimp only at hSw
        go_simp
        try with_reducible rfl
      (try simp only [Act.put, List.setIfInBounds_toArray, List.set_cons_zero, List.set_cons_succ])
      refine take_met 14 (oi := ⟨_, _, _, _, _, _⟩) (v := ?_) (by kernel_rfl) rfl (by rfl) (fun _ _ _ h => h) (by assumption) ?_ ?_
      rotate_left 1
      · intro w hSw
        try dsimp only at hSw
        go_simp
        try with_reducible rfl
      (try simp only [Act.put, List.setIfInBounds_toArray, List.set_cons_zero, List.set_cons_succ])
      refine take_only 16 (oi := ⟨_, _, _, _, _, _⟩) (by kernel_rfl) rfl (fun K hK => ?_)
      go_simp
      have hOld := hHeld
      clear hHeld
      refine hK.out _ _ (by exact HSt.out _ (by (show Ext _ _; repeat (first | with_reducible (refine Hid.out ?_; assumption) | with_reducible exact Ext.refl _ | with_reducible refine Ext.ext ?_ _ | with_reducible refine Ext.alloc ?_ _ | with_reducible refine Ext.drew ?_ | with_reducible refine Ext.setCell ?_ (by (try dsimp only); first | omega | (simp; done) | (simp; omega)) _)))) (fun hHeld => ?_)
      clear hOld hK K
      (try simp only [Act.put, List.setIfInBounds_toArray, List.set_cons_zero, List.set_cons_succ])
      refine wpAnyH_done (by kernel_rfl) ?_ _
      go_wp2_with fail
      go_meet
      exact ⟨_, _, rfl, by (show Blk _ _ _; repeat (first | with_reducible (refine Hid.out ?_; assumption) | with_reducible apply Blk.drew | with_reducible apply Blk.ext | ((with_reducible refine Blk.new _ _ rfl ?_); first | with_reducible rfl | focus (simp; done)) | ((with_reducible apply Blk.newE); first | with_reducible rfl | focus (simp; done)) | with_reducible apply Blk.alloc | with_reducible assumption | with_reducible apply Blk.setE | ((with_reducible apply Blk.other'); first | omega | (simp; omega)) | (show List.set _ _ _ = _; exact rfl) | focus (show _ < List.length _; simp; done))), by (show Blk _ _ _; repeat (first | with_reducible apply Blk.drew | with_reducible apply Blk.ext | (with_reducible refine Blk.new _ _ bitsV_zero2 ?_; first | with_reducible rfl | focus (simp; done)) | ((with_reducible refine Blk.other' ?_ ?_); first | omega | (simp; omega)) | with_reducible apply Blk.alloc)), by first | omega | (simp; omega), by (show Ext _ _; repeat (first | with_reducible (refine Hid.out ?_; assumption) | with_reducible exact Ext.refl _ | with_reducible refine Ext.ext ?_ _ | with_reducible refine Ext.alloc ?_ _ | with_reducible refine Ext.drew ?_ | with_reducible refine Ext.setCell ?_ (by (try dsimp only); first | omega | (simp; done) | (simp; omega)) _)), by first | omega | (simp; omega), by first | omega | (simp; omega)⟩
    refine AllReadyH.cons (o := ⟨_, _, _, _, _, _⟩) rfl (fun K hK => ?_) AllReadyH.nil
    go_simp
    have hOld := hHeld
    clear hHeld
    refine hK.out _ _ (by exact HSt.out _ (by (show Ext _ _; repeat (first | with_reducible (refine Hid.out ?_; assumption) | with_reducible exact Ext.refl _ | with_reducible refine Ext.ext ?_ _ | with_reducible refine Ext.alloc ?_ _ | with_reducible refine Ext.drew ?_ | with_reducible refine Ext.setCell ?_ (by (try dsimp only); first | omega | (simp; done) | (simp; omega)) _)))) (fun hHeld => ?_)
    clear hOld hK K
    (try simp only [Act.put, List.setIfInBounds_toArray, List.set_cons_zero, List.set_cons_succ])
    refine take_only 5 (oi := ⟨_, _, _, _, _, _⟩) (by kernel_rfl) rfl (fun K hK => ?_)
    go_simp
    first
      | (go_at_call 17; refine (slot_any 3 8 1 1 _ (HSW.out.of (by (show Ext _ _; repeat (first | with_reducible (refine Hid.out ?_; assumption) | with_reducible exact Ext.refl _ | with_reducible refine Ext.ext ?_ _ | with_reducible refine Ext.alloc ?_ _ | refine Ext.drew ?_ | refine Ext.drewN ?_ _ | exact Ext.refl _))))).mono ?_; rintro e w' ⟨rfl, r2, rfl⟩; rw [HSl.out])
    have hOld := hHeld
    clear hHeld
    refine hK.out _ _ (by exact HSt.out _ (by (show Ext _ _; repeat (first | with_reducible (refine Hid.out ?_; assumption) | with_reducible exact Ext.refl _ | with_reducible refine Ext.ext ?_ _ | with_reducible refine Ext.alloc ?_ _ | with_reducible refine Ext.drew ?_ | with_reducible refine Ext.setCell ?_ (by (try dsimp only); first | omega | (simp; done) | (simp; omega)) _)))) (fun hHeld => ?_)
    clear hOld hK K
    (try simp only [Act.put, List.setIfInBounds_toArray, List.set_cons_zero, List.set_cons_succ])
    refine take_only 7 (oi := ⟨_, _, _, _, _, _⟩) (by kernel_rfl) rfl (fun K hK => ?_)
    go_simp
    first
      | (go_at_call 30; refine (block_any 3 8 1 0 _ (HSW.out.of (by (show Ext _ _; repeat (first | with_reducible (refine Hid.out ?_; assumption) | with_reducible exact Ext.refl _ | with_reducible refine Ext.ext ?_ _ | with_reducible refine Ext.alloc ?_ _ | refine Ext.drew ?_ | refine Ext.drewN ?_ _ | exact Ext.refl _))))).mono ?_; rintro e w' ⟨rfl, r3, rfl⟩; rw [HBl.out])
    have hOld := hHeld
    clear hHeld
    refine hK.out _ _ (by exact HSt.out _ (by (show Ext _ _; repeat (first | with_reducible (refine Hid.out ?_; assumption) | with_reducible exact Ext.refl _ | with_reducible refine Ext.ext ?_ _ | with_reducible refine Ext.alloc ?_ _ | with_reducible refine Ext.drew ?_ | with_reducible refine Ext.setCell ?_ (by (try dsimp only); first | omega | (simp; done) | (simp; omega)) _)))) (fun hHeld => ?_)
    clear hOld hK K
    (try simp only [Act.put, List.setIfInBounds_toArray, List.set_cons_zero, List.set_cons_succ])
    refine take_only 9 (oi := ⟨_, _, _, _, _, _⟩) (by kernel_rfl) rfl (fun K hK => ?_)
    go_simp
    first
      | (go_at_call 21; refine (size_any 3 8 1 _ (HSW.out.of (by (show Ext _ _; repeat (first | with_reducible (refine Hid.out ?_; assumption) | with_reducible exact Ext.refl _ | with_reducible refine Ext.ext ?_ _ | with_reducible refine Ext.alloc ?_ _ | refine Ext.drew ?_ | refine Ext.drewN ?_ _ | exact Ext.refl _))))).mono ?_; rintro e w' ⟨rfl, r4, rfl⟩; rw [HSz.out])
    have hOld := hHeld
    clear hHeld
    refine hK.out _ _ (by exact HSt.out _ (by (show Ext _ _; repeat (first | with_reducible (refine Hid.out ?_; assumption) | with_reducible exact Ext.refl _ | with_reducible refine Ext.ext ?_ _ | with_reducible refine Ext.alloc ?_ _ | with_reducible refine Ext.drew ?_ | with_reducible refine Ext.setCell ?_ (by (try dsimp only); first | omega | (simp; done) | (simp; omega)) _)))) (fun hHeld => ?_)
    clear hOld hK K
    (try simp only [Act.put, List.setIfInBounds_toArray, List.set_cons_zero, List.set_cons_succ])
    refine wpAnyH_ready (rs := [10, 12]) (by kernel_rfl) (by simp) ?_
    refine AllReadyH.cons (o := ⟨_, _, _, _, _, _⟩) rfl (fun K hK => ?_) ?_
    · skip
      go_simp
      have hOld := hHeld
      clear hHeld
      refine hK.out _ _ (by exact HSt.out _ (by (show Ext _ _; repeat (first | with_reducible (refine Hid.out ?_; assumption) | with_reducible exact Ext.refl _ | with_reducible refine Ext.ext ?_ _ | with_reducible refine Ext.alloc ?_ _ | with_reducible refine Ext.drew ?_ | with_reducible refine Ext.setCell ?_ (by (try dsimp only); first | omega | (simp; done) | (simp; omega)) _)))) (fun hHeld => ?_)
      clear hOld hK K
      (try simp only [Act.put, List.setIfInBounds_toArray, List.set_cons_zero, List.set_cons_succ])
      refine take_only 12 (oi := ⟨_, _, _, _, _, _⟩) (by kernel_rfl) rfl (fun K hK => ?_)
      go_simp
      first
        | (go_at_call 21; refine (size_any 3 8 1 _ (HSW.out.of (by (show Ext _ _; repeat (first | with_reducible (refine Hid.out ?_; assumption) | with_reducible exact Ext.refl _ | with_reducible refine Ext.ext ?_ _ | with_reducible refine Ext.alloc ?_ _ | refine Ext.drew ?_ | refine Ext.drewN ?_ _ | exact Ext.refl _))))).mono ?_; rintro e w' ⟨rfl, r5, rfl⟩; rw [HSz.out])
      have hOld := hHeld
      clear hHeld
      refine hK.out _ _ (by exact HSt.out _ (by (show Ext _ _; repeat (first | with_reducible (refine Hid.out ?_; assumption) | with_reducible exact Ext.refl _ | with_reducible refine Ext.ext ?_ _ | with_reducible refine Ext.alloc ?_ _ | with_reducible refine Ext.drew ?_ | with_reducible refine Ext.setCell ?_ (by (try dsimp only); first | omega | (simp; done) | (simp; omega)) _)))) (fun hHeld => ?_)
      clear hOld hK K
      (try simp only [Act.put, List.setIfInBounds_toArray, List.set_cons_zero, List.set_cons_succ])
      refine take_met 13 (oi := ⟨_, _, _, _, _, _⟩) (v := ?_) (by kernel_rfl) rfl (by rfl) (fun _ _ _ h => h) (by assumption) ?_ ?_
      rotate_left 1
      · intro w hSw
        try dsimp only at hSw
        go_simp
        try with_reducible rfl
      (try simp only [Act.put, List.setIfInBounds_toArray, List.set_cons_zero, List.set_cons_succ])
      refine take_met 14 (oi := ⟨_, _, _, _, _, _⟩) (v := ?_) (by kernel_rfl) rfl (by rfl) (fun _ _ _ h => h) (by assumption) ?_ ?_
      rotate_left 1
      · intro w hSw
        try dsimp only at hSw
        go_simp
        try with_reducible rfl
      (try simp only [Act.put, List.setIfInBounds_toArray, List.set_cons_zero, List.set_cons_succ])
      refine take_only 16 (oi := ⟨_, _, _, _, _, _⟩) (by kernel_rfl) rfl (fun K hK => ?_)
      go_simp
      have hOld := hHeld
      clear hHeld
      refine hK.out _ _ (by exact HSt.out _ (by (show Ext _ _; repeat (first | with_reducible (refine Hid.out ?_; assumption) | with_reducible exact Ext.refl _ | with_reducible refine Ext.ext ?_ _ | with_reducible refine Ext.alloc ?_ _ | with_reducible refine Ext.drew ?_ | with_reducible refine Ext.setCell ?_ (by (try dsimp only); first | omega | (simp; done) | (simp; omega)) _)))) (fun hHeld => ?_)
      clear hOld hK K
      (try simp only [Act.put, List.setIfInBounds_toArray, List.set_cons_zero, List.set_cons_succ])
      refine wpAnyH_done (by kernel_rfl) ?_ _
      go_wp2_with fail
      go_meet
      exact ⟨_, _, rfl, by (show Blk _ _ _; repeat (first | with_reducible (refine Hid.out ?_; assumption) | with_reducible apply Blk.drew | with_reducible apply Blk.ext | ((with_reducible refine Blk.new _ _ rfl ?_); first | with_reducible rfl | focus (simp; done)) | ((with_reducible apply Blk.newE); first | with_reducible rfl | focus (simp; done)) | with_reducible apply Blk.alloc | with_reducible assumption | with_reducible apply Blk.setE | ((with_reducible apply Blk.other'); first | omega | (simp; omega)) | (show List.set _ _ _ = _; exact rfl) | focus (show _ < List.length _; simp; done))), by (show Blk _ _ _; repeat (first | with_reducible apply Blk.drew | with_reducible apply Blk.ext | (with_reducible refine Blk.new _ _ bitsV_zero2 ?_; first | with_reducible rfl | focus (simp; done)) | ((with_reducible refine Blk.other' ?_ ?_); first | omega | (simp; omega)) | with_reducible apply Blk.alloc)), by first | omega | (simp; omega), by (show Ext _ _; repeat (first | with_reducible (refine Hid.out ?_; assumption) | with_reducible exact Ext.refl _ | with_reducible refine Ext.ext ?_ _ | with_reducible refine Ext.alloc ?_ _ | with_reducible refine Ext.drew ?_ | with_reducible refine Ext.setCell ?_ (by (try dsimp only); first | omega | (simp; done) | (simp; omega)) _)), by first | omega | (simp; omega), by first | omega | (simp; omega)⟩
    refine AllReadyH.cons (o := ⟨_, _, _, _, _, _⟩) rfl (fun K hK => ?_) AllReadyH.nil
    go_simp
    first
      | (go_at_call 21; refine (size_any 3 8 1 _ (HSW.out.of (by (show Ext _ _; repeat (first | with_reducible (refine Hid.out ?_; assumption) | with_reducible exact Ext.refl _ | with_reducible refine Ext.ext ?_ _ | with_reducible refine Ext.alloc ?_ _ | refine Ext.drew ?_ | refine Ext.drewN ?_ _ | exact Ext.refl _))))).mono ?_; rintro e w' ⟨rfl, r5, rfl⟩; rw [HSz.out])
    have hOld := hHeld
    clear hHeld
    refine hK.out _ _ (by exact HSt.out _ (by (show Ext _ _; repeat (first | with_reducible (refine Hid.out ?_; assumption) | with_reducible exact Ext.refl _ | with_reducible refine Ext.ext ?_ _ | with_reducible refine Ext.alloc ?_ _ | with_reducible refine Ext.drew ?_ | with_reducible refine Ext.setCell ?_ (by (try dsimp only); first | omega | (simp; done) | (simp; omega)) _)))) (fun hHeld => ?_)
    clear hOld hK K
    (try simp only [Act.put, List.setIfInBounds_toArray, List.set_cons_zero, List.set_cons_succ])
    refine take_only 10 (oi := ⟨_, _, _, _, _, _⟩) (by kernel_rfl) rfl (fun K hK => ?_)
    go_simp
    have hOld := hHeld
    clear hHeld
    refine hK.out _ _ (by exact HSt.out _ (by (show Ext _ _; repeat (first | with_reducible (refine Hid.out ?_; assumption) | with_reducible exact Ext.refl _ | with_reducible refine Ext.ext ?_ _ | with_reducible refine Ext.alloc ?_ _ | with_reducible refine Ext.drew ?_ | with_reducible refine Ext.setCell ?_ (by (try dsimp only); first | omega | (simp; done) | (simp; omega)) _)))) (fun hHeld => ?_)
    clear hOld hK K
    (try simp only [Act.put, List.setIfInBounds_toArray, List.set_cons_zero, List.set_cons_succ])
    refine take_met 13 (oi := ⟨_, _, _, _, _, _⟩) (v := ?_) (by kernel_rfl) rfl (by rfl) (fun _ _ _ h => h) (by assumption) ?_ ?_
    rotate_left 1
    · intro w hSw
      try dsimp only at hSw
      go_simp
      try with_reducible rfl
    (try simp only [Act.put, List.setIfInBounds_toArray, List.set_cons_zero, List.set_cons_succ])
    refine take_met 14 (oi := ⟨_, _, _, _, _, _⟩) (v := ?_) (by kernel_rfl) rfl (by rfl) (fun _ _ _ h => h) (by assumption) ?_ ?_
    rotate_left 1
    · intro w hSw
      try dsimp only at hSw
      go_simp
      try with_reducible rfl
    (try simp only [Act.put, List.setIfInBounds_toArray, List.set_cons_zero, List.set_cons_succ])
    refine take_only 16 (oi := ⟨_, _, _, _, _, _⟩) (by kernel_rfl) rfl (fun K hK => ?_)
    go_simp
    have hOld := hHeld
    clear hHeld
    refine hK.out _ _ (by exact HSt.out _ (by (show Ext _ _; repeat (first | with_reducible (refine Hid.out ?_; assumption) | with_reducible exact Ext.refl _ | with_reducible refine Ext.ext ?_ _ | with_reducible refine Ext.alloc ?_ _ | with_reducible refine Ext.drew ?_ | with_reducible refine Ext.setCell ?_ (by (try dsimp only); first | omega | (simp; done) | (simp; omega)) _)))) (fun hHeld => ?_)
    clear hOld hK K
    (try simp only [Act.put, List.setIfInBounds_toArray, List.set_cons_zero, List.set_cons_succ])
    refine wpAnyH_done (by kernel_rfl) ?_ _
    go_wp2_with fail
    go_meet
    exact ⟨_, _, rfl, by (show Blk _ _ _; repeat (first | with_reducible (refine Hid.out ?_; assumption) | with_reducible apply Blk.drew | with_reducible apply Blk.ext | ((with_reducible refine Blk.new _ _ rfl ?_); first | with_reducible rfl | focus (simp; done)) | ((with_reducible apply Blk.newE); first | with_reducible rfl | focus (simp; done)) | with_reducible apply Blk.alloc | with_reducible assumption | with_reducible apply Blk.setE | ((with_reducible apply Blk.other'); first | omega | (simp; omega)) | (show List.set _ _ _ = _; exact rfl) | focus (show _ < List.length _; simp; done))), by (show Blk _ _ _; repeat (first | with_reducible apply Blk.drew | with_reducible apply Blk.ext | (with_reducible refine Blk.new _ _ bitsV_zero2 ?_; first | with_reducible rfl | focus (simp; done)) | ((with_reducible refine Blk.other' ?_ ?_); first | omega | (simp; omega)) | with_reducible apply Blk.alloc)), by first | omega | (simp; omega), by (show Ext _ _; repeat (first | with_reducible (refine Hid.out ?_; assumption) | with_reducible exact Ext.refl _ | with_reducible refine Ext.ext ?_ _ | with_reducible refine Ext.alloc ?_ _ | with_reducible refine Ext.drew ?_ | with_reducible refine Ext.setCell ?_ (by (try dsimp only); first | omega | (simp; done) | (simp; omega)) _)), by first | omega | (simp; omega), by first | omega | (simp; omega)⟩
  case rest =>
    obtain ⟨g, gw, rfl, hbg, hbw, hgg, hxw, hgW, hgwW⟩ := hcut
    have HBG := hid hbg
    have HBW := hid hbw
    have HXW := hid hxw
    have hgc := hbg.1
    have hgwc := hbw.1
    have hle := hxw.size
    clear hbg hbw hxw l0 l1 l2 l4
    go_wp2_with fail
    go_loopw [4] (fun i wr => ∃ j : Nat, j ≤ 416 ∧ i = .int .i64 j ∧ ∃ vv, Hid (Blk wr g [.int .i64 3, .int .i64 1, .int .i64 64, .int .i64 384, .int .i64 104, .int .i64 32, .slice (some ⟨gw, 0, none⟩) 416 416, .int .i64 416, vv, .slice none 0 0, .slice none 0 0]) ∧ Hid (Blk wr gw (bitsV j)) ∧ Hid (Li wr wc.heap.size vv (maysTo 3 8 1 j)) ∧ Hid (Ext W wr) ∧ wc.heap.size ≤ wr.heap.size) (fun i _ => 416 - (intOf i).toNat)
    case atStart => exact ⟨0, by omega, rfl, _, HBG, HBW, hid Own.nil, HXW, Nat.le_refl _⟩
    case round =>
    clear HBG HBW HXW
    obtain ⟨j, hj, rfl, vv, HBG, HBW, HO, HXW, hcr⟩ := hrel
    obtain ⟨l0, l1, l2⟩ := (HB1.out.of HXW.out).three
    have l4 := (HB1.out.of HXW.out).1
    by_cases hjn : j < 416
    · have hjj : (j : Int) < 416 := by omega
      have b5 := HBG.out.1
      have b6 := HBG.out.2.2 6 _ rfl
      have b8 := HBG.out.2.2 8 _ rfl
      have f8 := HBG.out.2.1 8
      have c5 := HBW.out.1
      have d0 := HBW.out.2.2 j _ (bitsV_at hjn)
      have d1 := HBW.out.2.1 j
      have HLn := hid (maysTo_len 3 8 1 j)
      cases hm : mayN 3 8 1 j
      · have HM := hid hm
        clear hm
        go_wp2_with fail
        refine (size_any 3 8 1 _ (HSW.out.of (HXW.out.trans (by (show Ext _ _; repeat (first | with_reducible (refine Hid.out ?_; assumption) | with_reducible exact Ext.refl _ | with_reducible refine Ext.ext ?_ _ | with_reducible refine Ext.alloc ?_ _ | refine Ext.drew ?_ | refine Ext.drewN ?_ _ | exact Ext.refl _)))))).mono ?_
        rintro e w' ⟨rfl, r2, rfl⟩
        rw [HSz.out]
        go_wp2_with fail
        refine (may_any 3 8 1 j (by omega) (by omega) _ (HSW.out.of (HXW.out.trans (by (show Ext _ _; repeat (first | with_reducible (refine Hid.out ?_; assumption) | with_reducible exact Ext.refl _ | with_reducible refine Ext.ext ?_ _ | with_reducible refine Ext.alloc ?_ _ | refine Ext.drew ?_ | refine Ext.drewN ?_ _ | exact Ext.refl _)))))).mono ?_
        rintro e w' ⟨rfl, r3, rfl⟩
        rw [HM.out]
        go_wp2_with fail
        go_roundw
        case rel => exact ⟨j + 1, by omega, by go_num, vv, hid (HBG.out.of (by (show Ext _ _; repeat (first | with_reducible (refine Hid.out ?_; assumption) | with_reducible exact Ext.refl _ | with_reducible refine Ext.ext ?_ _ | with_reducible refine Ext.alloc ?_ _ | refine Ext.drew ?_ | refine Ext.drewN ?_ _ | exact Ext.refl _)))), hid (by rw [← bitsV_no HM.out]; exact HBW.out.of (by (show Ext _ _; repeat (first | with_reducible (refine Hid.out ?_; assumption) | with_reducible exact Ext.refl _ | with_reducible refine Ext.ext ?_ _ | with_reducible refine Ext.alloc ?_ _ | refine Ext.drew ?_ | refine Ext.drewN ?_ _ | exact Ext.refl _)))), hid (by rw [maysTo_no HM.out]; exact HO.out.of_ext (by (show Ext _ _; repeat (first | with_reducible (refine Hid.out ?_; assumption) | with_reducible exact Ext.refl _ | with_reducible refine Ext.ext ?_ _ | with_reducible refine Ext.alloc ?_ _ | refine Ext.drew ?_ | refine Ext.drewN ?_ _ | exact Ext.refl _)))), hid (HXW.out.trans (by (show Ext _ _; repeat (first | with_reducible (refine Hid.out ?_; assumption) | with_reducible exact Ext.refl _ | with_reducible refine Ext.ext ?_ _ | with_reducible refine Ext.alloc ?_ _ | refine Ext.drew ?_ | refine Ext.drewN ?_ _ | exact Ext.refl _)))), Nat.le_trans hcr (by (first | exact Nat.le_refl _ | (simp; done) | (simp; omega)))⟩
        case measure => simp [intOf]; omega
      · have HM := hid hm
        clear hm
        go_wp2_with fail
        refine (size_any 3 8 1 _ (HSW.out.of (HXW.out.trans (by (show Ext _ _; repeat (first | with_reducible (refine Hid.out ?_; assumption) | with_reducible exact Ext.refl _ | with_reducible refine Ext.ext ?_ _ | with_reducible refine Ext.alloc ?_ _ | refine Ext.drew ?_ | refine Ext.drewN ?_ _ | exact Ext.refl _)))))).mono ?_
        rintro e w' ⟨rfl, r2, rfl⟩
        rw [HSz.out]
        go_wp2_with fail
        refine (may_any 3 8 1 j (by omega) (by omega) _ (HSW.out.of (HXW.out.trans (by (show Ext _ _; repeat (first | with_reducible (refine Hid.out ?_; assumption) | with_reducible exact Ext.refl _ | with_reducible refine Ext.ext ?_ _ | with_reducible refine Ext.alloc ?_ _ | refine Ext.drew ?_ | refine Ext.drewN ?_ _ | exact Ext.refl _)))))).mono ?_
        rintro e w' ⟨rfl, r3, rfl⟩
        rw [HM.out]
        go_upto_region 7 with fail
        generalize hY : World.setCell _ _ _ = Y
        have HBGY := hid (show Blk Y g _ by rw [← hY]; exact (HBG.out.of (by (show Ext _ _; repeat (first | with_reducible (refine Hid.out ?_; assumption) | with_reducible exact Ext.refl _ | with_reducible refine Ext.ext ?_ _ | with_reducible refine Ext.alloc ?_ _ | refine Ext.drew ?_ | refine Ext.drewN ?_ _ | exact Ext.refl _)))).other (fun e => hgg e.symm) _)
        have HBWY := hid (show Blk Y gw (bitsV (j + 1)) by rw [← hY, ← bitsV_yes hjn HM.out]; exact (HBW.out.of (by (show Ext _ _; repeat (first | with_reducible (refine Hid.out ?_; assumption) | with_reducible exact Ext.refl _ | with_reducible refine Ext.ext ?_ _ | with_reducible refine Ext.alloc ?_ _ | refine Ext.drew ?_ | refine Ext.drewN ?_ _ | exact Ext.refl _)))).set j (by rw [bitsV_len]; omega) _)
        have HOY := hid (show Li Y wc.heap.size vv (maysTo 3 8 1 j) by rw [← hY]; exact Own.under (HO.out.of_ext (by (show Ext _ _; repeat (first | with_reducible (refine Hid.out ?_; assumption) | with_reducible exact Ext.refl _ | with_reducible refine Ext.ext ?_ _ | with_reducible refine Ext.alloc ?_ _ | refine Ext.drew ?_ | refine Ext.drewN ?_ _ | exact Ext.refl _)))) hgwc _)
        have HXY := hid (show Ext W Y by rw [← hY]; exact Ext.setCell (HXW.out.trans (by (show Ext _ _; repeat (first | with_reducible (refine Hid.out ?_; assumption) | with_reducible exact Ext.refl _ | with_reducible refine Ext.ext ?_ _ | with_reducible refine Ext.alloc ?_ _ | refine Ext.drew ?_ | refine Ext.drewN ?_ _ | exact Ext.refl _)))) hgwW _)
        have hcY : wc.heap.size ≤ Y.heap.size := by rw [← hY, World.size_setCell]; exact Nat.le_trans hcr (by (first | exact Nat.le_refl _ | (simp; done) | (simp; omega)))
        clear hY b5 b6 b8 f8 c5 d0 d1 l0 l1 l2 l4 HBG HBW HO HXW
        have b5 := HBGY.out.1
        have b8 := HBGY.out.2.2 8 _ rfl
        obtain ⟨av, cv, hvv⟩ := Own.shape HOY.out
        subst hvv
        go_wp2_with (at_builtin; refine li_append_gb rfl _ _ rfl (by (first | exact Nat.le_refl _ | (simp; done) | (simp; omega))) rfl (Own.alloc HOY.out _) _ 1 1 rfl [j] rfl (news_new rfl _ (by (first | rfl | (simp; done)))) (by have := HLn.out; omega) ?_; rintro v9 w9 hv9 hg9 ha9; have HV9 := hid hv9; have HG9 := hid hg9; have HBG9 := hid ((HBGY.out.alloc _).gro hg9 (HOY.out.not_at hgc)); have HBW9 := hid ((HBWY.out.alloc _).gro hg9 (HOY.out.not_at hgwc)); have HX9 := hid ((HXY.out.alloc _).gro hg9 (fun b hb => by have := HOY.out.bases b hb; omega)); have h9 := hg9.size; rw [World.size_alloc] at h9; obtain ⟨a9, c9, hs9⟩ := Own.shape HV9.out; subst hs9; simp only [List.length_append, List.length_cons, List.length_nil, Nat.zero_add] at *; clear hv9 hg9 ha9; have q0 := HBG9.out.2.1 8; have q1 := HBG9.out.2.2 8 _ rfl; have q2 := HBG9.out.1)
        go_roundw
        case rel => exact ⟨j + 1, by omega, by go_num, _, hid (HBG9.out.set 8 (by simp) _), hid (HBW9.out.other hgg _), hid (by rw [maysTo_yes HM.out]; exact Own.under HV9.out hgc _), hid (HX9.out.setCell (by dsimp only; omega) _), by rw [World.size_setCell]; omega⟩
        case measure => simp [intOf]; omega
    have hjj : ¬ (j : Int) < 416 := by omega
    have HML := hid (show maysTo 3 8 1 j = maysL 3 8 1 by rw [show j = 416 by omega]; unfold maysL; rw [size31]; rfl)
    have HBJ := hid (show bitsV j = (mayL 3 8 1 416).map Value.bool by rw [show j = 416 by omega]; exact bitsV_all)
    clear hj hjn
    go_wp2_with fail
    refine (size_any 3 8 1 _ (HSW.out.of (HXW.out.trans (by (show Ext _ _; repeat (first | with_reducible (refine Hid.out ?_; assumption) | with_reducible exact Ext.refl _ | with_reducible refine Ext.ext ?_ _ | with_reducible refine Ext.alloc ?_ _ | refine Ext.drew ?_ | refine Ext.drewN ?_ _ | exact Ext.refl _)))))).mono ?_
    rintro e w' ⟨rfl, r2, rfl⟩
    rw [HSz.out]
    go_wp2_with fail
    generalize hZ : ext _ r2 = Z
    have HBGZ := hid (show Blk Z g _ by rw [← hZ]; exact HBG.out.of (by (show Ext _ _; repeat (first | with_reducible (refine Hid.out ?_; assumption) | with_reducible exact Ext.refl _ | with_reducible refine Ext.ext ?_ _ | with_reducible refine Ext.alloc ?_ _ | refine Ext.drew ?_ | refine Ext.drewN ?_ _ | exact Ext.refl _))))
    have HBWZ := hid (show Blk Z gw ((mayL 3 8 1 416).map Value.bool) by rw [← hZ, ← HBJ.out]; exact HBW.out.of (by (show Ext _ _; repeat (first | with_reducible (refine Hid.out ?_; assumption) | with_reducible exact Ext.refl _ | with_reducible refine Ext.ext ?_ _ | with_reducible refine Ext.alloc ?_ _ | refine Ext.drew ?_ | refine Ext.drewN ?_ _ | exact Ext.refl _))))
    have HOMZ := hid (show Li Z wc.heap.size vv (maysL 3 8 1) by rw [← hZ, ← HML.out]; exact HO.out.of_ext (by (show Ext _ _; repeat (first | with_reducible (refine Hid.out ?_; assumption) | with_reducible exact Ext.refl _ | with_reducible refine Ext.ext ?_ _ | with_reducible refine Ext.alloc ?_ _ | refine Ext.drew ?_ | refine Ext.drewN ?_ _ | exact Ext.refl _))))
    have HXZ := hid (show Ext W Z by rw [← hZ]; exact HXW.out.trans (by (show Ext _ _; repeat (first | with_reducible (refine Hid.out ?_; assumption) | with_reducible exact Ext.refl _ | with_reducible refine Ext.ext ?_ _ | with_reducible refine Ext.alloc ?_ _ | refine Ext.drew ?_ | refine Ext.drewN ?_ _ | exact Ext.refl _))))
    have hgZ : g < Z.heap.size := HBGZ.out.1
    have hgwZ : gw < Z.heap.size := HBWZ.out.1
    have hWZ := HXZ.out.size
    clear hZ HBG HBW HO HXW HML HBJ l0 l1 l2 l4 hjj
    obtain ⟨l0, l1, l2⟩ := HB1.out.three
    have lw := HB1.out.1
    have HSt := hid (fun w' (h : Ext W w') => And.intro (h.cell l0) (And.intro (h.cell l1) (h.cell l2)))
    go_loopw [5] (fun i wk => ∃ t : Nat, t ≤ 3 ∧ i = .int .i64 (t + 1 : Nat) ∧ ∃ v9 v10, Hid (Blk wk g [.int .i64 3, .int .i64 1, .int .i64 64, .int .i64 384, .int .i64 104, .int .i64 32, .slice (some ⟨gw, 0, none⟩) 416 416, .int .i64 416, vv, v9, v10]) ∧ Hid (Li wk Z.heap.size v9 (slotTo 3 8 1 t)) ∧ Hid (Li wk Z.heap.size v10 (ownTo 3 8 1 t)) ∧ Hid (Two v9 v10) ∧ Hid (Grn g Z wk)) (fun i _ => 4 - (intOf i).toNat)
    case atStart => exact ⟨0, by omega, rfl, _, _, HBGZ, hid Own.nil, hid Own.nil, hid (Two.nil _), hid Grn.refl⟩
    case round =>
    clear HBGZ
    obtain ⟨t, ht, rfl, v9, v10, HBG, HO9, HO10, HTW, HG⟩ := hrel
    have HXk := hid (HXZ.out.grn HG.out hgW)
    have hzk := HG.out.size
    have m0 := HXk.out.cell l0
    have m1 := HXk.out.cell l1
    have m2 := HXk.out.cell l2
    have m4 := (HB1.out.of HXk.out).1
    by_cases ht3 : t < 3
    · have htt : ((t + 1 : Nat) : Int) ≤ 3 := by omega
      obtain ⟨p, hp⟩ : ∃ p, p = (atN 3 8 1 4 t 0).toNat := ⟨_, rfl⟩
      obtain ⟨p1, hp1⟩ : ∃ p, p = (atN 3 8 1 1 t 0).toNat := ⟨_, rfl⟩
      obtain ⟨p2, hp2⟩ : ∃ p, p = (atN 3 8 1 1 t 1).toNat := ⟨_, rfl⟩
      have HAt := hid (slot_pos right31 (k := t) (by omega))
      have HA0 := hid (own_pos right31 (k := t) (by omega) 0 (by omega))
      have HA1 := hid (own_pos right31 (k := t) (by omega) 1 (by omega))
      have HSc := hid (slotTo_succ 3 8 1 t)
      have HOc := hid (ownTo_succ 3 8 1 t)
      have HL9 := hid (slotTo_len 3 8 1 t)
      have HL10 := hid (ownTo_len 3 8 1 t)
      rw [← hp] at HAt HSc
      rw [← hp1] at HA0 HOc
      rw [← hp2] at HA1 HOc
      clear hp hp1 hp2
      obtain ⟨av9, cv9, hs9⟩ := Own.shape HO9.out
      obtain ⟨av10, cv10, hs10⟩ := Own.shape HO10.out
      subst hs9 hs10
      have b9 := HBG.out.2.2 9 _ rfl
      have f9 := HBG.out.2.1 9
      have b5 := HBG.out.1
      go_upto_region 11 with fail
      go_cut [] (fun wx => ∃ u9, Hid (Blk wx g [.int .i64 3, .int .i64 1, .int .i64 64, .int .i64 384, .int .i64 104, .int .i64 32, .slice (some ⟨gw, 0, none⟩) 416 416, .int .i64 416, vv, u9, .slice av10 (ownTo 3 8 1 t).length cv10]) ∧ Hid (Li wx Z.heap.size u9 (slotTo 3 8 1 (t + 1))) ∧ Hid (Li wx Z.heap.size (.slice av10 (ownTo 3 8 1 t).length cv10) (ownTo 3 8 1 t)) ∧ Hid (Two u9 (.slice av10 (ownTo 3 8 1 t).length cv10)) ∧ Hid (Grn g Z wx))
      case first =>
        refine wp_region_held_drew (S := fun w' => w'.cell? ⟨w.heap.size, 0, none⟩ = some (.int .i64 3) ∧ w'.cell? ⟨w.heap.size, 1, none⟩ = some (.int .i64 8) ∧ w'.cell? ⟨w.heap.size, 2, none⟩ = some (.int .i64 1)) (by kernel_rfl) (by exact HSt.out _ (by (show Ext _ _; repeat (first | with_reducible (refine Hid.out ?_; assumption) | with_reducible exact Ext.refl _ | with_reducible refine Ext.ext ?_ _ | with_reducible refine Ext.alloc ?_ _ | with_reducible refine Ext.drew ?_ | with_reducible refine Ext.setCell ?_ (by (try dsimp only); first | omega | (simp; done) | (simp; omega)) _)))) (fun hHeld => ?_)
        refine take_met 0 (oi := ⟨_, _, _, _, _, _⟩) (v := ?_) (by kernel_rfl) rfl (by rfl) (fun _ _ _ h => h) (by assumption) ?_ ?_
        rotate_left 1
        · intro w hSw
          try dsimp only at hSw
          go_simp
          try with_reducible rfl
        (try simp only [Act.put, List.setIfInBounds_toArray, List.set_cons_zero, List.set_cons_succ])
        refine take_met 2 (oi := ⟨_, _, _, _, _, _⟩) (v := ?_) (by kernel_rfl) rfl (by rfl) (fun _ _ _ h => h) (by assumption) ?_ ?_
        rotate_left 1
        · intro w hSw
          try dsimp only at hSw
          go_simp
          try with_reducible rfl
        (try simp only [Act.put, List.setIfInBounds_toArray, List.set_cons_zero, List.set_cons_succ])
        refine take_met 3 (oi := ⟨_, _, _, _, _, _⟩) (v := ?_) (by kernel_rfl) rfl (by rfl) (fun _ _ _ h => h) (by assumption) ?_ ?_
        rotate_left 1
        · intro w hSw
          try dsimp only at hSw
          go_simp
          try with_reducible rfl
        (try simp only [Act.put, List.setIfInBounds_toArray, List.set_cons_zero, List.set_cons_succ])
        refine wpAnyH_ready (rs := [1, 4]) (by kernel_rfl) (by simp) ?_
        refine AllReadyH.cons (o := ⟨_, _, _, _, _, _⟩) rfl (fun K hK => ?_) ?_
        · skip
          go_simp
          have hOld := hHeld
          clear hHeld
          refine hK.out _ _ (by exact HSt.out _ (by (show Ext _ _; repeat (first | with_reducible (refine Hid.out ?_; assumption) | with_reducible exact Ext.refl _ | with_reducible refine Ext.ext ?_ _ | with_reducible refine Ext.alloc ?_ _ | with_reducible refine Ext.drew ?_ | with_reducible refine Ext.setCell ?_ (by (try dsimp only); first | omega | (simp; done) | (simp; omega)) _)))) (fun hHeld => ?_)
          clear hOld hK K
          (try simp only [Act.put, List.setIfInBounds_toArray, List.set_cons_zero, List.set_cons_succ])
          refine take_only 4 (oi := ⟨_, _, _, _, _, _⟩) (by kernel_rfl) rfl (fun K hK => ?_)
          go_simp
          first
            | (go_at_call 17; refine (slot_any 3 8 1 ((t : Int) + 1) _ (HSW.out.of (by (show Ext _ _; repeat (first | with_reducible (refine Hid.out ?_; assumption) | with_reducible exact Ext.refl _ | with_reducible refine Ext.ext ?_ _ | with_reducible refine Ext.alloc ?_ _ | with_reducible refine Ext.drew ?_ | with_reducible refine Ext.setCell ?_ (by (try dsimp only); first | omega | (simp; done) | (simp; omega)) _))))).mono ?_; rintro e w' ⟨rfl, r6, rfl⟩; rw [HAt.out])
          have hOld := hHeld
          clear hHeld
          refine hK.out _ _ (by exact HSt.out _ (by (show Ext _ _; repeat (first | with_reducible (refine Hid.out ?_; assumption) | with_reducible exact Ext.refl _ | with_reducible refine Ext.ext ?_ _ | with_reducible refine Ext.alloc ?_ _ | with_reducible refine Ext.drew ?_ | with_reducible refine Ext.setCell ?_ (by (try dsimp only); first | omega | (simp; done) | (simp; omega)) _)))) (fun hHeld => ?_)
          clear hOld hK K
          (try simp only [Act.put, List.setIfInBounds_toArray, List.set_cons_zero, List.set_cons_succ])
          refine take_only 5 (oi := ⟨_, _, _, _, _, _⟩) (by kernel_rfl) rfl (fun K hK => ?_)
          go_simp
          have hOld := hHeld
          clear hHeld
          refine hK.out _ _ (by exact HSt.out _ (by (show Ext _ _; repeat (first | with_reducible (refine Hid.out ?_; assumption) | with_reducible exact Ext.refl _ | with_reducible refine Ext.ext ?_ _ | with_reducible refine Ext.alloc ?_ _ | with_reducible refine Ext.drew ?_ | with_reducible refine Ext.setCell ?_ (by (try dsimp only); first | omega | (simp; done) | (simp; omega)) _)))) (fun hHeld => ?_)
          clear hOld hK K
          (try simp only [Act.put, List.setIfInBounds_toArray, List.set_cons_zero, List.set_cons_succ])
          refine take_only 6 (oi := ⟨_, _, _, _, _, _⟩) (by kernel_rfl) rfl (fun K hK => ?_)
          rw [if_pos (by rfl)]
          first
            | (refine li_append_gop _ _ rfl (by (first | exact Nat.le_refl _ | (simp; done) | (simp; omega))) rfl (Own.alloc (HO9.out.of_ext (by (show Ext _ _; repeat (first | with_reducible (refine Hid.out ?_; assumption) | with_reducible exact Ext.refl _ | with_reducible refine Ext.ext ?_ _ | with_reducible refine Ext.alloc ?_ _ | with_reducible refine Ext.drew ?_ | with_reducible refine Ext.setCell ?_ (by (try dsimp only); first | omega | (simp; done) | (simp; omega)) _)))) _) _ 1 1 rfl [p] rfl (news_new rfl _ (by (first | rfl | (simp; done)))) (by have := HL9.out; omega) ?_; rintro v9 w9 hv9 hg9 ha9; have HV9 := hid hv9; have HBG9 := hid (((HBG.out.of (by (show Ext _ _; repeat (first | with_reducible (refine Hid.out ?_; assumption) | with_reducible exact Ext.refl _ | with_reducible refine Ext.ext ?_ _ | with_reducible refine Ext.alloc ?_ _ | with_reducible refine Ext.drew ?_ | with_reducible refine Ext.setCell ?_ (by (try dsimp only); first | omega | (simp; done) | (simp; omega)) _)))).alloc _).gro hg9 (HO9.out.not_at hgZ)); have HOT9 := hid (((Own.alloc (HO10.out.of_ext (by (show Ext _ _; repeat (first | with_reducible (refine Hid.out ?_; assumption) | with_reducible exact Ext.refl _ | with_reducible refine Ext.ext ?_ _ | with_reducible refine Ext.alloc ?_ _ | with_reducible refine Ext.drew ?_ | with_reducible refine Ext.setCell ?_ (by (try dsimp only); first | omega | (simp; done) | (simp; omega)) _)))) _)).gro hg9 (HTW.out.symm)); have HTW9 := hid (Two.next (HTW.out) (Own.alloc (HO10.out.of_ext (by (show Ext _ _; repeat (first | with_reducible (refine Hid.out ?_; assumption) | with_reducible exact Ext.refl _ | with_reducible refine Ext.ext ?_ _ | with_reducible refine Ext.alloc ?_ _ | with_reducible refine Ext.drew ?_ | with_reducible refine Ext.setCell ?_ (by (try dsimp only); first | omega | (simp; done) | (simp; omega)) _)))) _).tops ha9); have HGN9 := hid ((HG.out.trans (Grn.of_ext (by (show Ext _ _; repeat (first | with_reducible (refine Hid.out ?_; assumption) | with_reducible exact Ext.refl _ | with_reducible refine Ext.ext ?_ _ | with_reducible refine Ext.alloc ?_ _ | with_reducible refine Ext.drew ?_ | with_reducible refine Ext.setCell ?_ (by (try dsimp only); first | omega | (simp; done) | (simp; omega)) _))))).gro hg9 HO9.out.bases); have HX9 := hid (HXZ.out.grn HGN9.out hgW); obtain ⟨a9, c9, hs9⟩ := Own.shape hv9; subst hs9; simp only [List.length_append, List.length_cons, List.length_nil, Nat.zero_add] at *; clear hv9 hg9 ha9; have q0 := HBG9.out.2.1 9; have q1 := HBG9.out.2.2 9 _ rfl; have q2 := HBG9.out.1)
          have hOld := hHeld
          clear hHeld
          refine hK.out _ _ (by exact HSt.out _ (by (show Ext _ _; repeat (first | with_reducible (refine Hid.out ?_; assumption) | with_reducible exact Ext.refl _ | with_reducible refine Ext.ext ?_ _ | with_reducible refine Ext.alloc ?_ _ | with_reducible refine Ext.drew ?_ | with_reducible refine Ext.setCell ?_ (by (try dsimp only); first | omega | (simp; done) | (simp; omega)) _)))) (fun hHeld => ?_)
          clear hOld hK K
          (try simp only [Act.put, List.setIfInBounds_toArray, List.set_cons_zero, List.set_cons_succ])
          refine take_met 7 (oi := ⟨_, _, _, _, _, _⟩) (v := ?_) (by kernel_rfl) rfl (by rfl) (fun _ _ _ h => h) (by assumption) ?_ ?_
          rotate_left 1
          · intro w hSw
            try dsimp only at hSw
            go_simp
            try with_reducible rfl
          (try simp only [Act.put, List.setIfInBounds_toArray, List.set_cons_zero, List.set_cons_succ])
          refine take_only 8 (oi := ⟨_, _, _, _, _, _⟩) (by kernel_rfl) rfl (fun K hK => ?_)
          go_simp
          have hOld := hHeld
          clear hHeld
          refine hK.out _ _ (by exact HSt.out _ (by (show Ext _ _; repeat (first | with_reducible (refine Hid.out ?_; assumption) | with_reducible exact Ext.refl _ | with_reducible refine Ext.ext ?_ _ | with_reducible refine Ext.alloc ?_ _ | with_reducible refine Ext.drew ?_ | with_reducible refine Ext.setCell ?_ (by (try dsimp only); first | omega | (simp; done) | (simp; omega)) _)))) (fun hHeld => ?_)
          clear hOld hK K
          (try simp only [Act.put, List.setIfInBounds_toArray, List.set_cons_zero, List.set_cons_succ])
          refine wpAnyH_done (by kernel_rfl) ?_ _
          go_wp2_with fail
          go_meet
          exact ⟨_, hid (HBG9.out.set 9 (by simp) _), hid (by rw [HSc.out]; exact HV9.out.under hgZ _), hid (HOT9.out.under hgZ _), HTW9, hid (HGN9.out.setCell _ _)⟩
        refine AllReadyH.cons (o := ⟨_, _, _, _, _, _⟩) rfl (fun K hK => ?_) AllReadyH.nil
        go_simp
        first
          | (go_at_call 17; refine (slot_any 3 8 1 ((t : Int) + 1) _ (HSW.out.of (by (show Ext _ _; repeat (first | with_reducible (refine Hid.out ?_; assumption) | with_reducible exact Ext.refl _ | with_reducible refine Ext.ext ?_ _ | with_reducible refine Ext.alloc ?_ _ | with_reducible refine Ext.drew ?_ | with_reducible refine Ext.setCell ?_ (by (try dsimp only); first | omega | (simp; done) | (simp; omega)) _))))).mono ?_; rintro e w' ⟨rfl, r6, rfl⟩; rw [HAt.out])
        have hOld := hHeld
        clear hHeld
        refine hK.out _ _ (by exact HSt.out _ (by (show Ext _ _; repeat (first | with_reducible (refine Hid.out ?_; assumption) | with_reducible exact Ext.refl _ | with_reducible refine Ext.ext ?_ _ | with_reducible refine Ext.alloc ?_ _ | with_reducible refine Ext.drew ?_ | with_reducible refine Ext.setCell ?_ (by (try dsimp only); first | omega | (simp; done) | (simp; omega)) _)))) (fun hHeld => ?_)
        clear hOld hK K
        (try simp only [Act.put, List.setIfInBounds_toArray, List.set_cons_zero, List.set_cons_succ])
        refine wpAnyH_ready (rs := [1, 5]) (by kernel_rfl) (by simp) ?_
        refine AllReadyH.cons (o := ⟨_, _, _, _, _, _⟩) rfl (fun K hK => ?_) ?_
        · skip
          go_simp
          have hOld := hHeld
          clear hHeld
          refine hK.out _ _ (by exact HSt.out _ (by (show Ext _ _; repeat (first | with_reducible (refine Hid.out ?_; assumption) | with_reducible exact Ext.refl _ | with_reducible refine Ext.ext ?_ _ | with_reducible refine Ext.alloc ?_ _ | with_reducible refine Ext.drew ?_ | with_reducible refine Ext.setCell ?_ (by (try dsimp only); first | omega | (simp; done) | (simp; omega)) _)))) (fun hHeld => ?_)
          clear hOld hK K
          (try simp only [Act.put, List.setIfInBounds_toArray, List.set_cons_zero, List.set_cons_succ])
          refine take_only 5 (oi := ⟨_, _, _, _, _, _⟩) (by kernel_rfl) rfl (fun K hK => ?_)
          go_simp
          have hOld := hHeld
          clear hHeld
          refine hK.out _ _ (by exact HSt.out _ (by (show Ext _ _; repeat (first | with_reducible (refine Hid.out ?_; assumption) | with_reducible exact Ext.refl _ | with_reducible refine Ext.ext ?_ _ | with_reducible refine Ext.alloc ?_ _ | with_reducible refine Ext.drew ?_ | with_reducible refine Ext.setCell ?_ (by (try dsimp only); first | omega | (simp; done) | (simp; omega)) _)))) (fun hHeld => ?_)
          clear hOld hK K
          (try simp only [Act.put, List.setIfInBounds_toArray, List.set_cons_zero, List.set_cons_succ])
          refine take_only 6 (oi := ⟨_, _, _, _, _, _⟩) (by kernel_rfl) rfl (fun K hK => ?_)
          rw [if_pos (by rfl)]
          first
            | (refine li_append_gop _ _ rfl (by (first | exact Nat.le_refl _ | (simp; done) | (simp; omega))) rfl (Own.alloc (HO9.out.of_ext (by (show Ext _ _; repeat (first | with_reducible (refine Hid.out ?_; assumption) | with_reducible exact Ext.refl _ | with_reducible refine Ext.ext ?_ _ | with_reducible refine Ext.alloc ?_ _ | with_reducible refine Ext.drew ?_ | with_reducible refine Ext.setCell ?_ (by (try dsimp only); first | omega | (simp; done) | (simp; omega)) _)))) _) _ 1 1 rfl [p] rfl (news_new rfl _ (by (first | rfl | (simp; done)))) (by have := HL9.out; omega) ?_; rintro v9 w9 hv9 hg9 ha9; have HV9 := hid hv9; have HBG9 := hid (((HBG.out.of (by (show Ext _ _; repeat (first | with_reducible (refine Hid.out ?_; assumption) | with_reducible exact Ext.refl _ | with_reducible refine Ext.ext ?_ _ | with_reducible refine Ext.alloc ?_ _ | with_reducible refine Ext.drew ?_ | with_reducible refine Ext.setCell ?_ (by (try dsimp only); first | omega | (simp; done) | (simp; omega)) _)))).alloc _).gro hg9 (HO9.out.not_at hgZ)); have HOT9 := hid (((Own.alloc (HO10.out.of_ext (by (show Ext _ _; repeat (first | with_reducible (refine Hid.out ?_; assumption) | with_reducible exact Ext.refl _ | with_reducible refine Ext.ext ?_ _ | with_reducible refine Ext.alloc ?_ _ | with_reducible refine Ext.drew ?_ | with_reducible refine Ext.setCell ?_ (by (try dsimp only); first | omega | (simp; done) | (simp; omega)) _)))) _)).gro hg9 (HTW.out.symm)); have HTW9 := hid (Two.next (HTW.out) (Own.alloc (HO10.out.of_ext (by (show Ext _ _; repeat (first | with_reducible (refine Hid.out ?_; assumption) | with_reducible exact Ext.refl _ | with_reducible refine Ext.ext ?_ _ | with_reducible refine Ext.alloc ?_ _ | with_reducible refine Ext.drew ?_ | with_reducible refine Ext.setCell ?_ (by (try dsimp only); first | omega | (simp; done) | (simp; omega)) _)))) _).tops ha9); have HGN9 := hid ((HG.out.trans (Grn.of_ext (by (show Ext _ _; repeat (first | with_reducible (refine Hid.out ?_; assumption) | with_reducible exact Ext.refl _ | with_reducible refine Ext.ext ?_ _ | with_reducible refine Ext.alloc ?_ _ | with_reducible refine Ext.drew ?_ | with_reducible refine Ext.setCell ?_ (by (try dsimp only); first | omega | (simp; done) | (simp; omega)) _))))).gro hg9 HO9.out.bases); have HX9 := hid (HXZ.out.grn HGN9.out hgW); obtain ⟨a9, c9, hs9⟩ := Own.shape hv9; subst hs9; simp only [List.length_append, List.length_cons, List.length_nil, Nat.zero_add] at *; clear hv9 hg9 ha9; have q0 := HBG9.out.2.1 9; have q1 := HBG9.out.2.2 9 _ rfl; have q2 := HBG9.out.1)
          have hOld := hHeld
          clear hHeld
          refine hK.out _ _ (by exact HSt.out _ (by (show Ext _ _; repeat (first | with_reducible (refine Hid.out ?_; assumption) | with_reducible exact Ext.refl _ | with_reducible refine Ext.ext ?_ _ | with_reducible refine Ext.alloc ?_ _ | with_reducible refine Ext.drew ?_ | with_reducible refine Ext.setCell ?_ (by (try dsimp only); first | omega | (simp; done) | (simp; omega)) _)))) (fun hHeld => ?_)
          clear hOld hK K
          (try simp only [Act.put, List.setIfInBounds_toArray, List.set_cons_zero, List.set_cons_succ])
          refine take_met 7 (oi := ⟨_, _, _, _, _, _⟩) (v := ?_) (by kernel_rfl) rfl (by rfl) (fun _ _ _ h => h) (by assumption) ?_ ?_
          rotate_left 1
          · intro w hSw
            try dsimp only at hSw
            go_simp
            try with_reducible rfl
          (try simp only [Act.put, List.setIfInBounds_toArray, List.set_cons_zero, List.set_cons_succ])
          refine take_only 8 (oi := ⟨_, _, _, _, _, _⟩) (by kernel_rfl) rfl (fun K hK => ?_)
          go_simp
          have hOld := hHeld
          clear hHeld
          refine hK.out _ _ (by exact HSt.out _ (by (show Ext _ _; repeat (first | with_reducible (refine Hid.out ?_; assumption) | with_reducible exact Ext.refl _ | with_reducible refine Ext.ext ?_ _ | with_reducible refine Ext.alloc ?_ _ | with_reducible refine Ext.drew ?_ | with_reducible refine Ext.setCell ?_ (by (try dsimp only); first | omega | (simp; done) | (simp; omega)) _)))) (fun hHeld => ?_)
          clear hOld hK K
          (try simp only [Act.put, List.setIfInBounds_toArray, List.set_cons_zero, List.set_cons_succ])
          refine wpAnyH_done (by kernel_rfl) ?_ _
          go_wp2_with fail
          go_meet
          exact ⟨_, hid (HBG9.out.set 9 (by simp) _), hid (by rw [HSc.out]; exact HV9.out.under hgZ _), hid (HOT9.out.under hgZ _), HTW9, hid (HGN9.out.setCell _ _)⟩
        refine AllReadyH.cons (o := ⟨_, _, _, _, _, _⟩) rfl (fun K hK => ?_) AllReadyH.nil
        go_simp
        have hOld := hHeld
        clear hHeld
        refine hK.out _ _ (by exact HSt.out _ (by (show Ext _ _; repeat (first | with_reducible (refine Hid.out ?_; assumption) | with_reducible exact Ext.refl _ | with_reducible refine Ext.ext ?_ _ | with_reducible refine Ext.alloc ?_ _ | with_reducible refine Ext.drew ?_ | with_reducible refine Ext.setCell ?_ (by (try dsimp only); first | omega | (simp; done) | (simp; omega)) _)))) (fun hHeld => ?_)
        clear hOld hK K
        (try simp only [Act.put, List.setIfInBounds_toArray, List.set_cons_zero, List.set_cons_succ])
        refine take_only 1 (oi := ⟨_, _, _, _, _, _⟩) (by kernel_rfl) rfl (fun K hK => ?_)
        go_simp
        have hOld := hHeld
        clear hHeld
        refine hK.out _ _ (by exact HSt.out _ (by (show Ext _ _; repeat (first | with_reducible (refine Hid.out ?_; assumption) | with_reducible exact Ext.refl _ | with_reducible refine Ext.ext ?_ _ | with_reducible refine Ext.alloc ?_ _ | with_reducible refine Ext.drew ?_ | with_reducible refine Ext.setCell ?_ (by (try dsimp only); first | omega | (simp; done) | (simp; omega)) _)))) (fun hHeld => ?_)
        clear hOld hK K
        (try simp only [Act.put, List.setIfInBounds_toArray, List.set_cons_zero, List.set_cons_succ])
        refine take_only 6 (oi := ⟨_, _, _, _, _, _⟩) (by kernel_rfl) rfl (fun K hK => ?_)
        rw [if_pos (by rfl)]
        first
          | (refine li_append_gop _ _ rfl (by (first | exact Nat.le_refl _ | (simp; done) | (simp; omega))) rfl (Own.alloc (HO9.out.of_ext (by (show Ext _ _; repeat (first | with_reducible (refine Hid.out ?_; assumption) | with_reducible exact Ext.refl _ | with_reducible refine Ext.ext ?_ _ | with_reducible refine Ext.alloc ?_ _ | with_reducible refine Ext.drew ?_ | with_reducible refine Ext.setCell ?_ (by (try dsimp only); first | omega | (simp; done) | (simp; omega)) _)))) _) _ 1 1 rfl [p] rfl (news_new rfl _ (by (first | rfl | (simp; done)))) (by have := HL9.out; omega) ?_; rintro v9 w9 hv9 hg9 ha9; have HV9 := hid hv9; have HBG9 := hid (((HBG.out.of (by (show Ext _ _; repeat (first | with_reducible (refine Hid.out ?_; assumption) | with_reducible exact Ext.refl _ | with_reducible refine Ext.ext ?_ _ | with_reducible refine Ext.alloc ?_ _ | with_reducible refine Ext.drew ?_ | with_reducible refine Ext.setCell ?_ (by (try dsimp only); first | omega | (simp; done) | (simp; omega)) _)))).alloc _).gro hg9 (HO9.out.not_at hgZ)); have HOT9 := hid (((Own.alloc (HO10.out.of_ext (by (show Ext _ _; repeat (first | with_reducible (refine Hid.out ?_; assumption) | with_reducible exact Ext.refl _ | with_reducible refine Ext.ext ?_ _ | with_reducible refine Ext.alloc ?_ _ | with_reducible refine Ext.drew ?_ | with_reducible refine Ext.setCell ?_ (by (try dsimp only); first | omega | (simp; done) | (simp; omega)) _)))) _)).gro hg9 (HTW.out.symm)); have HTW9 := hid (Two.next (HTW.out) (Own.alloc (HO10.out.of_ext (by (show Ext _ _; repeat (first | with_reducible (refine Hid.out ?_; assumption) | with_reducible exact Ext.refl _ | with_reducible refine Ext.ext ?_ _ | with_reducible refine Ext.alloc ?_ _ | with_reducible refine Ext.drew ?_ | with_reducible refine Ext.setCell ?_ (by (try dsimp only); first | omega | (simp; done) | (simp; omega)) _)))) _).tops ha9); have HGN9 := hid ((HG.out.trans (Grn.of_ext (by (show Ext _ _; repeat (first | with_reducible (refine Hid.out ?_; assumption) | with_reducible exact Ext.refl _ | with_reducible refine Ext.ext ?_ _ | with_reducible refine Ext.alloc ?_ _ | with_reducible refine Ext.drew ?_ | with_reducible refine Ext.setCell ?_ (by (try dsimp only); first | omega | (simp; done) | (simp; omega)) _))))).gro hg9 HO9.out.bases); have HX9 := hid (HXZ.out.grn HGN9.out hgW); obtain ⟨a9, c9, hs9⟩ := Own.shape hv9; subst hs9; simp only [List.length_append, List.length_cons, List.length_nil, Nat.zero_add] at *; clear hv9 hg9 ha9; have q0 := HBG9.out.2.1 9; have q1 := HBG9.out.2.2 9 _ rfl; have q2 := HBG9.out.1)
        have hOld := hHeld
        clear hHeld
        refine hK.out _ _ (by exact HSt.out _ (by (show Ext _ _; repeat (first | with_reducible (refine Hid.out ?_; assumption) | with_reducible exact Ext.refl _ | with_reducible refine Ext.ext ?_ _ | with_reducible refine Ext.alloc ?_ _ | with_reducible refine Ext.drew ?_ | with_reducible refine Ext.setCell ?_ (by (try dsimp only); first | omega | (simp; done) | (simp; omega)) _)))) (fun hHeld => ?_)
        clear hOld hK K
        (try simp only [Act.put, List.setIfInBounds_toArray, List.set_cons_zero, List.set_cons_succ])
        refine take_met 7 (oi := ⟨_, _, _, _, _, _⟩) (v := ?_) (by kernel_rfl) rfl (by rfl) (fun _ _ _ h => h) (by assumption) ?_ ?_
        rotate_left 1
        · intro w hSw
          try dsimp only at hSw
          go_simp
          try with_reducible rfl
        (try simp only [Act.put, List.setIfInBounds_toArray, List.set_cons_zero, List.set_cons_succ])
        refine take_only 8 (oi := ⟨_, _, _, _, _, _⟩) (by kernel_rfl) rfl (fun K hK => ?_)
        go_simp
        have hOld := hHeld
        clear hHeld
        refine hK.out _ _ (by exact HSt.out _ (by (show Ext _ _; repeat (first | with_reducible (refine Hid.out ?_; assumption) | with_reducible exact Ext.refl _ | with_reducible refine Ext.ext ?_ _ | with_reducible refine Ext.alloc ?_ _ | with_reducible refine Ext.drew ?_ | with_reducible refine Ext.setCell ?_ (by (try dsimp only); first | omega | (simp; done) | (simp; omega)) _)))) (fun hHeld => ?_)
        clear hOld hK K
        (try simp only [Act.put, List.setIfInBounds_toArray, List.set_cons_zero, List.set_cons_succ])
        refine wpAnyH_done (by kernel_rfl) ?_ _
        go_wp2_with fail
        go_meet
        exact ⟨_, hid (HBG9.out.set 9 (by simp) _), hid (by rw [HSc.out]; exact HV9.out.under hgZ _), hid (HOT9.out.under hgZ _), HTW9, hid (HGN9.out.setCell _ _)⟩
      case rest =>
      clear HBG HO9 HO10 HTW HG HXk hzk m0 m1 m2 m4 b9 f9 b5
      obtain ⟨u9, HBG, HO9, HO10, HTW, HG⟩ := hcut
      have HXk := hid (HXZ.out.grn HG.out hgW)
      have hzk := HG.out.size
      have m0 := HXk.out.cell l0
      have m1 := HXk.out.cell l1
      have m2 := HXk.out.cell l2
      have m4 := (HB1.out.of HXk.out).1
      have b9 := HBG.out.2.2 10 _ rfl
      have f9 := HBG.out.2.1 10
      have b5 := HBG.out.1
      go_upto_region 12 with fail
      refine wp_region_held_drew (S := fun w' => w'.cell? ⟨w.heap.size, 0, none⟩ = some (.int .i64 3) ∧ w'.cell? ⟨w.heap.size, 1, none⟩ = some (.int .i64 8) ∧ w'.cell? ⟨w.heap.size, 2, none⟩ = some (.int .i64 1)) (by kernel_rfl) (by exact HSt.out _ (by (show Ext _ _; repeat (first | with_reducible (refine Hid.out ?_; assumption) | with_reducible exact Ext.refl _ | with_reducible refine Ext.ext ?_ _ | with_reducible refine Ext.alloc ?_ _ | with_reducible refine Ext.drew ?_ | with_reducible refine Ext.setCell ?_ (by (try dsimp only); first | omega | (simp; done) | (simp; omega)) _)))) (fun hHeld => ?_)
      refine take_met 0 (oi := ⟨_, _, _, _, _, _⟩) (v := ?_) (by kernel_rfl) rfl (by rfl) (fun _ _ _ h => h) (by assumption) ?_ ?_
      rotate_left 1
      · intro w hSw
        try dsimp only at hSw
        go_simp
        try with_reducible rfl
      (try simp only [Act.put, List.setIfInBounds_toArray, List.set_cons_zero, List.set_cons_succ])
      refine take_met 2 (oi := ⟨_, _, _, _, _, _⟩) (v := ?_) (by kernel_rfl) rfl (by rfl) (fun _ _ _ h => h) (by assumption) ?_ ?_
      rotate_left 1
      · intro w hSw
        try dsimp only at hSw
        go_simp
        try with_reducible rfl
      (try simp only [Act.put, List.setIfInBounds_toArray, List.set_cons_zero, List.set_cons_succ])
      refine take_met 3 (oi := ⟨_, _, _, _, _, _⟩) (v := ?_) (by kernel_rfl) rfl (by rfl) (fun _ _ _ h => h) (by assumption) ?_ ?_
      rotate_left 1
      · intro w hSw
        try dsimp only at hSw
        go_simp
        try with_reducible rfl
      (try simp only [Act.put, List.setIfInBounds_toArray, List.set_cons_zero, List.set_cons_succ])
      refine take_met 5 (oi := ⟨_, _, _, _, _, _⟩) (v := ?_) (by kernel_rfl) rfl (by rfl) (fun _ _ _ h => h) (by assumption) ?_ ?_
      rotate_left 1
      · intro w hSw
        try dsimp only at hSw
        go_simp
        try with_reducible rfl
      (try simp only [Act.put, List.setIfInBounds_toArray, List.set_cons_zero, List.set_cons_succ])
      refine take_met 6 (oi := ⟨_, _, _, _, _, _⟩) (v := ?_) (by kernel_rfl) rfl (by rfl) (fun _ _ _ h => h) (by assumption) ?_ ?_
      rotate_left 1
      · intro w hSw
        try dsimp only at hSw
        go_simp
        try with_reducible rfl
      (try simp only [Act.put, List.setIfInBounds_toArray, List.set_cons_zero, List.set_cons_succ])
      refine wpAnyH_ready (rs := [1, 4]) (by kernel_rfl) (by simp) ?_
      refine AllReadyH.cons (o := ⟨_, _, _, _, _, _⟩) rfl (fun K hK => ?_) ?_
      · skip
        go_simp
        have hOld := hHeld
        clear hHeld
        refine hK.out _ _ (by exact HSt.out _ (by (show Ext _ _; repeat (first | with_reducible (refine Hid.out ?_; assumption) | with_reducible exact Ext.refl _ | with_reducible refine Ext.ext ?_ _ | with_reducible refine Ext.alloc ?_ _ | with_reducible refine Ext.drew ?_ | with_reducible refine Ext.setCell ?_ (by (try dsimp only); first | omega | (simp; done) | (simp; omega)) _)))) (fun hHeld => ?_)
        clear hOld hK K
        (try simp only [Act.put, List.setIfInBounds_toArray, List.set_cons_zero, List.set_cons_succ])
        refine take_only 4 (oi := ⟨_, _, _, _, _, _⟩) (by kernel_rfl) rfl (fun K hK => ?_)
        go_simp
        first
          | (go_at_call 28; refine (announce_any 3 8 1 ((t : Int) + 1) _ (HSW.out.of (by (show Ext _ _; repeat (first | with_reducible (refine Hid.out ?_; assumption) | with_reducible exact Ext.refl _ | with_reducible refine Ext.ext ?_ _ | with_reducible refine Ext.alloc ?_ _ | with_reducible refine Ext.drew ?_ | with_reducible refine Ext.setCell ?_ (by (try dsimp only); first | omega | (simp; done) | (simp; omega)) _))))).mono ?_; rintro e w' ⟨rfl, r6, rfl⟩; rw [HA0.out])
        have hOld := hHeld
        clear hHeld
        refine hK.out _ _ (by exact HSt.out _ (by (show Ext _ _; repeat (first | with_reducible (refine Hid.out ?_; assumption) | with_reducible exact Ext.refl _ | with_reducible refine Ext.ext ?_ _ | with_reducible refine Ext.alloc ?_ _ | with_reducible refine Ext.drew ?_ | with_reducible refine Ext.setCell ?_ (by (try dsimp only); first | omega | (simp; done) | (simp; omega)) _)))) (fun hHeld => ?_)
        clear hOld hK K
        (try simp only [Act.put, List.setIfInBounds_toArray, List.set_cons_zero, List.set_cons_succ])
        refine take_only 7 (oi := ⟨_, _, _, _, _, _⟩) (by kernel_rfl) rfl (fun K hK => ?_)
        go_simp
        first
          | (go_at_call 29; refine (hazard_any 3 8 1 ((t : Int) + 1) _ (HSW.out.of (by (show Ext _ _; repeat (first | with_reducible (refine Hid.out ?_; assumption) | with_reducible exact Ext.refl _ | with_reducible refine Ext.ext ?_ _ | with_reducible refine Ext.alloc ?_ _ | with_reducible refine Ext.drew ?_ | with_reducible refine Ext.setCell ?_ (by (try dsimp only); first | omega | (simp; done) | (simp; omega)) _))))).mono ?_; rintro e w' ⟨rfl, r7, rfl⟩; rw [HA1.out])
        have hOld := hHeld
        clear hHeld
        refine hK.out _ _ (by exact HSt.out _ (by (show Ext _ _; repeat (first | with_reducible (refine Hid.out ?_; assumption) | with_reducible exact Ext.refl _ | with_reducible refine Ext.ext ?_ _ | with_reducible refine Ext.alloc ?_ _ | with_reducible refine Ext.drew ?_ | with_reducible refine Ext.setCell ?_ (by (try dsimp only); first | omega | (simp; done) | (simp; omega)) _)))) (fun hHeld => ?_)
        clear hOld hK K
        (try simp only [Act.put, List.setIfInBounds_toArray, List.set_cons_zero, List.set_cons_succ])
        refine take_only 8 (oi := ⟨_, _, _, _, _, _⟩) (by kernel_rfl) rfl (fun K hK => ?_)
        go_simp
        have hOld := hHeld
        clear hHeld
        refine hK.out _ _ (by exact HSt.out _ (by (show Ext _ _; repeat (first | with_reducible (refine Hid.out ?_; assumption) | with_reducible exact Ext.refl _ | with_reducible refine Ext.ext ?_ _ | with_reducible refine Ext.alloc ?_ _ | with_reducible refine Ext.drew ?_ | with_reducible refine Ext.setCell ?_ (by (try dsimp only); first | omega | (simp; done) | (simp; omega)) _)))) (fun hHeld => ?_)
        clear hOld hK K
        (try simp only [Act.put, List.setIfInBounds_toArray, List.set_cons_zero, List.set_cons_succ])
        refine take_only 9 (oi := ⟨_, _, _, _, _, _⟩) (by kernel_rfl) rfl (fun K hK => ?_)
        rw [if_pos (by rfl)]
        first
          | (refine li_append_gop _ _ rfl (by (first | exact Nat.le_refl _ | (simp; done) | (simp; omega))) rfl (Own.alloc (HO10.out.of_ext (by (show Ext _ _; repeat (first | with_reducible (refine Hid.out ?_; assumption) | with_reducible exact Ext.refl _ | with_reducible refine Ext.ext ?_ _ | with_reducible refine Ext.alloc ?_ _ | with_reducible refine Ext.drew ?_ | with_reducible refine Ext.setCell ?_ (by (try dsimp only); first | omega | (simp; done) | (simp; omega)) _)))) _) _ 2 2 rfl [p1, p2] rfl (news_new rfl _ (by (first | rfl | (simp; done)))) (by have := HL10.out; omega) ?_; rintro v9 w9 hv9 hg9 ha9; have HV9 := hid hv9; have HBG9 := hid (((HBG.out.of (by (show Ext _ _; repeat (first | with_reducible (refine Hid.out ?_; assumption) | with_reducible exact Ext.refl _ | with_reducible refine Ext.ext ?_ _ | with_reducible refine Ext.alloc ?_ _ | with_reducible refine Ext.drew ?_ | with_reducible refine Ext.setCell ?_ (by (try dsimp only); first | omega | (simp; done) | (simp; omega)) _)))).alloc _).gro hg9 (HO10.out.not_at hgZ)); have HOT9 := hid (((Own.alloc (HO9.out.of_ext (by (show Ext _ _; repeat (first | with_reducible (refine Hid.out ?_; assumption) | with_reducible exact Ext.refl _ | with_reducible refine Ext.ext ?_ _ | with_reducible refine Ext.alloc ?_ _ | with_reducible refine Ext.drew ?_ | with_reducible refine Ext.setCell ?_ (by (try dsimp only); first | omega | (simp; done) | (simp; omega)) _)))) _)).gro hg9 (HTW.out)); have HTW9 := hid (Two.next (HTW.out.symm) (Own.alloc (HO9.out.of_ext (by (show Ext _ _; repeat (first | with_reducible (refine Hid.out ?_; assumption) | with_reducible exact Ext.refl _ | with_reducible refine Ext.ext ?_ _ | with_reducible refine Ext.alloc ?_ _ | with_reducible refine Ext.drew ?_ | with_reducible refine Ext.setCell ?_ (by (try dsimp only); first | omega | (simp; done) | (simp; omega)) _)))) _).tops ha9); have HGN9 := hid ((HG.out.trans (Grn.of_ext (by (show Ext _ _; repeat (first | with_reducible (refine Hid.out ?_; assumption) | with_reducible exact Ext.refl _ | with_reducible refine Ext.ext ?_ _ | with_reducible refine Ext.alloc ?_ _ | with_reducible refine Ext.drew ?_ | with_reducible refine Ext.setCell ?_ (by (try dsimp only); first | omega | (simp; done) | (simp; omega)) _))))).gro hg9 HO10.out.bases); have HX9 := hid (HXZ.out.grn HGN9.out hgW); obtain ⟨a9, c9, hs9⟩ := Own.shape hv9; subst hs9; simp only [List.length_append, List.length_cons, List.length_nil, Nat.zero_add] at *; clear hv9 hg9 ha9; have q0 := HBG9.out.2.1 10; have q1 := HBG9.out.2.2 10 _ rfl; have q2 := HBG9.out.1)
        have hOld := hHeld
        clear hHeld
        refine hK.out _ _ (by exact HSt.out _ (by (show Ext _ _; repeat (first | with_reducible (refine Hid.out ?_; assumption) | with_reducible exact Ext.refl _ | with_reducible refine Ext.ext ?_ _ | with_reducible refine Ext.alloc ?_ _ | with_reducible refine Ext.drew ?_ | with_reducible refine Ext.setCell ?_ (by (try dsimp only); first | omega | (simp; done) | (simp; omega)) _)))) (fun hHeld => ?_)
        clear hOld hK K
        (try simp only [Act.put, List.setIfInBounds_toArray, List.set_cons_zero, List.set_cons_succ])
        refine take_met 10 (oi := ⟨_, _, _, _, _, _⟩) (v := ?_) (by kernel_rfl) rfl (by rfl) (fun _ _ _ h => h) (by assumption) ?_ ?_
        rotate_left 1
        · intro w hSw
          try dsimp only at hSw
          go_simp
          try with_reducible rfl
        (try simp only [Act.put, List.setIfInBounds_toArray, List.set_cons_zero, List.set_cons_succ])
        refine take_only 11 (oi := ⟨_, _, _, _, _, _⟩) (by kernel_rfl) rfl (fun K hK => ?_)
        go_simp
        have hOld := hHeld
        clear hHeld
        refine hK.out _ _ (by exact HSt.out _ (by (show Ext _ _; repeat (first | with_reducible (refine Hid.out ?_; assumption) | with_reducible exact Ext.refl _ | with_reducible refine Ext.ext ?_ _ | with_reducible refine Ext.alloc ?_ _ | with_reducible refine Ext.drew ?_ | with_reducible refine Ext.setCell ?_ (by (try dsimp only); first | omega | (simp; done) | (simp; omega)) _)))) (fun hHeld => ?_)
        clear hOld hK K
        (try simp only [Act.put, List.setIfInBounds_toArray, List.set_cons_zero, List.set_cons_succ])
        refine wpAnyH_done (by kernel_rfl) ?_ _
        go_wp2_with fail
        go_roundw
        case rel => exact ⟨t + 1, by omega, by go_num, _, _, hid (HBG9.out.set 10 (by simp) _), hid (HOT9.out.under hgZ _), hid (by rw [HOc.out]; exact HV9.out.under hgZ _), hid HTW9.out.symm, hid (HGN9.out.setCell _ _)⟩
        case measure => simp [intOf]; omega
      refine AllReadyH.cons (o := ⟨_, _, _, _, _, _⟩) rfl (fun K hK => ?_) AllReadyH.nil
      go_simp
      first
        | (go_at_call 28; refine (announce_any 3 8 1 ((t : Int) + 1) _ (HSW.out.of (by (show Ext _ _; repeat (first | with_reducible (refine Hid.out ?_; assumption) | with_reducible exact Ext.refl _ | with_reducible refine Ext.ext ?_ _ | with_reducible refine Ext.alloc ?_ _ | with_reducible refine Ext.drew ?_ | with_reducible refine Ext.setCell ?_ (by (try dsimp only); first | omega | (simp; done) | (simp; omega)) _))))).mono ?_; rintro e w' ⟨rfl, r6, rfl⟩; rw [HA0.out])
      have hOld := hHeld
      clear hHeld
      refine hK.out _ _ (by exact HSt.out _ (by (show Ext _ _; repeat (first | with_reducible (refine Hid.out ?_; assumption) | with_reducible exact Ext.refl _ | with_reducible refine Ext.ext ?_ _ | with_reducible refine Ext.alloc ?_ _ | with_reducible refine Ext.drew ?_ | with_reducible refine Ext.setCell ?_ (by (try dsimp only); first | omega | (simp; done) | (simp; omega)) _)))) (fun hHeld => ?_)
      clear hOld hK K
      (try simp only [Act.put, List.setIfInBounds_toArray, List.set_cons_zero, List.set_cons_succ])
      refine wpAnyH_ready (rs := [1, 7]) (by kernel_rfl) (by simp) ?_
      refine AllReadyH.cons (o := ⟨_, _, _, _, _, _⟩) rfl (fun K hK => ?_) ?_
      · skip
        go_simp
        have hOld := hHeld
        clear hHeld
        refine hK.out _ _ (by exact HSt.out _ (by (show Ext _ _; repeat (first | with_reducible (refine Hid.out ?_; assumption) | with_reducible exact Ext.refl _ | with_reducible refine Ext.ext ?_ _ | with_reducible refine Ext.alloc ?_ _ | with_reducible refine Ext.drew ?_ | with_reducible refine Ext.setCell ?_ (by (try dsimp only); first | omega | (simp; done) | (simp; omega)) _)))) (fun hHeld => ?_)
        clear hOld hK K
        (try simp only [Act.put, List.setIfInBounds_toArray, List.set_cons_zero, List.set_cons_succ])
        refine take_only 7 (oi := ⟨_, _, _, _, _, _⟩) (by kernel_rfl) rfl (fun K hK => ?_)
        go_simp
        first
          | (go_at_call 29; refine (hazard_any 3 8 1 ((t : Int) + 1) _ (HSW.out.of (by (show Ext _ _; repeat (first | with_reducible (refine Hid.out ?_; assumption) | with_reducible exact Ext.refl _ | with_reducible refine Ext.ext ?_ _ | with_reducible refine Ext.alloc ?_ _ | with_reducible refine Ext.drew ?_ | with_reducible refine Ext.setCell ?_ (by (try dsimp only); first | omega | (simp; done) | (simp; omega)) _))))).mono ?_; rintro e w' ⟨rfl, r7, rfl⟩; rw [HA1.out])
        have hOld := hHeld
        clear hHeld
        refine hK.out _ _ (by exact HSt.out _ (by (show Ext _ _; repeat (first | with_reducible (refine Hid.out ?_; assumption) | with_reducible exact Ext.refl _ | with_reducible refine Ext.ext ?_ _ | with_reducible refine Ext.alloc ?_ _ | with_reducible refine Ext.drew ?_ | with_reducible refine Ext.setCell ?_ (by (try dsimp only); first | omega | (simp; done) | (simp; omega)) _)))) (fun hHeld => ?_)
        clear hOld hK K
        (try simp only [Act.put, List.setIfInBounds_toArray, List.set_cons_zero, List.set_cons_succ])
        refine take_only 8 (oi := ⟨_, _, _, _, _, _⟩) (by kernel_rfl) rfl (fun K hK => ?_)
        go_simp
        have hOld := hHeld
        clear hHeld
        refine hK.out _ _ (by exact HSt.out _ (by (show Ext _ _; repeat (first | with_reducible (refine Hid.out ?_; assumption) | with_reducible exact Ext.refl _ | with_reducible refine Ext.ext ?_ _ | with_reducible refine Ext.alloc ?_ _ | with_reducible refine Ext.drew ?_ | with_reducible refine Ext.setCell ?_ (by (try dsimp only); first | omega | (simp; done) | (simp; omega)) _)))) (fun hHeld => ?_)
        clear hOld hK K
        (try simp only [Act.put, List.setIfInBounds_toArray, List.set_cons_zero, List.set_cons_succ])
        refine take_only 9 (oi := ⟨_, _, _, _, _, _⟩) (by kernel_rfl) rfl (fun K hK => ?_)
        rw [if_pos (by rfl)]
        first
          | (refine li_append_gop _ _ rfl (by (first | exact Nat.le_refl _ | (simp; done) | (simp; omega))) rfl (Own.alloc (HO10.out.of_ext (by (show Ext _ _; repeat (first | with_reducible (refine Hid.out ?_; assumption) | with_reducible exact Ext.refl _ | with_reducible refine Ext.ext ?_ _ | with_reducible refine Ext.alloc ?_ _ | with_reducible refine Ext.drew ?_ | with_reducible refine Ext.setCell ?_ (by (try dsimp only); first | omega | (simp; done) | (simp; omega)) _)))) _) _ 2 2 rfl [p1, p2] rfl (news_new rfl _ (by (first | rfl | (simp; done)))) (by have := HL10.out; omega) ?_; rintro v9 w9 hv9 hg9 ha9; have HV9 := hid hv9; have HBG9 := hid (((HBG.out.of (by (show Ext _ _; repeat (first | with_reducible (refine Hid.out ?_; assumption) | with_reducible exact Ext.refl _ | with_reducible refine Ext.ext ?_ _ | with_reducible refine Ext.alloc ?_ _ | with_reducible refine Ext.drew ?_ | with_reducible refine Ext.setCell ?_ (by (try dsimp only); first | omega | (simp; done) | (simp; omega)) _)))).alloc _).gro hg9 (HO10.out.not_at hgZ)); have HOT9 := hid (((Own.alloc (HO9.out.of_ext (by (show Ext _ _; repeat (first | with_reducible (refine Hid.out ?_; assumption) | with_reducible exact Ext.refl _ | with_reducible refine Ext.ext ?_ _ | with_reducible refine Ext.alloc ?_ _ | with_reducible refine Ext.drew ?_ | with_reducible refine Ext.setCell ?_ (by (try dsimp only); first | omega | (simp; done) | (simp; omega)) _)))) _)).gro hg9 (HTW.out)); have HTW9 := hid (Two.next (HTW.out.symm) (Own.alloc (HO9.out.of_ext (by (show Ext _ _; repeat (first | with_reducible (refine Hid.out ?_; assumption) | with_reducible exact Ext.refl _ | with_reducible refine Ext.ext ?_ _ | with_reducible refine Ext.alloc ?_ _ | with_reducible refine Ext.drew ?_ | with_reducible refine Ext.setCell ?_ (by (try dsimp only); first | omega | (simp; done) | (simp; omega)) _)))) _).tops ha9); have HGN9 := hid ((HG.out.trans (Grn.of_ext (by (show Ext _ _; repeat (first | with_reducible (refine Hid.out ?_; assumption) | with_reducible exact Ext.refl _ | with_reducible refine Ext.ext ?_ _ | with_reducible refine Ext.alloc ?_ _ | with_reducible refine Ext.drew ?_ | with_reducible refine Ext.setCell ?_ (by (try dsimp only); first | omega | (simp; done) | (simp; omega)) _))))).gro hg9 HO10.out.bases); have HX9 := hid (HXZ.out.grn HGN9.out hgW); obtain ⟨a9, c9, hs9⟩ := Own.shape hv9; subst hs9; simp only [List.length_append, List.length_cons, List.length_nil, Nat.zero_add] at *; clear hv9 hg9 ha9; have q0 := HBG9.out.2.1 10; have q1 := HBG9.out.2.2 10 _ rfl; have q2 := HBG9.out.1)
        have hOld := hHeld
        clear hHeld
        refine hK.out _ _ (by exact HSt.out _ (by (show Ext _ _; repeat (first | with_reducible (refine Hid.out ?_; assumption) | with_reducible exact Ext.refl _ | with_reducible refine Ext.ext ?_ _ | with_reducible refine Ext.alloc ?_ _ | with_reducible refine Ext.drew ?_ | with_reducible refine Ext.setCell ?_ (by (try dsimp only); first | omega | (simp; done) | (simp; omega)) _)))) (fun hHeld => ?_)
        clear hOld hK K
        (try simp only [Act.put, List.setIfInBounds_toArray, List.set_cons_zero, List.set_cons_succ])
        refine take_met 10 (oi := ⟨_, _, _, _, _, _⟩) (v := ?_) (by kernel_rfl) rfl (by rfl) (fun _ _ _ h => h) (by assumption) ?_ ?_
        rotate_left 1
        · intro w hSw
          try dsimp only at hSw
          go_simp
          try with_reducible rfl
        (try simp only [Act.put, List.setIfInBounds_toArray, List.set_cons_zero, List.set_cons_succ])
        refine take_only 11 (oi := ⟨_, _, _, _, _, _⟩) (by kernel_rfl) rfl (fun K hK => ?_)
        go_simp
        have hOld := hHeld
        clear hHeld
        refine hK.out _ _ (by exact HSt.out _ (by (show Ext _ _; repeat (first | with_reducible (refine Hid.out ?_; assumption) | with_reducible exact Ext.refl _ | with_reducible refine Ext.ext ?_ _ | with_reducible refine Ext.alloc ?_ _ | with_reducible refine Ext.drew ?_ | with_reducible refine Ext.setCell ?_ (by (try dsimp only); first | omega | (simp; done) | (simp; omega)) _)))) (fun hHeld => ?_)
        clear hOld hK K
        (try simp only [Act.put, List.setIfInBounds_toArray, List.set_cons_zero, List.set_cons_succ])
        refine wpAnyH_done (by kernel_rfl) ?_ _
        go_wp2_with fail
        go_roundw
        case rel => exact ⟨t + 1, by omega, by go_num, _, _, hid (HBG9.out.set 10 (by simp) _), hid (HOT9.out.under hgZ _), hid (by rw [HOc.out]; exact HV9.out.under hgZ _), hid HTW9.out.symm, hid (HGN9.out.setCell _ _)⟩
        case measure => simp [intOf]; omega
      refine AllReadyH.cons (o := ⟨_, _, _, _, _, _⟩) rfl (fun K hK => ?_) AllReadyH.nil
      go_simp
      first
        | (go_at_call 29; refine (hazard_any 3 8 1 ((t : Int) + 1) _ (HSW.out.of (by (show Ext _ _; repeat (first | with_reducible (refine Hid.out ?_; assumption) | with_reducible exact Ext.refl _ | with_reducible refine Ext.ext ?_ _ | with_reducible refine Ext.alloc ?_ _ | with_reducible refine Ext.drew ?_ | with_reducible refine Ext.setCell ?_ (by (try dsimp only); first | omega | (simp; done) | (simp; omega)) _))))).mono ?_; rintro e w' ⟨rfl, r7, rfl⟩; rw [HA1.out])
      have hOld := hHeld
      clear hHeld
      refine hK.out _ _ (by exact HSt.out _ (by (show Ext _ _; repeat (first | with_reducible (refine Hid.out ?_; assumption) | with_reducible exact Ext.refl _ | with_reducible refine Ext.ext ?_ _ | with_reducible refine Ext.alloc ?_ _ | with_reducible refine Ext.drew ?_ | with_reducible refine Ext.setCell ?_ (by (try dsimp only); first | omega | (simp; done) | (simp; omega)) _)))) (fun hHeld => ?_)
      clear hOld hK K
      (try simp only [Act.put, List.setIfInBounds_toArray, List.set_cons_zero, List.set_cons_succ])
      refine wpAnyH_ready (rs := [1, 8]) (by kernel_rfl) (by simp) ?_
      refine AllReadyH.cons (o := ⟨_, _, _, _, _, _⟩) rfl (fun K hK => ?_) ?_
      · skip
        go_simp
        have hOld := hHeld
        clear hHeld
        refine hK.out _ _ (by exact HSt.out _ (by (show Ext _ _; repeat (first | with_reducible (refine Hid.out ?_; assumption) | with_reducible exact Ext.refl _ | with_reducible refine Ext.ext ?_ _ | with_reducible refine Ext.alloc ?_ _ | with_reducible refine Ext.drew ?_ | with_reducible refine Ext.setCell ?_ (by (try dsimp only); first | omega | (simp; done) | (simp; omega)) _)))) (fun hHeld => ?_)
        clear hOld hK K
        (try simp only [Act.put, List.setIfInBounds_toArray, List.set_cons_zero, List.set_cons_succ])
        refine take_only 8 (oi := ⟨_, _, _, _, _, _⟩) (by kernel_rfl) rfl (fun K hK => ?_)
        go_simp
        have hOld := hHeld
        clear hHeld
        refine hK.out _ _ (by exact HSt.out _ (by (show Ext _ _; repeat (first | with_reducible (refine Hid.out ?_; assumption) | with_reducible exact Ext.refl _ | with_reducible refine Ext.ext ?_ _ | with_reducible refine Ext.alloc ?_ _ | with_reducible refine Ext.drew ?_ | with_reducible refine Ext.setCell ?_ (by (try dsimp only); first | omega | (simp; done) | (simp; omega)) _)))) (fun hHeld => ?_)
        clear hOld hK K
        (try simp only [Act.put, List.setIfInBounds_toArray, List.set_cons_zero, List.set_cons_succ])
        refine take_only 9 (oi := ⟨_, _, _, _, _, _⟩) (by kernel_rfl) rfl (fun K hK => ?_)
        rw [if_pos (by rfl)]
        first
          | (refine li_append_gop _ _ rfl (by (first | exact Nat.le_refl _ | (simp; done) | (simp; omega))) rfl (Own.alloc (HO10.out.of_ext (by (show Ext _ _; repeat (first | with_reducible (refine Hid.out ?_; assumption) | with_reducible exact Ext.refl _ | with_reducible refine Ext.ext ?_ _ | with_reducible refine Ext.alloc ?_ _ | with_reducible refine Ext.drew ?_ | with_reducible refine Ext.setCell ?_ (by (try dsimp only); first | omega | (simp; done) | (simp; omega)) _)))) _) _ 2 2 rfl [p1, p2] rfl (news_new rfl _ (by (first | rfl | (simp; done)))) (by have := HL10.out; omega) ?_; rintro v9 w9 hv9 hg9 ha9; have HV9 := hid hv9; have HBG9 := hid (((HBG.out.of (by (show Ext _ _; repeat (first | with_reducible (refine Hid.out ?_; assumption) | with_reducible exact Ext.refl _ | with_reducible refine Ext.ext ?_ _ | with_reducible refine Ext.alloc ?_ _ | with_reducible refine Ext.drew ?_ | with_reducible refine Ext.setCell ?_ (by (try dsimp only); first | omega | (simp; done) | (simp; omega)) _)))).alloc _).gro hg9 (HO10.out.not_at hgZ)); have HOT9 := hid (((Own.alloc (HO9.out.of_ext (by (show Ext _ _; repeat (first | with_reducible (refine Hid.out ?_; assumption) | with_reducible exact Ext.refl _ | with_reducible refine Ext.ext ?_ _ | with_reducible refine Ext.alloc ?_ _ | with_reducible refine Ext.drew ?_ | with_reducible refine Ext.setCell ?_ (by (try dsimp only); first | omega | (simp; done) | (simp; omega)) _)))) _)).gro hg9 (HTW.out)); have HTW9 := hid (Two.next (HTW.out.symm) (Own.alloc (HO9.out.of_ext (by (show Ext _ _; repeat (first | with_reducible (refine Hid.out ?_; assumption) | with_reducible exact Ext.refl _ | with_reducible refine Ext.ext ?_ _ | with_reducible refine Ext.alloc ?_ _ | with_reducible refine Ext.drew ?_ | with_reducible refine Ext.setCell ?_ (by (try dsimp only); first | omega | (simp; done) | (simp; omega)) _)))) _).tops ha9); have HGN9 := hid ((HG.out.trans (Grn.of_ext (by (show Ext _ _; repeat (first | with_reducible (refine Hid.out ?_; assumption) | with_reducible exact Ext.refl _ | with_reducible refine Ext.ext ?_ _ | with_reducible refine Ext.alloc ?_ _ | with_reducible refine Ext.drew ?_ | with_reducible refine Ext.setCell ?_ (by (try dsimp only); first | omega | (simp; done) | (simp; omega)) _))))).gro hg9 HO10.out.bases); have HX9 := hid (HXZ.out.grn HGN9.out hgW); obtain ⟨a9, c9, hs9⟩ := Own.shape hv9; subst hs9; simp only [List.length_append, List.length_cons, List.length_nil, Nat.zero_add] at *; clear hv9 hg9 ha9; have q0 := HBG9.out.2.1 10; have q1 := HBG9.out.2.2 10 _ rfl; have q2 := HBG9.out.1)
        have hOld := hHeld
        clear hHeld
        refine hK.out _ _ (by exact HSt.out _ (by (show Ext _ _; repeat (first | with_reducible (refine Hid.out ?_; assumption) | with_reducible exact Ext.refl _ | with_reducible refine Ext.ext ?_ _ | with_reducible refine Ext.alloc ?_ _ | with_reducible refine Ext.drew ?_ | with_reducible refine Ext.setCell ?_ (by (try dsimp only); first | omega | (simp; done) | (simp; omega)) _)))) (fun hHeld => ?_)
        clear hOld hK K
        (try simp only [Act.put, List.setIfInBounds_toArray, List.set_cons_zero, List.set_cons_succ])
        refine take_met 10 (oi := ⟨_, _, _, _, _, _⟩) (v := ?_) (by kernel_rfl) rfl (by rfl) (fun _ _ _ h => h) (by assumption) ?_ ?_
        rotate_left 1
        · intro w hSw
          try dsimp only at hSw
          go_simp
          try with_reducible rfl
        (try simp only [Act.put, List.setIfInBounds_toArray, List.set_cons_zero, List.set_cons_succ])
        refine take_only 11 (oi := ⟨_, _, _, _, _, _⟩) (by kernel_rfl) rfl (fun K hK => ?_)
        go_simp
        have hOld := hHeld
        clear hHeld
        refine hK.out _ _ (by exact HSt.out _ (by (show Ext _ _; repeat (first | with_reducible (refine Hid.out ?_; assumption) | with_reducible exact Ext.refl _ | with_reducible refine Ext.ext ?_ _ | with_reducible refine Ext.alloc ?_ _ | with_reducible refine Ext.drew ?_ | with_reducible refine Ext.setCell ?_ (by (try dsimp only); first | omega | (simp; done) | (simp; omega)) _)))) (fun hHeld => ?_)
        clear hOld hK K
        (try simp only [Act.put, List.setIfInBounds_toArray, List.set_cons_zero, List.set_cons_succ])
        refine wpAnyH_done (by kernel_rfl) ?_ _
        go_wp2_with fail
        go_roundw
        case rel => exact ⟨t + 1, by omega, by go_num, _, _, hid (HBG9.out.set 10 (by simp) _), hid (HOT9.out.under hgZ _), hid (by rw [HOc.out]; exact HV9.out.under hgZ _), hid HTW9.out.symm, hid (HGN9.out.setCell _ _)⟩
        case measure => simp [intOf]; omega
      refine AllReadyH.cons (o := ⟨_, _, _, _, _, _⟩) rfl (fun K hK => ?_) AllReadyH.nil
      go_simp
      have hOld := hHeld
      clear hHeld
      refine hK.out _ _ (by exact HSt.out _ (by (show Ext _ _; repeat (first | with_reducible (refine Hid.out ?_; assumption) | with_reducible exact Ext.refl _ | with_reducible refine Ext.ext ?_ _ | with_reducible refine Ext.alloc ?_ _ | with_reducible refine Ext.drew ?_ | with_reducible refine Ext.setCell ?_ (by (try dsimp only); first | omega | (simp; done) | (simp; omega)) _)))) (fun hHeld => ?_)
      clear hOld hK K
      (try simp only [Act.put, List.setIfInBounds_toArray, List.set_cons_zero, List.set_cons_succ])
      refine take_only 1 (oi := ⟨_, _, _, _, _, _⟩) (by kernel_rfl) rfl (fun K hK => ?_)
      go_simp
      have hOld := hHeld
      clear hHeld
      refine hK.out _ _ (by exact HSt.out _ (by (show Ext _ _; repeat (first | with_reducible (refine Hid.out ?_; assumption) | with_reducible exact Ext.refl _ | with_reducible refine Ext.ext ?_ _ | with_reducible refine Ext.alloc ?_ _ | with_reducible refine Ext.drew ?_ | with_reducible refine Ext.setCell ?_ (by (try dsimp only); first | omega | (simp; done) | (simp; omega)) _)))) (fun hHeld => ?_)
      clear hOld hK K
      (try simp only [Act.put, List.setIfInBounds_toArray, List.set_cons_zero, List.set_cons_succ])
      refine take_only 9 (oi := ⟨_, _, _, _, _, _⟩) (by kernel_rfl) rfl (fun K hK => ?_)
      rw [if_pos (by rfl)]
      first
        | (refine li_append_gop _ _ rfl (by (first | exact Nat.le_refl _ | (simp; done) | (simp; omega))) rfl (Own.alloc (HO10.out.of_ext (by (show Ext _ _; repeat (first | with_reducible (refine Hid.out ?_; assumption) | with_reducible exact Ext.refl _ | with_reducible refine Ext.ext ?_ _ | with_reducible refine Ext.alloc ?_ _ | with_reducible refine Ext.drew ?_ | with_reducible refine Ext.setCell ?_ (by (try dsimp only); first | omega | (simp; done) | (simp; omega)) _)))) _) _ 2 2 rfl [p1, p2] rfl (news_new rfl _ (by (first | rfl | (simp; done)))) (by have := HL10.out; omega) ?_; rintro v9 w9 hv9 hg9 ha9; have HV9 := hid hv9; have HBG9 := hid (((HBG.out.of (by (show Ext _ _; repeat (first | with_reducible (refine Hid.out ?_; assumption) | with_reducible exact Ext.refl _ | with_reducible refine Ext.ext ?_ _ | with_reducible refine Ext.alloc ?_ _ | with_reducible refine Ext.drew ?_ | with_reducible refine Ext.setCell ?_ (by (try dsimp only); first | omega | (simp; done) | (simp; omega)) _)))).alloc _).gro hg9 (HO10.out.not_at hgZ)); have HOT9 := hid (((Own.alloc (HO9.out.of_ext (by (show Ext _ _; repeat (first | with_reducible (refine Hid.out ?_; assumption) | with_reducible exact Ext.refl _ | with_reducible refine Ext.ext ?_ _ | with_reducible refine Ext.alloc ?_ _ | with_reducible refine Ext.drew ?_ | with_reducible refine Ext.setCell ?_ (by (try dsimp only); first | omega | (simp; done) | (simp; omega)) _)))) _)).gro hg9 (HTW.out)); have HTW9 := hid (Two.next (HTW.out.symm) (Own.alloc (HO9.out.of_ext (by (show Ext _ _; repeat (first | with_reducible (refine Hid.out ?_; assumption) | with_reducible exact Ext.refl _ | with_reducible refine Ext.ext ?_ _ | with_reducible refine Ext.alloc ?_ _ | with_reducible refine Ext.drew ?_ | with_reducible refine Ext.setCell ?_ (by (try dsimp only); first | omega | (simp; done) | (simp; omega)) _)))) _).tops ha9); have HGN9 := hid ((HG.out.trans (Grn.of_ext (by (show Ext _ _; repeat (first | with_reducible (refine Hid.out ?_; assumption) | with_reducible exact Ext.refl _ | with_reducible refine Ext.ext ?_ _ | with_reducible refine Ext.alloc ?_ _ | with_reducible refine Ext.drew ?_ | with_reducible refine Ext.setCell ?_ (by (try dsimp only); first | omega | (simp; done) | (simp; omega)) _))))).gro hg9 HO10.out.bases); have HX9 := hid (HXZ.out.grn HGN9.out hgW); obtain ⟨a9, c9, hs9⟩ := Own.shape hv9; subst hs9; simp only [List.length_append, List.length_cons, List.length_nil, Nat.zero_add] at *; clear hv9 hg9 ha9; have q0 := HBG9.out.2.1 10; have q1 := HBG9.out.2.2 10 _ rfl; have q2 := HBG9.out.1)
      have hOld := hHeld
      clear hHeld
      refine hK.out _ _ (by exact HSt.out _ (by (show Ext _ _; repeat (first | with_reducible (refine Hid.out ?_; assumption) | with_reducible exact Ext.refl _ | with_reducible refine Ext.ext ?_ _ | with_reducible refine Ext.alloc ?_ _ | with_reducible refine Ext.drew ?_ | with_reducible refine Ext.setCell ?_ (by (try dsimp only); first | omega | (simp; done) | (simp; omega)) _)))) (fun hHeld => ?_)
      clear hOld hK K
      (try simp only [Act.put, List.setIfInBounds_toArray, List.set_cons_zero, List.set_cons_succ])
      refine take_met 10 (oi := ⟨_, _, _, _, _, _⟩) (v := ?_) (by kernel_rfl) rfl (by rfl) (fun _ _ _ h => h) (by assumption) ?_ ?_
      rotate_left 1
      · intro w hSw
        try dsimp only at hSw
        go_simp
        try with_reducible rfl
      (try simp only [Act.put, List.setIfInBounds_toArray, List.set_cons_zero, List.set_cons_succ])
      refine take_only 11 (oi := ⟨_, _, _, _, _, _⟩) (by kernel_rfl) rfl (fun K hK => ?_)
      go_simp
      have hOld := hHeld
      clear hHeld
      refine hK.out _ _ (by exact HSt.out _ (by (show Ext _ _; repeat (first | with_reducible (refine Hid.out ?_; assumption) | with_reducible exact Ext.refl _ | with_reducible refine Ext.ext ?_ _ | with_reducible refine Ext.alloc ?_ _ | with_reducible refine Ext.drew ?_ | with_reducible refine Ext.setCell ?_ (by (try dsimp only); first | omega | (simp; done) | (simp; omega)) _)))) (fun hHeld => ?_)
      clear hOld hK K
      (try simp only [Act.put, List.setIfInBounds_toArray, List.set_cons_zero, List.set_cons_succ])
      refine wpAnyH_done (by kernel_rfl) ?_ _
      go_wp2_with fail
      go_roundw
      case rel => exact ⟨t + 1, by omega, by go_num, _, _, hid (HBG9.out.set 10 (by simp) _), hid (HOT9.out.under hgZ _), hid (by rw [HOc.out]; exact HV9.out.under hgZ _), hid HTW9.out.symm, hid (HGN9.out.setCell _ _)⟩
      case measure => simp [intOf]; omega
    have htt : ¬ ((t + 1 : Nat) : Int) ≤ 3 := by omega
    have HT3 := hid (show t = 3 by omega)
    have HX9s := hid (show slotTo 3 8 1 t = slotTo 3 8 1 3 by rw [HT3.out])
    have HX10s := hid (show ownTo 3 8 1 t = ownsL 3 8 1 by rw [HT3.out]; rfl)
    rw [HX9s.out] at HO9
    rw [HX10s.out] at HO10
    clear HT3 HX9s HX10s ht ht3
    go_wp2_with fail
    go_loopw [6] (fun i wk => ∃ k : Nat, k ≤ 1 ∧ i = .int .i64 k ∧ ∃ v9, Hid (Blk wk g [.int .i64 3, .int .i64 1, .int .i64 64, .int .i64 384, .int .i64 104, .int .i64 32, .slice (some ⟨gw, 0, none⟩) 416 416, .int .i64 416, vv, v9, v10]) ∧ Hid (Li wk Z.heap.size v9 (slotTo 3 8 1 3 ++ blockTo 3 8 1 k)) ∧ Hid (Li wk Z.heap.size v10 (ownsL 3 8 1)) ∧ Hid (Two v9 v10) ∧ Hid (Grn g Z wk)) (fun i _ => 1 - (intOf i).toNat)
    case atStart => exact ⟨0, by omega, rfl, _, HBG, hid (by simpa [blockTo] using HO9.out), HO10, HTW, HG⟩
    case round =>
    clear HBG HO9 HO10 HTW HG HXk hzk m0 m1 m2 m4 htt
    obtain ⟨k, hk, rfl, v9, HBG, HO9, HO10, HTW, HG⟩ := hrel
    have HXk := hid (HXZ.out.grn HG.out hgW)
    have hzk := HG.out.size
    have m0 := HXk.out.cell l0
    have m1 := HXk.out.cell l1
    have m2 := HXk.out.cell l2
    have m4 := (HB1.out.of HXk.out).1
    by_cases hk1 : k < 1
    · have hkk : (k : Int) < 1 := by omega
      obtain ⟨p, hp⟩ : ∃ p, p = (atN 3 8 1 6 k 0).toNat := ⟨_, rfl⟩
      have HAt := hid (block_pos right31 (k := k) (by omega))
      have HSc := hid (blockTo_succ 3 8 1 k)
      have HL9 := hid (show (slotTo 3 8 1 3 ++ blockTo 3 8 1 k).length = 3 + k by rw [List.length_append, slotTo_len, blockTo_len])
      obtain ⟨ls, hls⟩ : ∃ ls, ls = slotTo 3 8 1 3 ++ blockTo 3 8 1 k := ⟨_, rfl⟩
      rw [← hls] at HO9 HL9
      rw [← hp] at HAt HSc
      have HLs := hid hls
      clear hp hls
      obtain ⟨av9, cv9, hs9⟩ := Own.shape HO9.out
      subst hs9
      have b9 := HBG.out.2.2 9 _ rfl
      have f9 := HBG.out.2.1 9
      have b5 := HBG.out.1
      go_upto_region 16 with fail
      refine wp_region_held_drew (S := fun w' => w'.cell? ⟨w.heap.size, 0, none⟩ = some (.int .i64 3) ∧ w'.cell? ⟨w.heap.size, 1, none⟩ = some (.int .i64 8) ∧ w'.cell? ⟨w.heap.size, 2, none⟩ = some (.int .i64 1)) (by kernel_rfl) (by exact HSt.out _ (by (show Ext _ _; repeat (first | with_reducible (refine Hid.out ?_; assumption) | with_reducible exact Ext.refl _ | with_reducible refine Ext.ext ?_ _ | with_reducible refine Ext.alloc ?_ _ | with_reducible refine Ext.drew ?_ | with_reducible refine Ext.setCell ?_ (by (try dsimp only); first | omega | (simp; done) | (simp; omega)) _)))) (fun hHeld => ?_)
      refine take_met 0 (oi := ⟨_, _, _, _, _, _⟩) (v := ?_) (by kernel_rfl) rfl (by rfl) (fun _ _ _ h => h) (by assumption) ?_ ?_
      rotate_left 1
      · intro w hSw
        try dsimp only at hSw
        go_simp
        try with_reducible rfl
      (try simp only [Act.put, List.setIfInBounds_toArray, List.set_cons_zero, List.set_cons_succ])
      refine take_met 2 (oi := ⟨_, _, _, _, _, _⟩) (v := ?_) (by kernel_rfl) rfl (by rfl) (fun _ _ _ h => h) (by assumption) ?_ ?_
      rotate_left 1
      · intro w hSw
        try dsimp only at hSw
        go_simp
        try with_reducible rfl
      (try simp only [Act.put, List.setIfInBounds_toArray, List.set_cons_zero, List.set_cons_succ])
      refine take_met 3 (oi := ⟨_, _, _, _, _, _⟩) (v := ?_) (by kernel_rfl) rfl (by rfl) (fun _ _ _ h => h) (by assumption) ?_ ?_
      rotate_left 1
      · intro w hSw
        try dsimp only at hSw
        go_simp
        try with_reducible rfl
      (try simp only [Act.put, List.setIfInBounds_toArray, List.set_cons_zero, List.set_cons_succ])
      refine wpAnyH_ready (rs := [1, 4]) (by kernel_rfl) (by simp) ?_
      refine AllReadyH.cons (o := ⟨_, _, _, _, _, _⟩) rfl (fun K hK => ?_) ?_
      · skip
        go_simp
        have hOld := hHeld
        clear hHeld
        refine hK.out _ _ (by exact HSt.out _ (by (show Ext _ _; repeat (first | with_reducible (refine Hid.out ?_; assumption) | with_reducible exact Ext.refl _ | with_reducible refine Ext.ext ?_ _ | with_reducible refine Ext.alloc ?_ _ | with_reducible refine Ext.drew ?_ | with_reducible refine Ext.setCell ?_ (by (try dsimp only); first | omega | (simp; done) | (simp; omega)) _)))) (fun hHeld => ?_)
        clear hOld hK K
        (try simp only [Act.put, List.setIfInBounds_toArray, List.set_cons_zero, List.set_cons_succ])
        refine take_only 4 (oi := ⟨_, _, _, _, _, _⟩) (by kernel_rfl) rfl (fun K hK => ?_)
        go_simp
        first
          | (go_at_call 30; refine (block_any 3 8 1 (k : Int) _ (HSW.out.of (by (show Ext _ _; repeat (first | with_reducible (refine Hid.out ?_; assumption) | with_reducible exact Ext.refl _ | with_reducible refine Ext.ext ?_ _ | with_reducible refine Ext.alloc ?_ _ | with_reducible refine Ext.drew ?_ | with_reducible refine Ext.setCell ?_ (by (try dsimp only); first | omega | (simp; done) | (simp; omega)) _))))).mono ?_; rintro e w' ⟨rfl, r6, rfl⟩; rw [HAt.out])
        have hOld := hHeld
        clear hHeld
        refine hK.out _ _ (by exact HSt.out _ (by (show Ext _ _; repeat (first | with_reducible (refine Hid.out ?_; assumption) | with_reducible exact Ext.refl _ | with_reducible refine Ext.ext ?_ _ | with_reducible refine Ext.alloc ?_ _ | with_reducible refine Ext.drew ?_ | with_reducible refine Ext.setCell ?_ (by (try dsimp only); first | omega | (simp; done) | (simp; omega)) _)))) (fun hHeld => ?_)
        clear hOld hK K
        (try simp only [Act.put, List.setIfInBounds_toArray, List.set_cons_zero, List.set_cons_succ])
        refine take_only 5 (oi := ⟨_, _, _, _, _, _⟩) (by kernel_rfl) rfl (fun K hK => ?_)
        go_simp
        have hOld := hHeld
        clear hHeld
        refine hK.out _ _ (by exact HSt.out _ (by (show Ext _ _; repeat (first | with_reducible (refine Hid.out ?_; assumption) | with_reducible exact Ext.refl _ | with_reducible refine Ext.ext ?_ _ | with_reducible refine Ext.alloc ?_ _ | with_reducible refine Ext.drew ?_ | with_reducible refine Ext.setCell ?_ (by (try dsimp only); first | omega | (simp; done) | (simp; omega)) _)))) (fun hHeld => ?_)
        clear hOld hK K
        (try simp only [Act.put, List.setIfInBounds_toArray, List.set_cons_zero, List.set_cons_succ])
        refine take_only 6 (oi := ⟨_, _, _, _, _, _⟩) (by kernel_rfl) rfl (fun K hK => ?_)
        rw [if_pos (by rfl)]
        first
          | (refine li_append_gop _ _ rfl (by (first | exact Nat.le_refl _ | (simp; done) | (simp; omega))) rfl (Own.alloc (HO9.out.of_ext (by (show Ext _ _; repeat (first | with_reducible (refine Hid.out ?_; assumption) | with_reducible exact Ext.refl _ | with_reducible refine Ext.ext ?_ _ | with_reducible refine Ext.alloc ?_ _ | with_reducible refine Ext.drew ?_ | with_reducible refine Ext.setCell ?_ (by (try dsimp only); first | omega | (simp; done) | (simp; omega)) _)))) _) _ 1 1 rfl [p] rfl (news_new rfl _ (by (first | rfl | (simp; done)))) (by have := HL9.out; omega) ?_; rintro v9 w9 hv9 hg9 ha9; have HV9 := hid hv9; have HBG9 := hid (((HBG.out.of (by (show Ext _ _; repeat (first | with_reducible (refine Hid.out ?_; assumption) | with_reducible exact Ext.refl _ | with_reducible refine Ext.ext ?_ _ | with_reducible refine Ext.alloc ?_ _ | with_reducible refine Ext.drew ?_ | with_reducible refine Ext.setCell ?_ (by (try dsimp only); first | omega | (simp; done) | (simp; omega)) _)))).alloc _).gro hg9 (HO9.out.not_at hgZ)); have HOT9 := hid (((Own.alloc (HO10.out.of_ext (by (show Ext _ _; repeat (first | with_reducible (refine Hid.out ?_; assumption) | with_reducible exact Ext.refl _ | with_reducible refine Ext.ext ?_ _ | with_reducible refine Ext.alloc ?_ _ | with_reducible refine Ext.drew ?_ | with_reducible refine Ext.setCell ?_ (by (try dsimp only); first | omega | (simp; done) | (simp; omega)) _)))) _)).gro hg9 (HTW.out.symm)); have HTW9 := hid (Two.next (HTW.out) (Own.alloc (HO10.out.of_ext (by (show Ext _ _; repeat (first | with_reducible (refine Hid.out ?_; assumption) | with_reducible exact Ext.refl _ | with_reducible refine Ext.ext ?_ _ | with_reducible refine Ext.alloc ?_ _ | with_reducible refine Ext.drew ?_ | with_reducible refine Ext.setCell ?_ (by (try dsimp only); first | omega | (simp; done) | (simp; omega)) _)))) _).tops ha9); have HGN9 := hid ((HG.out.trans (Grn.of_ext (by (show Ext _ _; repeat (first | with_reducible (refine Hid.out ?_; assumption) | with_reducible exact Ext.refl _ | with_reducible refine Ext.ext ?_ _ | with_reducible refine Ext.alloc ?_ _ | with_reducible refine Ext.drew ?_ | with_reducible refine Ext.setCell ?_ (by (try dsimp only); first | omega | (simp; done) | (simp; omega)) _))))).gro hg9 HO9.out.bases); have HX9 := hid (HXZ.out.grn HGN9.out hgW); obtain ⟨a9, c9, hs9⟩ := Own.shape hv9; subst hs9; simp only [List.length_append, List.length_cons, List.length_nil, Nat.zero_add] at *; clear hv9 hg9 ha9; have q0 := HBG9.out.2.1 9; have q1 := HBG9.out.2.2 9 _ rfl; have q2 := HBG9.out.1)
        have hOld := hHeld
        clear hHeld
        refine hK.out _ _ (by exact HSt.out _ (by (show Ext _ _; repeat (first | with_reducible (refine Hid.out ?_; assumption) | with_reducible exact Ext.refl _ | with_reducible refine Ext.ext ?_ _ | with_reducible refine Ext.alloc ?_ _ | with_reducible refine Ext.drew ?_ | with_reducible refine Ext.setCell ?_ (by (try dsimp only); first | omega | (simp; done) | (simp; omega)) _)))) (fun hHeld => ?_)
        clear hOld hK K
        (try simp only [Act.put, List.setIfInBounds_toArray, List.set_cons_zero, List.set_cons_succ])
        refine take_met 7 (oi := ⟨_, _, _, _, _, _⟩) (v := ?_) (by kernel_rfl) rfl (by rfl) (fun _ _ _ h => h) (by assumption) ?_ ?_
        rotate_left 1
        · intro w hSw
          try dsimp only at hSw
          go_simp
          try with_reducible rfl
        (try simp only [Act.put, List.setIfInBounds_toArray, List.set_cons_zero, List.set_cons_succ])
        refine take_only 8 (oi := ⟨_, _, _, _, _, _⟩) (by kernel_rfl) rfl (fun K hK => ?_)
        go_simp
        have hOld := hHeld
        clear hHeld
        refine hK.out _ _ (by exact HSt.out _ (by (show Ext _ _; repeat (first | with_reducible (refine Hid.out ?_; assumption) | with_reducible exact Ext.refl _ | with_reducible refine Ext.ext ?_ _ | with_reducible refine Ext.alloc ?_ _ | with_reducible refine Ext.drew ?_ | with_reducible refine Ext.setCell ?_ (by (try dsimp only); first | omega | (simp; done) | (simp; omega)) _)))) (fun hHeld => ?_)
        clear hOld hK K
        (try simp only [Act.put, List.setIfInBounds_toArray, List.set_cons_zero, List.set_cons_succ])
        refine wpAnyH_done (by kernel_rfl) ?_ _
        go_wp2_with fail
        go_roundw
        case rel => exact ⟨k + 1, by omega, by go_num, _, hid (HBG9.out.set 9 (by simp) _), hid (by rw [HSc.out, ← List.append_assoc, ← HLs.out]; exact HV9.out.under hgZ _), hid (HOT9.out.under hgZ _), HTW9, hid (HGN9.out.setCell _ _)⟩
        case measure => simp [intOf]; omega
      refine AllReadyH.cons (o := ⟨_, _, _, _, _, _⟩) rfl (fun K hK => ?_) AllReadyH.nil
      go_simp
      first
        | (go_at_call 30; refine (block_any 3 8 1 (k : Int) _ (HSW.out.of (by (show Ext _ _; repeat (first | with_reducible (refine Hid.out ?_; assumption) | with_reducible exact Ext.refl _ | with_reducible refine Ext.ext ?_ _ | with_reducible refine Ext.alloc ?_ _ | with_reducible refine Ext.drew ?_ | with_reducible refine Ext.setCell ?_ (by (try dsimp only); first | omega | (simp; done) | (simp; omega)) _))))).mono ?_; rintro e w' ⟨rfl, r6, rfl⟩; rw [HAt.out])
      have hOld := hHeld
      clear hHeld
      refine hK.out _ _ (by exact HSt.out _ (by (show Ext _ _; repeat (first | with_reducible (refine Hid.out ?_; assumption) | with_reducible exact Ext.refl _ | with_reducible refine Ext.ext ?_ _ | with_reducible refine Ext.alloc ?_ _ | with_reducible refine Ext.drew ?_ | with_reducible refine Ext.setCell ?_ (by (try dsimp only); first | omega | (simp; done) | (simp; omega)) _)))) (fun hHeld => ?_)
      clear hOld hK K
      (try simp only [Act.put, List.setIfInBounds_toArray, List.set_cons_zero, List.set_cons_succ])
      refine wpAnyH_ready (rs := [1, 5]) (by kernel_rfl) (by simp) ?_
      refine AllReadyH.cons (o := ⟨_, _, _, _, _, _⟩) rfl (fun K hK => ?_) ?_
      · skip
        go_simp
        have hOld := hHeld
        clear hHeld
        refine hK.out _ _ (by exact HSt.out _ (by (show Ext _ _; repeat (first | with_reducible (refine Hid.out ?_; assumption) | with_reducible exact Ext.refl _ | with_reducible refine Ext.ext ?_ _ | with_reducible refine Ext.alloc ?_ _ | with_reducible refine Ext.drew ?_ | with_reducible refine Ext.setCell ?_ (by (try dsimp only); first | omega | (simp; done) | (simp; omega)) _)))) (fun hHeld => ?_)
        clear hOld hK K
        (try simp only [Act.put, List.setIfInBounds_toArray, List.set_cons_zero, List.set_cons_succ])
        refine take_only 5 (oi := ⟨_, _, _, _, _, _⟩) (by kernel_rfl) rfl (fun K hK => ?_)
        go_simp
        have hOld := hHeld
        clear hHeld
        refine hK.out _ _ (by exact HSt.out _ (by (show Ext _ _; repeat (first | with_reducible (refine Hid.out ?_; assumption) | with_reducible exact Ext.refl _ | with_reducible refine Ext.ext ?_ _ | with_reducible refine Ext.alloc ?_ _ | with_reducible refine Ext.drew ?_ | with_reducible refine Ext.setCell ?_ (by (try dsimp only); first | omega | (simp; done) | (simp; omega)) _)))) (fun hHeld => ?_)
        clear hOld hK K
        (try simp only [Act.put, List.setIfInBounds_toArray, List.set_cons_zero, List.set_cons_succ])
        refine take_only 6 (oi := ⟨_, _, _, _, _, _⟩) (by kernel_rfl) rfl (fun K hK => ?_)
        rw [if_pos (by rfl)]
        first
          | (refine li_append_gop _ _ rfl (by (first | exact Nat.le_refl _ | (simp; done) | (simp; omega))) rfl (Own.alloc (HO9.out.of_ext (by (show Ext _ _; repeat (first | with_reducible (refine Hid.out ?_; assumption) | with_reducible exact Ext.refl _ | with_reducible refine Ext.ext ?_ _ | with_reducible refine Ext.alloc ?_ _ | with_reducible refine Ext.drew ?_ | with_reducible refine Ext.setCell ?_ (by (try dsimp only); first | omega | (simp; done) | (simp; omega)) _)))) _) _ 1 1 rfl [p] rfl (news_new rfl _ (by (first | rfl | (simp; done)))) (by have := HL9.out; omega) ?_; rintro v9 w9 hv9 hg9 ha9; have HV9 := hid hv9; have HBG9 := hid (((HBG.out.of (by (show Ext _ _; repeat (first | with_reducible (refine Hid.out ?_; assumption) | with_reducible exact Ext.refl _ | with_reducible refine Ext.ext ?_ _ | with_reducible refine Ext.alloc ?_ _ | with_reducible refine Ext.drew ?_ | with_reducible refine Ext.setCell ?_ (by (try dsimp only); first | omega | (simp; done) | (simp; omega)) _)))).alloc _).gro hg9 (HO9.out.not_at hgZ)); have HOT9 := hid (((Own.alloc (HO10.out.of_ext (by (show Ext _ _; repeat (first | with_reducible (refine Hid.out ?_; assumption) | with_reducible exact Ext.refl _ | with_reducible refine Ext.ext ?_ _ | with_reducible refine Ext.alloc ?_ _ | with_reducible refine Ext.drew ?_ | with_reducible refine Ext.setCell ?_ (by (try dsimp only); first | omega | (simp; done) | (simp; omega)) _)))) _)).gro hg9 (HTW.out.symm)); have HTW9 := hid (Two.next (HTW.out) (Own.alloc (HO10.out.of_ext (by (show Ext _ _; repeat (first | with_reducible (refine Hid.out ?_; assumption) | with_reducible exact Ext.refl _ | with_reducible refine Ext.ext ?_ _ | with_reducible refine Ext.alloc ?_ _ | with_reducible refine Ext.drew ?_ | with_reducible refine Ext.setCell ?_ (by (try dsimp only); first | omega | (simp; done) | (simp; omega)) _)))) _).tops ha9); have HGN9 := hid ((HG.out.trans (Grn.of_ext (by (show Ext _ _; repeat (first | with_reducible (refine Hid.out ?_; assumption) | with_reducible exact Ext.refl _ | with_reducible refine Ext.ext ?_ _ | with_reducible refine Ext.alloc ?_ _ | with_reducible refine Ext.drew ?_ | with_reducible refine Ext.setCell ?_ (by (try dsimp only); first | omega | (simp; done) | (simp; omega)) _))))).gro hg9 HO9.out.bases); have HX9 := hid (HXZ.out.grn HGN9.out hgW); obtain ⟨a9, c9, hs9⟩ := Own.shape hv9; subst hs9; simp only [List.length_append, List.length_cons, List.length_nil, Nat.zero_add] at *; clear hv9 hg9 ha9; have q0 := HBG9.out.2.1 9; have q1 := HBG9.out.2.2 9 _ rfl; have q2 := HBG9.out.1)
        have hOld := hHeld
        clear hHeld
        refine hK.out _ _ (by exact HSt.out _ (by (show Ext _ _; repeat (first | with_reducible (refine Hid.out ?_; assumption) | with_reducible exact Ext.refl _ | with_reducible refine Ext.ext ?_ _ | with_reducible refine Ext.alloc ?_ _ | with_reducible refine Ext.drew ?_ | with_reducible refine Ext.setCell ?_ (by (try dsimp only); first | omega | (simp; done) | (simp; omega)) _)))) (fun hHeld => ?_)
        clear hOld hK K
        (try simp only [Act.put, List.setIfInBounds_toArray, List.set_cons_zero, List.set_cons_succ])
        refine take_met 7 (oi := ⟨_, _, _, _, _, _⟩) (v := ?_) (by kernel_rfl) rfl (by rfl) (fun _ _ _ h => h) (by assumption) ?_ ?_
        rotate_left 1
        · intro w hSw
          try dsimp only at hSw
          go_simp
          try with_reducible rfl
        (try simp only [Act.put, List.setIfInBounds_toArray, List.set_cons_zero, List.set_cons_succ])
        refine take_only 8 (oi := ⟨_, _, _, _, _, _⟩) (by kernel_rfl) rfl (fun K hK => ?_)
        go_simp
        have hOld := hHeld
        clear hHeld
        refine hK.out _ _ (by exact HSt.out _ (by (show Ext _ _; repeat (first | with_reducible (refine Hid.out ?_; assumption) | with_reducible exact Ext.refl _ | with_reducible refine Ext.ext ?_ _ | with_reducible refine Ext.alloc ?_ _ | with_reducible refine Ext.drew ?_ | with_reducible refine Ext.setCell ?_ (by (try dsimp only); first | omega | (simp; done) | (simp; omega)) _)))) (fun hHeld => ?_)
        clear hOld hK K
        (try simp only [Act.put, List.setIfInBounds_toArray, List.set_cons_zero, List.set_cons_succ])
        refine wpAnyH_done (by kernel_rfl) ?_ _
        go_wp2_with fail
        go_roundw
        case rel => exact ⟨k + 1, by omega, by go_num, _, hid (HBG9.out.set 9 (by simp) _), hid (by rw [HSc.out, ← List.append_assoc, ← HLs.out]; exact HV9.out.under hgZ _), hid (HOT9.out.under hgZ _), HTW9, hid (HGN9.out.setCell _ _)⟩
        case measure => simp [intOf]; omega
      refine AllReadyH.cons (o := ⟨_, _, _, _, _, _⟩) rfl (fun K hK => ?_) AllReadyH.nil
      go_simp
      have hOld := hHeld
      clear hHeld
      refine hK.out _ _ (by exact HSt.out _ (by (show Ext _ _; repeat (first | with_reducible (refine Hid.out ?_; assumption) | with_reducible exact Ext.refl _ | with_reducible refine Ext.ext ?_ _ | with_reducible refine Ext.alloc ?_ _ | with_reducible refine Ext.drew ?_ | with_reducible refine Ext.setCell ?_ (by (try dsimp only); first | omega | (simp; done) | (simp; omega)) _)))) (fun hHeld => ?_)
      clear hOld hK K
      (try simp only [Act.put, List.setIfInBounds_toArray, List.set_cons_zero, List.set_cons_succ])
      refine take_only 1 (oi := ⟨_, _, _, _, _, _⟩) (by kernel_rfl) rfl (fun K hK => ?_)
      go_simp
      have hOld := hHeld
      clear hHeld
      refine hK.out _ _ (by exact HSt.out _ (by (show Ext _ _; repeat (first | with_reducible (refine Hid.out ?_; assumption) | with_reducible exact Ext.refl _ | with_reducible refine Ext.ext ?_ _ | with_reducible refine Ext.alloc ?_ _ | with_reducible refine Ext.drew ?_ | with_reducible refine Ext.setCell ?_ (by (try dsimp only); first | omega | (simp; done) | (simp; omega)) _)))) (fun hHeld => ?_)
      clear hOld hK K
      (try simp only [Act.put, List.setIfInBounds_toArray, List.set_cons_zero, List.set_cons_succ])
      refine take_only 6 (oi := ⟨_, _, _, _, _, _⟩) (by kernel_rfl) rfl (fun K hK => ?_)
      rw [if_pos (by rfl)]
      first
        | (refine li_append_gop _ _ rfl (by (first | exact Nat.le_refl _ | (simp; done) | (simp; omega))) rfl (Own.alloc (HO9.out.of_ext (by (show Ext _ _; repeat (first | with_reducible (refine Hid.out ?_; assumption) | with_reducible exact Ext.refl _ | with_reducible refine Ext.ext ?_ _ | with_reducible refine Ext.alloc ?_ _ | with_reducible refine Ext.drew ?_ | with_reducible refine Ext.setCell ?_ (by (try dsimp only); first | omega | (simp; done) | (simp; omega)) _)))) _) _ 1 1 rfl [p] rfl (news_new rfl _ (by (first | rfl | (simp; done)))) (by have := HL9.out; omega) ?_; rintro v9 w9 hv9 hg9 ha9; have HV9 := hid hv9; have HBG9 := hid (((HBG.out.of (by (show Ext _ _; repeat (first | with_reducible (refine Hid.out ?_; assumption) | with_reducible exact Ext.refl _ | with_reducible refine Ext.ext ?_ _ | with_reducible refine Ext.alloc ?_ _ | with_reducible refine Ext.drew ?_ | with_reducible refine Ext.setCell ?_ (by (try dsimp only); first | omega | (simp; done) | (simp; omega)) _)))).alloc _).gro hg9 (HO9.out.not_at hgZ)); have HOT9 := hid (((Own.alloc (HO10.out.of_ext (by (show Ext _ _; repeat (first | with_reducible (refine Hid.out ?_; assumption) | with_reducible exact Ext.refl _ | with_reducible refine Ext.ext ?_ _ | with_reducible refine Ext.alloc ?_ _ | with_reducible refine Ext.drew ?_ | with_reducible refine Ext.setCell ?_ (by (try dsimp only); first | omega | (simp; done) | (simp; omega)) _)))) _)).gro hg9 (HTW.out.symm)); have HTW9 := hid (Two.next (HTW.out) (Own.alloc (HO10.out.of_ext (by (show Ext _ _; repeat (first | with_reducible (refine Hid.out ?_; assumption) | with_reducible exact Ext.refl _ | with_reducible refine Ext.ext ?_ _ | with_reducible refine Ext.alloc ?_ _ | with_reducible refine Ext.drew ?_ | with_reducible refine Ext.setCell ?_ (by (try dsimp only); first | omega | (simp; done) | (simp; omega)) _)))) _).tops ha9); have HGN9 := hid ((HG.out.trans (Grn.of_ext (by (show Ext _ _; repeat (first | with_reducible (refine Hid.out ?_; assumption) | with_reducible exact Ext.refl _ | with_reducible refine Ext.ext ?_ _ | with_reducible refine Ext.alloc ?_ _ | with_reducible refine Ext.drew ?_ | with_reducible refine Ext.setCell ?_ (by (try dsimp only); first | omega | (simp; done) | (simp; omega)) _))))).gro hg9 HO9.out.bases); have HX9 := hid (HXZ.out.grn HGN9.out hgW); obtain ⟨a9, c9, hs9⟩ := Own.shape hv9; subst hs9; simp only [List.length_append, List.length_cons, List.length_nil, Nat.zero_add] at *; clear hv9 hg9 ha9; have q0 := HBG9.out.2.1 9; have q1 := HBG9.out.2.2 9 _ rfl; have q2 := HBG9.out.1)
      have hOld := hHeld
      clear hHeld
      refine hK.out _ _ (by exact HSt.out _ (by (show Ext _ _; repeat (first | with_reducible (refine Hid.out ?_; assumption) | with_reducible exact Ext.refl _ | with_reducible refine Ext.ext ?_ _ | with_reducible refine Ext.alloc ?_ _ | with_reducible refine Ext.drew ?_ | with_reducible refine Ext.setCell ?_ (by (try dsimp only); first | omega | (simp; done) | (simp; omega)) _)))) (fun hHeld => ?_)
      clear hOld hK K
      (try simp only [Act.put, List.setIfInBounds_toArray, List.set_cons_zero, List.set_cons_succ])
      refine take_met 7 (oi := ⟨_, _, _, _, _, _⟩) (v := ?_) (by kernel_rfl) rfl (by rfl) (fun _ _ _ h => h) (by assumption) ?_ ?_
      rotate_left 1
      · intro w hSw
        try dsimp only at hSw
        go_simp
        try with_reducible rfl
      (try simp only [Act.put, List.setIfInBounds_toArray, List.set_cons_zero, List.set_cons_succ])
      refine take_only 8 (oi := ⟨_, _, _, _, _, _⟩) (by kernel_rfl) rfl (fun K hK => ?_)
      go_simp
      have hOld := hHeld
      clear hHeld
      refine hK.out _ _ (by exact HSt.out _ (by (show Ext _ _; repeat (first | with_reducible (refine Hid.out ?_; assumption) | with_reducible exact Ext.refl _ | with_reducible refine Ext.ext ?_ _ | with_reducible refine Ext.alloc ?_ _ | with_reducible refine Ext.drew ?_ | with_reducible refine Ext.setCell ?_ (by (try dsimp only); first | omega | (simp; done) | (simp; omega)) _)))) (fun hHeld => ?_)
      clear hOld hK K
      (try simp only [Act.put, List.setIfInBounds_toArray, List.set_cons_zero, List.set_cons_succ])
      refine wpAnyH_done (by kernel_rfl) ?_ _
      go_wp2_with fail
      go_roundw
      case rel => exact ⟨k + 1, by omega, by go_num, _, hid (HBG9.out.set 9 (by simp) _), hid (by rw [HSc.out, ← List.append_assoc, ← HLs.out]; exact HV9.out.under hgZ _), hid (HOT9.out.under hgZ _), HTW9, hid (HGN9.out.setCell _ _)⟩
      case measure => simp [intOf]; omega
    have hkk : ¬ (k : Int) < 1 := by omega
    have HK1 := hid (show k = 1 by omega)
    have HSt := hid (show slotTo 3 8 1 3 ++ blockTo 3 8 1 k = statsL 3 8 1 by rw [HK1.out]; rfl)
    rw [HSt.out] at HO9
    obtain ⟨av9, cv9, hs9⟩ := Own.shape HO9.out
    obtain ⟨av10, cv10, hs10⟩ := Own.shape HO10.out
    obtain ⟨avm, cvm, hsm⟩ := Own.shape HOMZ.out
    subst hs9 hs10 hsm
    have HPt := hid ((HOMZ.out).not_at (show g < wc.heap.size from hgc))
    have HOM := hid ((HOMZ.out).gro HG.out (.inr HPt.out))
    have HBW := hid (HBWZ.out.grn HG.out (fun e => hgg e.symm))
    have HXw := hid (HWx.out.trans HXk.out)
    have HB2k := hid (HB2.out.of HXk.out)
    have c0 := HBG.out.2.2 0 _ rfl
    have c1 := HBG.out.2.2 1 _ rfl
    have c2 := HBG.out.2.2 2 _ rfl
    have c3 := HBG.out.2.2 3 _ rfl
    have c4 := HBG.out.2.2 4 _ rfl
    have c5 := HBG.out.2.2 5 _ rfl
    have c6 := HBG.out.2.2 6 _ rfl
    have c7 := HBG.out.2.2 7 _ rfl
    have c8 := HBG.out.2.2 8 _ rfl
    have c9 := HBG.out.2.2 9 _ rfl
    have c10 := HBG.out.2.2 10 _ rfl
    have c11 := HBG.out.1
    have d0 := HB2k.out.2.2 0 _ rfl
    have e0 := HB2k.out.2.1 0
    have d1 := HB2k.out.2.2 1 _ rfl
    have e1 := HB2k.out.2.1 1
    have d2 := HB2k.out.2.2 2 _ rfl
    have e2 := HB2k.out.2.1 2
    have d3 := HB2k.out.2.2 3 _ rfl
    have e3 := HB2k.out.2.1 3
    have d4 := HB2k.out.2.2 4 _ rfl
    have e4 := HB2k.out.2.1 4
    have d5 := HB2k.out.2.2 5 _ rfl
    have e5 := HB2k.out.2.1 5
    have d6 := HB2k.out.2.2 6 _ rfl
    have e6 := HB2k.out.2.1 6
    have d7 := HB2k.out.2.2 7 _ rfl
    have e7 := HB2k.out.2.1 7
    have d8 := HB2k.out.2.2 8 _ rfl
    have e8 := HB2k.out.2.1 8
    have d9 := HB2k.out.2.2 9 _ rfl
    have e9 := HB2k.out.2.1 9
    have d10 := HB2k.out.2.2 10 _ rfl
    have e10 := HB2k.out.2.1 10
    have d11 := HB2k.out.1
    have hw2 : w.heap.size + 1 < W.heap.size := HB2.out.1
    clear HK1 hk hk1 HSt
    (repeat (first | go_values | go_skip | go_guarded | go_step | go_upon | (simp only [Int.not_lt, Int.not_le] at *; go_simp) | (go_ite <;> go_prune <;> (try go_simp))))
    refine bodyPost_ret (v := .agg #[.int .i64 3, .int .i64 1, .int .i64 64, .int .i64 384, .int .i64 104, .int .i64 32, .slice (some ⟨gw, 0, none⟩) 416 416, .int .i64 416, .slice avm (maysL 3 8 1).length cvm, .slice av9 (statsL 3 8 1).length cv9, .slice av10 (ownsL 3 8 1).length cv10]) (by simp [results, Tryd.results9, go_sem, d11, d0, d1, d2, d3, d4, d5, d6, d7, d8, d9, d10]) rfl ⟨_, _, _, _, rfl, by (show Ext _ _; repeat (first | with_reducible (refine Hid.out ?_; assumption) | with_reducible exact Ext.refl _ | with_reducible refine Ext.ext ?_ _ | with_reducible refine Ext.alloc ?_ _ | with_reducible refine Ext.drew ?_ | with_reducible refine Ext.setCell ?_ (by (try dsimp only); first | omega | (simp; done) | (simp; omega)) _)), ?_, ?_, ?_, ?_⟩
    · exact blk_bools (by (show Blk _ _ _; repeat (first | with_reducible (refine Hid.out ?_; assumption) | with_reducible apply Blk.drew | with_reducible apply Blk.ext | ((with_reducible refine Blk.new _ _ rfl ?_); first | with_reducible rfl | focus (simp; done)) | ((with_reducible apply Blk.newE); first | with_reducible rfl | focus (simp; done)) | with_reducible apply Blk.alloc | with_reducible assumption | with_reducible apply Blk.setE | ((with_reducible apply Blk.other'); first | omega | (simp; omega)) | (show List.set _ _ _ = _; exact rfl) | focus (show _ < List.length _; simp; done)))) (mayL_len ..) (by omega)
    · refine Sl.of_own (base := wc.heap.size) (e := 3) locE_len ?_
      repeat (with_reducible refine Own.under ?_ (by omega) _)
      exact HOM.out
    · refine Sl.of_own (base := Z.heap.size) (e := 3) locE_len ?_
      repeat (with_reducible refine Own.under ?_ (by omega) _)
      exact HO9.out
    · refine Sl.of_own (base := Z.heap.size) (e := 3) locE_len ?_
      repeat (with_reducible refine Own.under ?_ (by omega) _)
      exact HO10.out

end Go.Proofs.YtfijnpfhffhffaaDoor
