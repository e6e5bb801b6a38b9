/- General laws, of no program in particular: the moves of a walk over a region that draws its order, where the calls wait for one another and all else only reads what a condition on the world gives; operations whose guard is not met are passed over. No condition. -/
import Derived.Test.YtaaammenbfinmaaDoorBase
import Derived.Deep.RegionHeld3
namespace Go.Proofs.YtaaammenbfinmaaDoor
set_option linter.unusedSimpArgs false
set_option linter.unusedVariables false
open Go.RowKit

/-- May number i be taken first? -/
def mayTake (ops : Array Oper) (listed : Array Bool) (i : Nat) : Bool := (Region.ready .any ops listed).contains i && Region.noSelect ops && Region.free .any ops listed i

section
variable {P : Program} {ops : Array Oper} {Q : Exit → Act → World → Prop} {S : World → Prop}
theorem take_met (i : Nat) {oi : Oper} {v : Value} {fuel : Nat} {listed : Array Bool} {a : Act} {w : World} (hm : mayTake ops listed i = true) (hi : ops[i]? = some oi)
    (hw : Region.wanted oi (yielded ops a.tmps) = true) (hQ : ∀ c a w, Q (.panic c) (a.put oi.dst v) w → Q (.panic c) a w) (hS : S w) (hy : ∀ w, S w → (execOp a.eval oi).run P w = .ok (.value v) w)
    (h : wpAnyH P .any ops Q S fuel (listed.setIfInBounds i true) (a.put oi.dst v) w) : wpAnyH P .any ops Q S (fuel + 1) listed a w := by
  simp only [mayTake, Bool.and_eq_true] at hm
  exact wpAnyH_take hi hm.1.2 hm.2 hm.1.1 hQ (.inl ⟨hw, hy⟩) hS h
theorem take_unmet (i : Nat) {oi : Oper} {fuel : Nat} {listed : Array Bool} {a : Act} {w : World} (hm : mayTake ops listed i = true) (hi : ops[i]? = some oi)
    (hw : Region.wanted oi (yielded ops a.tmps) = false) (hQ : ∀ c a w, Q (.panic c) (a.put oi.dst undef) w → Q (.panic c) a w) (hS : S w)
    (h : wpAnyH P .any ops Q S fuel (listed.setIfInBounds i true) (a.put oi.dst undef) w) : wpAnyH P .any ops Q S (fuel + 1) listed a w := by
  simp only [mayTake, Bool.and_eq_true] at hm
  exact wpAnyH_take hi hm.1.2 hm.2 hm.1.1 hQ (.inr ⟨hw, rfl⟩) hS h
/-- One alone may come up. -/
theorem take_only (i : Nat) {oi : Oper} {fuel : Nat} {listed : Array Bool} {a : Act} {w : World} (hr : Region.ready .any ops listed = [i]) (hi : ops[i]? = some oi)
    (h : ∀ K' : Act → World → Prop, Shut (∀ a w, S w → (S w → wpAnyH P .any ops Q S fuel (listed.setIfInBounds i true) a w) → K' a w) → if Region.wanted oi (yielded ops a.tmps) = true then Oper.wp P oi a w K' Q else K' (a.put oi.dst undef) w) :
    wpAnyH P .any ops Q S (fuel + 1) listed a w :=
  wpAnyH_ready hr (by simp) (AllReadyH.cons hi h AllReadyH.nil)
end

/-- 'append(s, x...)' at the operation itself (in a region that draws its order). -/
theorem own_append_op {α : Type} {enc : α → List Value} {base : Nat} {e : TypeId} {size : Nat} {v : Value} {l : List α} {w : World} {P : Program} {t : TypeId} {i : TypeInfo} {z : Value} {bytes : Nat} (ht : P.underlying t = some (.slice e)) (hi : P.info? e = some i) (hz : i.zero = some z)
    (hsize : i.size = size) (hby : i.bytes = bytes) (hzs : z.cells.size = size) (hsz : 0 < size) (henc : ∀ x, (enc x).length = size) (hone : ∀ x, ∀ u ∈ enc x, u.oneCell' = true)
    {o : Oper} {a : Act} {K : Act → World → Prop} {Q : Exit → Act → World → Prop}
    (s x : Operand) (ho : o.op = .call { callee := .builtin .append, args := #[s, x], argTypes := #[t, t] })
    (W : World) (hW : Ext W w) (hWb : W.heap.size ≤ base) (hbw : base ≤ w.heap.size) (hs : a.eval s = v) (hown : Own w base e size enc v l)
    (ad : Addr) (m c : Nat) (hx : a.eval x = .slice (some ad) m c) (news : List α) (hm : news.length = m)
    (hnews : ∀ (j : Nat) (u : Value), (news.flatMap enc)[j]? = some u → w.cell? (ad.add j) = some u)
    (hlen : l.length + m ≤ maxLen) (hbytes : (l.length + m) * bytes ≤ 140737488355328)
    (h : ∀ v' r, Own (ext W r) base e size enc v' (l ++ news) → K (a.put o.dst v') (Go.Proofs.YtaaammenbfinmaaDoor.ext W r)) : Oper.wp P o a w K Q := by
  have hl : (news.flatMap enc).length = m * size := by
    subst hm
    clear hnews hx hlen hbytes h
    induction news with
    | nil => simp
    | cons y ys ih => simp only [List.flatMap_cons, List.length_append, henc, List.length_cons, Nat.add_mul]; rw [ih]; omega
  refine wp_append_own w s x t ho base e i z size bytes ht hi hz hsize hby hzs hsz v l.length (l.flatMap enc) hs hown ad m c (news.flatMap enc) hx hl hnews
    (fun u hu => by obtain ⟨y, _, hy⟩ := List.mem_flatMap.1 hu; exact hone y u hy) hlen hbytes hbw ?_
  intro v' w' hown' hg _
  have hE : Ext W w' := Ext.of_below ((hW.below).grown hg hW.size (fun k hk => by
    have := (World.ownsRow.lt hown k hk).1; omega))
  obtain ⟨r, rfl⟩ := hE
  refine h v' r ?_
  have e1 : (l ++ news).length = l.length + m := by simp [hm]
  have e2 : (l ++ news).flatMap enc = l.flatMap enc ++ news.flatMap enc := by simp
  unfold Own
  rw [e1, e2]
  exact hown'

end Go.Proofs.YtaaammenbfinmaaDoor
