/- Slices of bools. -/
import Derived.Test.YtfijnpfhffhffaaDoorOwn
import Derived.Test.YtfijnpfhffhffaaDoorWd
namespace Go.Proofs.YtfijnpfhffhffaaDoor
set_option linter.unusedSimpArgs false
set_option linter.unusedVariables false
open Go.RowKit

def boE (x : Bool) : List Value := [.bool x]
theorem boE_len (x : Bool) : (boE x).length = 1 := rfl
theorem boE_one (x : Bool) : ∀ u ∈ boE x, u.oneCell' = true := by
  intro u hu
  simp only [boE, List.mem_cons, List.not_mem_nil, or_false] at hu
  rcases hu with rfl; rfl
theorem Tryd.infoBool : (Tryd.prog.info? 4).map (fun i => (i.zero, i.size, i.bytes)) = some (some (.bool false), 1, 1) := by kernel_rfl

/-- Plain: for a region's last operation but two: the append. -/
theorem bo_append_op {o : Oper} {a : Act} {K : Act → World → Prop} {Q : Exit → Act → World → Prop} {w : World} {base : Nat} {v : Value} {l : List Bool}
    (s x : Operand) (ho : o.op = .call { callee := .builtin .append, args := #[s, x], argTypes := #[41, 41] })
    (W : World) (hW : Ext W w) (hWb : W.heap.size ≤ base) (hbw : base ≤ w.heap.size) (hs : a.eval s = v) (hown : Own w base 4 1 boE v l)
    (ad : Addr) (m c : Nat) (hx : a.eval x = .slice (some ad) m c) (news : List Bool) (hm : news.length = m)
    (hnews : ∀ (j : Nat) (u : Value), (news.flatMap boE)[j]? = some u → w.cell? (ad.add j) = some u)
    (hlen : l.length + m ≤ 1000000)
    (h : ∀ v' w', Own w' base 4 1 boE v' (l ++ news) → Ext W w' → Below base w w' → K (a.put o.dst v') w') : Oper.wp Tryd.prog o a w K Q := by
  obtain ⟨i0, hi, hz0, hz1, hz2⟩ := info_parts Tryd.infoBool
  exact own_append_bop Tryd.underlying41 hi hz0 hz1 hz2 rfl (by decide) boE_len boE_one s x ho W hW hWb hbw hs hown ad m c hx news hm hnews (by unfold maxLen; omega) (by omega) h

end Go.Proofs.YtfijnpfhffhffaaDoor
