/- Walks of the reference of descriptors: May, Right. -/
import Derived.Test.YtlijgheghodfeaaDoorBoo
import Derived.Test.YtlijgheghodfeaaDoorEntC
import Derived.Test.YtlijgheghodfeaaDoorHeld
namespace Go.Proofs.YtlijgheghodfeaaDoor
set_option linter.unusedSimpArgs false
set_option linter.unusedVariables false
open Go.RowKit

/-- Plain: what the reference's May answers. -/
def rmayB (ws : List Bool) (p : Int) : Bool := decide (0 ≤ p ∧ p < (ws.length : Int)) && ws.getD p.toNat false
/-- Plain: an entry that the reference refuses, behind the entry q. -/
def rbadB (q : Option En) (e : En) : Bool :=
  decide (e.loc < 0) || decide (4096 ≤ e.loc) || (match q with | some y => decide (e.loc ≤ y.loc) | none => false) || decide (e.ref ≠ 0) || (e.wr && decide (e.ver = 4294967295)) || (!e.wr && decide (e.new ≠ e.val))
def rightGo (q : Option En) : List En → Bool
  | [] => true
  | e :: r => !rbadB q e && rightGo (some e) r
def rightB (es : List En) : Bool := rightGo none es && decide (1 ≤ es.length ∧ es.length ≤ 32)
def prevE (es : List En) (j : Nat) : Option En := if j = 0 then none else es[j - 1]?
theorem rightGo_at {es : List En} {j : Nat} {e : En} (h : es[j]? = some e) : rightGo (prevE es j) (es.drop j) = (!rbadB (prevE es j) e && rightGo (prevE es (j + 1)) (es.drop (j + 1))) := by
  obtain ⟨hj, hk⟩ := List.getElem?_eq_some_iff.1 h
  have hp : prevE es (j + 1) = some e := by unfold prevE; rw [if_neg (by omega), Nat.add_sub_cancel, h]
  rw [List.drop_eq_getElem_cons hj, hk, hp]; rfl

end Go.Proofs.YtlijgheghodfeaaDoor
