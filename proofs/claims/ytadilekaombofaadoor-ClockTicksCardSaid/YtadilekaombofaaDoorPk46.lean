/- The frame that all laws of this seat share: an argument reads behind the call as it read before, wherever the call has only made new memory; what the listed table gives a walk. -/
import Derived.Test.YtadilekaombofaaDoorRows
import Derived.Test.YtadilekaombofaaDoorPk00
import Derived.ProofKit
import Derived.LaidMore
import Derived.OpenShut
import Derived.Stop.Joined
import Derived.Lib.SmallJoins
import Derived.Lib.LaidTab
import Derived.SevenTiedAt
namespace Go.Proofs.YtadilekaombofaaDoor
set_option linter.unusedSimpArgs false
set_option linter.unusedVariables false
open Go.ChangeShapes Go.WideShapes Go.ChangeAt Go.WideMaps Go.WideElems Go.RowKit Go.Joins
theorem Tryd.own : ownKnob Tryd.prog.godebug = none := by kernel_rfl
theorem Tryd.laidOut : laidOutB Tryd.prog = true := by kernel_rfl
theorem trodAll_ext {H : Type} {enc : TypeId × Value → H} {W W' : World} (hE : Ext W W') : ∀ (ts : List TypeId) (vs : List Value) (ds : List (DataW H)) (p : List MemPlace), (∀ t ∈ ts, Tryd.prog.readableRec t = true ∧ t < Tryd.prog.types.size) →
 DataW.TrodAll enc Tryd.prog W 0 (fun _ => true) true ts vs ds p → (∀ x ∈ p, x.block < W.heap.size) → DataW.TrodAll enc Tryd.prog W' 0 (fun b => decide (b < W.heap.size)) true ts vs ds p := by
 intro ts
 induction ts with
 | nil =>
  intro vs ds p _ h _
  obtain ⟨rfl, rfl, rfl⟩ := trodAll_nil h
  exact trodAll_mk0
 | cons t ts ih =>
  intro vs ds p ht h hlt
  obtain ⟨v, vs', d, ds', p1, q1, rfl, rfl, rfl, h1, h2⟩ := trodAll_cons h
  refine ⟨p1, q1, ?_, ih vs' ds' q1 (fun t' h' => ht t' (List.mem_cons_of_mem _ h')) h2 (fun x hx => hlt x (List.mem_append_right _ hx)), rfl⟩
  exact Below.trod Tryd.laidOut (ht t (List.mem_cons_self ..)).1 (ht t (List.mem_cons_self ..)).2 h1 hE.below (fun x hx => hlt x (List.mem_append_left _ hx))
theorem law_post {H : Type} {enc : TypeId × Value → H} (f : Func) (s : ChangeSpec) {W W' : World} {args : Array Value} {ds : List (DataW H)} {p : List MemPlace}
 (hv : s.vars = []) (hres : f.resultTypes.toList = [4]) (hrs : f.resultTypes.size = 1)
 (hW : DataW.Whole enc Tryd.prog f.params.toList s.vars false W args.toList ds [] p)
 (hr : (s.fn H (ds ++ [])).results = [.lit (.bool true)]) (ha : (s.fn H (ds ++ [])).args = ds) (hvs : (s.fn H (ds ++ [])).vars = [])
 (ht : ∀ t ∈ f.params.toList, Tryd.prog.readableRec t = true ∧ t < Tryd.prog.types.size) (hE : Ext W W') :
 s.post enc Tryd.prog f false true false false W args (.bool true) W' := by
 have hW2 := hW
 obtain ⟨p1, q1, hA, hV, rfl, _, _⟩ := hW
 rw [hv] at hV
 obtain ⟨_, rfl⟩ := trodVars_none hV
 refine ⟨ds, [], _, [], p1, [], hW2, ?_, ?_, ?_, hE.below.frame _, fun h => by cases h⟩
 ·rw [hr, hres, hrs]; exact trodAll_mk1 (shut_bool Tryd.underlying4 true)
 ·rw [ha]; exact trodAll_ext hE _ _ _ _ ht hA (fun x hx => hW2.lt x (List.mem_append_left _ hx))
 ·rw [hv, hvs]; rfl
end Go.Proofs.YtadilekaombofaaDoor
