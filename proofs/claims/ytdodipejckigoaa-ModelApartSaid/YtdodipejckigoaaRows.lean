/-
  No cell of these rows narrows 'for every input' (looked for: loops, veiled, ifaces, maps, wideKeys, modest, calm, conditions, laid).
  DERIVED. THE GIVEN ROWS OF THIS SEAT. 5 by the template 'for every input the law returns true; each argument reads behind the call as it read before'; 0 by the template 'total and deterministic' (their statements: YtdodipejckigoaaTotals.lean).
  GIVEN WITH THE SEED: the statements are not yours to turn. If you find one false, say at which input.
  Laid BY PROGRAM, IN A SANDBOX (cutbox-rows.mjs): the forced cells as the released guide's own fill.sh prints them over the translation b08c91aef5e713e7… (all of the seat's roots in one cut). By AI agents, Wed Nov 11 2026. No macro, syntax, notation, axiom, sorry.
-/
import Derived.Test.YtdodipejckigoaaChecked
import GoSem.Claim
import GoSem.ClaimJoined
import GoSem.ClaimMapViews
import Derived.JoinedTies
import Derived.KernelRfl
namespace Go.Proofs.Ytdodipejckigoaa
/- THE CELL 'sum', in the pinned program and in every row, IS THE sha256 OF THE DUMP (.gsa) THAT YtdodipejckigoaaProg.lean LOADS. Nothing in Lean hashes anything: it is a label: what it is worth is what the hold of that sum in a sandbox is worth. -/
noncomputable def Try.pinned : Pinned := { name := "ytdodipejckigoaa", sum := "b08c91aef5e713e779aea502415368ab562b7c07a064f49f0e23b813733eb243", checked := Try.checked }
namespace Rows
def none {H : Type} : Left H := { results := [], args := [] }

/-- 'simulcastlaw18.ModelSwaps': WHATEVER THE INPUT: true; the input reads as it did. -/
def modelSwapsSpec : ChangeSpec := { name := "modelSwaps", fn := fun _ => fun
  | [d1, d2] => { results := [.lit (.bool true)], args := [d1, d2] }
  | _ => none }
def modelSwapsRow : OpenClaim := { program := "ytdodipejckigoaa", sum := "b08c91aef5e713e779aea502415368ab562b7c07a064f49f0e23b813733eb243", func := "simulcast/simulcastlaw18.ModelSwaps", spec := "modelSwaps", unfollowed := true, recurses := true, apart := false }
def ModelSwapsSaid : Prop := modelSwapsRow.holds Try.pinned (OpenSpec.ofChange modelSwapsSpec)

/-- ITS FALSE NEIGHBOUR: 'it returns false'. Refute it at one input. -/
def modelSwapsWrong : ChangeSpec := { name := "modelSwaps", fn := fun _ => fun
  | [d1, d2] => { results := [.lit (.bool false)], args := [d1, d2] }
  | _ => none }
def ModelSwapsWrongFalsely : Prop := modelSwapsRow.holds Try.pinned (OpenSpec.ofChange modelSwapsWrong)

/-- 'simulcastlaw18.ModelOutside': WHATEVER THE INPUT: true; the input reads as it did. -/
def modelOutsideSpec : ChangeSpec := { name := "modelOutside", fn := fun _ => fun
  | [d1, d2] => { results := [.lit (.bool true)], args := [d1, d2] }
  | _ => none }
def modelOutsideRow : OpenClaim := { program := "ytdodipejckigoaa", sum := "b08c91aef5e713e779aea502415368ab562b7c07a064f49f0e23b813733eb243", func := "simulcast/simulcastlaw18.ModelOutside", spec := "modelOutside", unfollowed := true, recurses := true, apart := false }
def ModelOutsideSaid : Prop := modelOutsideRow.holds Try.pinned (OpenSpec.ofChange modelOutsideSpec)

/-- ITS FALSE NEIGHBOUR: 'it returns false'. Refute it at one input. -/
def modelOutsideWrong : ChangeSpec := { name := "modelOutside", fn := fun _ => fun
  | [d1, d2] => { results := [.lit (.bool false)], args := [d1, d2] }
  | _ => none }
def ModelOutsideWrongFalsely : Prop := modelOutsideRow.holds Try.pinned (OpenSpec.ofChange modelOutsideWrong)

/-- 'simulcastlaw18.ModelOnce': WHATEVER THE INPUT: true; the input reads as it did. -/
def modelOnceSpec : ChangeSpec := { name := "modelOnce", fn := fun _ => fun
  | [d1, d2] => { results := [.lit (.bool true)], args := [d1, d2] }
  | _ => none }
def modelOnceRow : OpenClaim := { program := "ytdodipejckigoaa", sum := "b08c91aef5e713e779aea502415368ab562b7c07a064f49f0e23b813733eb243", func := "simulcast/simulcastlaw18.ModelOnce", spec := "modelOnce", unfollowed := true, recurses := true, apart := false }
def ModelOnceSaid : Prop := modelOnceRow.holds Try.pinned (OpenSpec.ofChange modelOnceSpec)

/-- ITS FALSE NEIGHBOUR: 'it returns false'. Refute it at one input. -/
def modelOnceWrong : ChangeSpec := { name := "modelOnce", fn := fun _ => fun
  | [d1, d2] => { results := [.lit (.bool false)], args := [d1, d2] }
  | _ => none }
def ModelOnceWrongFalsely : Prop := modelOnceRow.holds Try.pinned (OpenSpec.ofChange modelOnceWrong)

/-- 'simulcastlaw18.ModelApart': WHATEVER THE INPUT: true; the input reads as it did. -/
def modelApartSpec : ChangeSpec := { name := "modelApart", fn := fun _ => fun
  | [d1, d2, d3] => { results := [.lit (.bool true)], args := [d1, d2, d3] }
  | _ => none }
def modelApartRow : OpenClaim := { program := "ytdodipejckigoaa", sum := "b08c91aef5e713e779aea502415368ab562b7c07a064f49f0e23b813733eb243", func := "simulcast/simulcastlaw18.ModelApart", spec := "modelApart", unfollowed := true, recurses := true, apart := false }
def ModelApartSaid : Prop := modelApartRow.holds Try.pinned (OpenSpec.ofChange modelApartSpec)

/-- ITS FALSE NEIGHBOUR: 'it returns false'. Refute it at one input. -/
def modelApartWrong : ChangeSpec := { name := "modelApart", fn := fun _ => fun
  | [d1, d2, d3] => { results := [.lit (.bool false)], args := [d1, d2, d3] }
  | _ => none }
def ModelApartWrongFalsely : Prop := modelApartRow.holds Try.pinned (OpenSpec.ofChange modelApartWrong)

/-- 'simulcastlaw18.ModelSplits': WHATEVER THE INPUT: true; the input reads as it did. -/
def modelSplitsSpec : ChangeSpec := { name := "modelSplits", fn := fun _ => fun
  | [d1, d2, d3] => { results := [.lit (.bool true)], args := [d1, d2, d3] }
  | _ => none }
def modelSplitsRow : OpenClaim := { program := "ytdodipejckigoaa", sum := "b08c91aef5e713e779aea502415368ab562b7c07a064f49f0e23b813733eb243", func := "simulcast/simulcastlaw18.ModelSplits", spec := "modelSplits", unfollowed := true, recurses := true, apart := false }
def ModelSplitsSaid : Prop := modelSplitsRow.holds Try.pinned (OpenSpec.ofChange modelSplitsSpec)

/-- ITS FALSE NEIGHBOUR: 'it returns false'. Refute it at one input. -/
def modelSplitsWrong : ChangeSpec := { name := "modelSplits", fn := fun _ => fun
  | [d1, d2, d3] => { results := [.lit (.bool false)], args := [d1, d2, d3] }
  | _ => none }
def ModelSplitsWrongFalsely : Prop := modelSplitsRow.holds Try.pinned (OpenSpec.ofChange modelSplitsWrong)

/- THE SECOND FORM. 'bulk': how many values and letters a reading holds, each counted each time it is reached (what is shared counts as often as it is met; a slice's spare places count too). A statement '..UptoSaid' is the law's where the arguments, and the package variables that the reading takes, are together of bulk at most 1048576: NARROWER than '..Said'. Prove '..Said' where nothing that the law and all that it calls make is longer than what came in: it says more and counts as full. Else prove '..UptoSaid'. A law counts once. -/
mutual
def uptoBulk {H : Type} : DataW H → Nat
  | .lit (.string bytes) => bytes.length + 1
  | .lit _ => 1
  | .nil => 1
  | .ptr d => uptoBulk d + 1
  | .slice elems spare => uptoBulkAll elems + uptoBulkAll spare + 1
  | .agg parts => uptoBulkAll parts + 1
  | .iface _ d => uptoBulk d + 1
  | .map entries => uptoBulkEntries entries + 1
  | .held _ => 1
def uptoBulkAll {H : Type} : List (DataW H) → Nat
  | [] => 0
  | d :: r => uptoBulk d + uptoBulkAll r
def uptoBulkEntries {H : Type} : List (Lit × DataW H) → Nat
  | [] => 0
  | x :: r => uptoBulkEntry x + uptoBulkEntries r
def uptoBulkEntry {H : Type} : Lit × DataW H → Nat
  | (.string bytes, d) => bytes.length + uptoBulk d + 1
  | (_, d) => uptoBulk d + 1
 end
def uptoSmall : (H : Type) → List (DataW H) → Bool := fun _ ds => decide (uptoBulkAll ds ≤ 1048576)
def OpenSpec.upto (s : _root_.Go.ChangeSpec) : _root_.Go.OpenSpec := { _root_.Go.OpenSpec.ofChange s with cond := some uptoSmall }

/-- 'simulcastlaw18.ModelSwaps', WHERE WHAT IT READS IS OF BULK AT MOST 1048576: true; the input reads as it did. -/
def modelSwapsUptoRow : OpenClaim := { program := "ytdodipejckigoaa", sum := "b08c91aef5e713e779aea502415368ab562b7c07a064f49f0e23b813733eb243", func := "simulcast/simulcastlaw18.ModelSwaps", spec := "modelSwaps", unfollowed := true, recurses := true, apart := false, narrowed := true }
def ModelSwapsUptoSaid : Prop := modelSwapsUptoRow.holds Try.pinned (OpenSpec.upto modelSwapsSpec)

/-- 'simulcastlaw18.ModelOutside', WHERE WHAT IT READS IS OF BULK AT MOST 1048576: true; the input reads as it did. -/
def modelOutsideUptoRow : OpenClaim := { program := "ytdodipejckigoaa", sum := "b08c91aef5e713e779aea502415368ab562b7c07a064f49f0e23b813733eb243", func := "simulcast/simulcastlaw18.ModelOutside", spec := "modelOutside", unfollowed := true, recurses := true, apart := false, narrowed := true }
def ModelOutsideUptoSaid : Prop := modelOutsideUptoRow.holds Try.pinned (OpenSpec.upto modelOutsideSpec)

/-- 'simulcastlaw18.ModelOnce', WHERE WHAT IT READS IS OF BULK AT MOST 1048576: true; the input reads as it did. -/
def modelOnceUptoRow : OpenClaim := { program := "ytdodipejckigoaa", sum := "b08c91aef5e713e779aea502415368ab562b7c07a064f49f0e23b813733eb243", func := "simulcast/simulcastlaw18.ModelOnce", spec := "modelOnce", unfollowed := true, recurses := true, apart := false, narrowed := true }
def ModelOnceUptoSaid : Prop := modelOnceUptoRow.holds Try.pinned (OpenSpec.upto modelOnceSpec)

/-- 'simulcastlaw18.ModelApart', WHERE WHAT IT READS IS OF BULK AT MOST 1048576: true; the input reads as it did. -/
def modelApartUptoRow : OpenClaim := { program := "ytdodipejckigoaa", sum := "b08c91aef5e713e779aea502415368ab562b7c07a064f49f0e23b813733eb243", func := "simulcast/simulcastlaw18.ModelApart", spec := "modelApart", unfollowed := true, recurses := true, apart := false, narrowed := true }
def ModelApartUptoSaid : Prop := modelApartUptoRow.holds Try.pinned (OpenSpec.upto modelApartSpec)

/-- 'simulcastlaw18.ModelSplits', WHERE WHAT IT READS IS OF BULK AT MOST 1048576: true; the input reads as it did. -/
def modelSplitsUptoRow : OpenClaim := { program := "ytdodipejckigoaa", sum := "b08c91aef5e713e779aea502415368ab562b7c07a064f49f0e23b813733eb243", func := "simulcast/simulcastlaw18.ModelSplits", spec := "modelSplits", unfollowed := true, recurses := true, apart := false, narrowed := true }
def ModelSplitsUptoSaid : Prop := modelSplitsUptoRow.holds Try.pinned (OpenSpec.upto modelSplitsSpec)

end Rows
end Go.Proofs.Ytdodipejckigoaa
