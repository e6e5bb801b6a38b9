/-
  DERIVED. GIVEN WITH THE SEED: THE CARDS: each row of YtadilekaombofaaDoorRows.lean that lists a variable, with what it lists TIED to the program's text (the seventh form; the later family's looks); each row that meets fmt, with fmt's text TOLD by the authors' own Lean function (tested against real Go, not proved from fmt's source: count such statements apart). THE CARD IS WHAT COUNTS. Prove the row's statement (the work); the ties are given (YtadilekaombofaaDoorTie.lean); close each card by the builder's one call (the guide's Derived/Test/ToyasCard.lean, 'card_holds'). Laid BY PROGRAM, IN A SANDBOX (cutbox-door.mjs). By AI agents, Wed Nov 11 2026. No macro, syntax, notation, axiom, sorry.
-/
import Derived.Test.YtadilekaombofaaDoorRows
import GoSem.ClaimSeven
namespace Go.Proofs.YtadilekaombofaaDoor
namespace Rows

/-- THE TIED CARD OF 'simulcastlaw26.ClockTicks'. -/
def clockTicksCard : Claim7 := { stood := { row := clockTicksRow, standIns := [], harness := (true, "c2f2af1b73960baeb053243acb977f0a421925e4bf9c16b08c8df7fca3792e7d"), looks := true }, kinds := [], alts := [], laidByText := true, laidKinds := [.data], laidTests := true, laidLooks := .later }
def ClockTicksCardSaid : Prop := Claim7.holds Tryd.pinned (.plain (OpenSpec.ofChange clockTicksSpec)) clockTicksCard

/-- THE SECOND FORM's CARD OF 'simulcastlaw26.ClockTicks'. -/
def clockTicksUptoCard : Claim7 := { stood := { row := clockTicksUptoRow, standIns := [], harness := (true, "c2f2af1b73960baeb053243acb977f0a421925e4bf9c16b08c8df7fca3792e7d"), looks := true }, kinds := [], alts := [], laidByText := true, laidKinds := [.data], laidTests := true, laidLooks := .later }
def ClockTicksUptoCardSaid : Prop := Claim7.holds Tryd.pinned (.plain (OpenSpec.upto clockTicksSpec)) clockTicksUptoCard
end Rows
end Go.Proofs.YtadilekaombofaaDoor
