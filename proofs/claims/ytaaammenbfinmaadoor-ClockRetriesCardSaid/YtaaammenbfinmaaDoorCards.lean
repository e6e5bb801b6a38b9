/-
  DERIVED. GIVEN WITH THE SEED: THE CARDS: each row of YtaaammenbfinmaaDoorRows.lean that lists a variable, with what it lists TIED to the program's text (the seventh form; the later family's looks); each row that meets fmt, with fmt's text TOLD by the authors' own Lean function (tested against real Go, not proved from fmt's source: count such statements apart). THE CARD IS WHAT COUNTS. Prove the row's statement (the work); the ties are given (YtaaammenbfinmaaDoorTie.lean); close each card by the builder's one call (the guide's Derived/Test/ToyasCard.lean, 'card_holds'). Laid BY PROGRAM, IN A SANDBOX (cutbox-door.mjs). By AI agents, Wed Nov 11 2026. No macro, syntax, notation, axiom, sorry.
-/
import Derived.Test.YtaaammenbfinmaaDoorRows
import GoSem.ClaimSeven
namespace Go.Proofs.YtaaammenbfinmaaDoor
namespace Rows

/-- THE TIED CARD OF 'simulcastlaw26.ClockTicks'. -/
def clockTicksCard : Claim7 := { stood := { row := clockTicksRow, standIns := [], harness := (true, "68361d8b20088681823cfcc329c1d246e0847e7c818f8680f9e66c37d6d93747"), looks := true }, kinds := [], alts := [], laidByText := true, laidKinds := [.data], laidTests := true, laidLooks := .later }
def ClockTicksCardSaid : Prop := Claim7.holds Tryd.pinned (.plain (OpenSpec.ofChange clockTicksSpec)) clockTicksCard

/-- THE TIED CARD OF 'simulcastlaw26.ClockLater'. -/
def clockLaterCard : Claim7 := { stood := { row := clockLaterRow, standIns := [], harness := (true, "68361d8b20088681823cfcc329c1d246e0847e7c818f8680f9e66c37d6d93747"), looks := true }, kinds := [], alts := [], laidByText := true, laidKinds := [.data], laidTests := true, laidLooks := .later }
def ClockLaterCardSaid : Prop := Claim7.holds Tryd.pinned (.plain (OpenSpec.ofChange clockLaterSpec)) clockLaterCard

/-- THE TIED CARD OF 'simulcastlaw26.ClockNone'. -/
def clockNoneCard : Claim7 := { stood := { row := clockNoneRow, standIns := [], harness := (true, "68361d8b20088681823cfcc329c1d246e0847e7c818f8680f9e66c37d6d93747"), looks := true }, kinds := [], alts := [], laidByText := true, laidKinds := [.data], laidTests := true, laidLooks := .later }
def ClockNoneCardSaid : Prop := Claim7.holds Tryd.pinned (.plain (OpenSpec.ofChange clockNoneSpec)) clockNoneCard

/-- THE TIED CARD OF 'simulcastlaw26.ClockRetries'. -/
def clockRetriesCard : Claim7 := { stood := { row := clockRetriesRow, standIns := [], harness := (true, "68361d8b20088681823cfcc329c1d246e0847e7c818f8680f9e66c37d6d93747"), looks := true }, kinds := [], alts := [], laidByText := true, laidKinds := [.data], laidTests := true, laidLooks := .later }
def ClockRetriesCardSaid : Prop := Claim7.holds Tryd.pinned (.plain (OpenSpec.ofChange clockRetriesSpec)) clockRetriesCard

/-- THE SECOND FORM's CARD OF 'simulcastlaw26.ClockTicks'. -/
def clockTicksUptoCard : Claim7 := { stood := { row := clockTicksUptoRow, standIns := [], harness := (true, "68361d8b20088681823cfcc329c1d246e0847e7c818f8680f9e66c37d6d93747"), looks := true }, kinds := [], alts := [], laidByText := true, laidKinds := [.data], laidTests := true, laidLooks := .later }
def ClockTicksUptoCardSaid : Prop := Claim7.holds Tryd.pinned (.plain (OpenSpec.upto clockTicksSpec)) clockTicksUptoCard

/-- THE SECOND FORM's CARD OF 'simulcastlaw26.ClockLater'. -/
def clockLaterUptoCard : Claim7 := { stood := { row := clockLaterUptoRow, standIns := [], harness := (true, "68361d8b20088681823cfcc329c1d246e0847e7c818f8680f9e66c37d6d93747"), looks := true }, kinds := [], alts := [], laidByText := true, laidKinds := [.data], laidTests := true, laidLooks := .later }
def ClockLaterUptoCardSaid : Prop := Claim7.holds Tryd.pinned (.plain (OpenSpec.upto clockLaterSpec)) clockLaterUptoCard

/-- THE SECOND FORM's CARD OF 'simulcastlaw26.ClockNone'. -/
def clockNoneUptoCard : Claim7 := { stood := { row := clockNoneUptoRow, standIns := [], harness := (true, "68361d8b20088681823cfcc329c1d246e0847e7c818f8680f9e66c37d6d93747"), looks := true }, kinds := [], alts := [], laidByText := true, laidKinds := [.data], laidTests := true, laidLooks := .later }
def ClockNoneUptoCardSaid : Prop := Claim7.holds Tryd.pinned (.plain (OpenSpec.upto clockNoneSpec)) clockNoneUptoCard

/-- THE SECOND FORM's CARD OF 'simulcastlaw26.ClockRetries'. -/
def clockRetriesUptoCard : Claim7 := { stood := { row := clockRetriesUptoRow, standIns := [], harness := (true, "68361d8b20088681823cfcc329c1d246e0847e7c818f8680f9e66c37d6d93747"), looks := true }, kinds := [], alts := [], laidByText := true, laidKinds := [.data], laidTests := true, laidLooks := .later }
def ClockRetriesUptoCardSaid : Prop := Claim7.holds Tryd.pinned (.plain (OpenSpec.upto clockRetriesSpec)) clockRetriesUptoCard
end Rows
end Go.Proofs.YtaaammenbfinmaaDoor
