/-
  DERIVED. GIVEN WITH THE SEED: THE CARDS: each row of YtiacdohaiidehaaGreatDoorRows.lean that lists a variable, with what it lists TIED to the program's text (the seventh form; the later family's looks); each row that meets fmt, with fmt's text TOLD by the authors' own Lean function (tested against real Go, not proved from fmt's source: count such statements apart). THE CARD IS WHAT COUNTS. Prove the row's statement (the work); the ties are given (YtiacdohaiidehaaGreatDoorTie.lean); close each card by the builder's one call (the guide's Derived/Test/ToyasCard.lean, 'card_holds'). Laid BY PROGRAM, IN A SANDBOX (cutbox-door.mjs). By AI agents, Wed Nov 11 2026. No macro, syntax, notation, axiom, sorry.
-/
import Derived.Test.YtiacdohaiidehaaGreatDoorRows
import GoSem.ClaimSeven
namespace Go.Proofs.YtiacdohaiidehaaGreatDoor
namespace Rows

/-- THE TIED CARD OF 'simulcastlaw20.HelpAsks'. -/
def helpAsksCard : Claim7 := { stood := { row := helpAsksRow, standIns := [], harness := (true, "6d6e155eae536686fe43bd6d2fb39f4f7760eed7aa14b66d4ed28b0f7ecbb583"), looks := true }, kinds := [], alts := [], laidByText := true, laidKinds := [.data], laidTests := true, laidLooks := .later }
def HelpAsksCardSaid : Prop := Claim7.holds Tryz.pinned (.plain (OpenSpec.ofChange helpAsksSpec)) helpAsksCard

/-- THE TIED CARD OF 'simulcastlaw20.HelpRefuses'. -/
def helpRefusesCard : Claim7 := { stood := { row := helpRefusesRow, standIns := [], harness := (true, "6d6e155eae536686fe43bd6d2fb39f4f7760eed7aa14b66d4ed28b0f7ecbb583"), looks := true }, kinds := [], alts := [], laidByText := true, laidKinds := [.data], laidTests := true, laidLooks := .later }
def HelpRefusesCardSaid : Prop := Claim7.holds Tryz.pinned (.plain (OpenSpec.ofChange helpRefusesSpec)) helpRefusesCard

/-- THE SECOND FORM's CARD OF 'simulcastlaw20.HelpAsks'. -/
def helpAsksUptoCard : Claim7 := { stood := { row := helpAsksUptoRow, standIns := [], harness := (true, "6d6e155eae536686fe43bd6d2fb39f4f7760eed7aa14b66d4ed28b0f7ecbb583"), looks := true }, kinds := [], alts := [], laidByText := true, laidKinds := [.data], laidTests := true, laidLooks := .later }
def HelpAsksUptoCardSaid : Prop := Claim7.holds Tryz.pinned (.plain (OpenSpec.upto helpAsksSpec)) helpAsksUptoCard

/-- THE SECOND FORM's CARD OF 'simulcastlaw20.HelpRefuses'. -/
def helpRefusesUptoCard : Claim7 := { stood := { row := helpRefusesUptoRow, standIns := [], harness := (true, "6d6e155eae536686fe43bd6d2fb39f4f7760eed7aa14b66d4ed28b0f7ecbb583"), looks := true }, kinds := [], alts := [], laidByText := true, laidKinds := [.data], laidTests := true, laidLooks := .later }
def HelpRefusesUptoCardSaid : Prop := Claim7.holds Tryz.pinned (.plain (OpenSpec.upto helpRefusesSpec)) helpRefusesUptoCard
end Rows
end Go.Proofs.YtiacdohaiidehaaGreatDoor
