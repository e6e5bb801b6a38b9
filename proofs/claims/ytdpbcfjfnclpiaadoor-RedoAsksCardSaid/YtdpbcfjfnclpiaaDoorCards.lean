/-
  DERIVED. GIVEN WITH THE SEED: THE CARDS: each row of YtdpbcfjfnclpiaaDoorRows.lean that lists a variable, with what it lists TIED to the program's text (the seventh form; the later family's looks); each row that meets fmt, with fmt's text TOLD by the authors' own Lean function (tested against real Go, not proved from fmt's source: count such statements apart). THE CARD IS WHAT COUNTS. Prove the row's statement (the work); the ties are given (YtdpbcfjfnclpiaaDoorTie.lean); close each card by the builder's one call (the guide's Derived/Test/ToyasCard.lean, 'card_holds'). Laid BY PROGRAM, IN A SANDBOX (cutbox-door.mjs). By AI agents, Wed Nov 11 2026. No macro, syntax, notation, axiom, sorry.
-/
import Derived.Test.YtdpbcfjfnclpiaaDoorRows
import GoSem.ClaimSeven
namespace Go.Proofs.YtdpbcfjfnclpiaaDoor
namespace Rows

/-- THE TIED CARD OF 'simulcastlaw25.RedoAsks'. -/
def redoAsksCard : Claim7 := { stood := { row := redoAsksRow, standIns := [], harness := (true, "30630603c350293554706ee60e2cfc0db3d6676ca5dd9e8bc2ed74c4f25abe52"), looks := true }, kinds := [], alts := [], laidByText := true, laidKinds := [.data], laidTests := true, laidLooks := .later }
def RedoAsksCardSaid : Prop := Claim7.holds Tryd.pinned (.plain (OpenSpec.ofChange redoAsksSpec)) redoAsksCard

/-- THE SECOND FORM's CARD OF 'simulcastlaw25.RedoAsks'. -/
def redoAsksUptoCard : Claim7 := { stood := { row := redoAsksUptoRow, standIns := [], harness := (true, "30630603c350293554706ee60e2cfc0db3d6676ca5dd9e8bc2ed74c4f25abe52"), looks := true }, kinds := [], alts := [], laidByText := true, laidKinds := [.data], laidTests := true, laidLooks := .later }
def RedoAsksUptoCardSaid : Prop := Claim7.holds Tryd.pinned (.plain (OpenSpec.upto redoAsksSpec)) redoAsksUptoCard
end Rows
end Go.Proofs.YtdpbcfjfnclpiaaDoor
