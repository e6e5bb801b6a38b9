/-
  DERIVED. GIVEN WITH THE SEED: THE CARDS: each row of YtfijnpfhffhffaaDoorRows.lean that lists a variable, with what it lists TIED to the program's text (the seventh form; the later family's looks); each row that meets fmt, with fmt's text TOLD by the authors' own Lean function (tested against real Go, not proved from fmt's source: count such statements apart). THE CARD IS WHAT COUNTS. Prove the row's statement (the work); the ties are given (YtfijnpfhffhffaaDoorTie.lean); close each card by the builder's one call (the guide's Derived/Test/ToyasCard.lean, 'card_holds'). Laid BY PROGRAM, IN A SANDBOX (cutbox-door.mjs). By AI agents, Wed Nov 11 2026. No macro, syntax, notation, axiom, sorry.
-/
import Derived.Test.YtfijnpfhffhffaaDoorRows
import GoSem.ClaimSeven
namespace Go.Proofs.YtfijnpfhffhffaaDoor
namespace Rows

/-- THE TIED CARD OF 'simulcastlaw25.RedoWords'. -/
def redoWordsCard : Claim7 := { stood := { row := redoWordsRow, standIns := [], harness := (true, "ffc59ff6f3f970fa6e21ada86330608e6aa58b21134f5a7c56b0eefd3c1ad615"), looks := true }, kinds := [], alts := [], laidByText := true, laidKinds := [.data], laidTests := true, laidLooks := .later }
def RedoWordsCardSaid : Prop := Claim7.holds Tryd.pinned (.plain (OpenSpec.ofChange redoWordsSpec)) redoWordsCard

/-- THE TIED CARD OF 'simulcastlaw25.RedoStays'. -/
def redoStaysCard : Claim7 := { stood := { row := redoStaysRow, standIns := [], harness := (true, "ffc59ff6f3f970fa6e21ada86330608e6aa58b21134f5a7c56b0eefd3c1ad615"), looks := true }, kinds := [], alts := [], laidByText := true, laidKinds := [.data], laidTests := true, laidLooks := .later }
def RedoStaysCardSaid : Prop := Claim7.holds Tryd.pinned (.plain (OpenSpec.ofChange redoStaysSpec)) redoStaysCard

/-- THE TIED CARD OF 'simulcastlaw25.RedoRefuses'. -/
def redoRefusesCard : Claim7 := { stood := { row := redoRefusesRow, standIns := [], harness := (true, "ffc59ff6f3f970fa6e21ada86330608e6aa58b21134f5a7c56b0eefd3c1ad615"), looks := true }, kinds := [], alts := [], laidByText := true, laidKinds := [.data], laidTests := true, laidLooks := .later }
def RedoRefusesCardSaid : Prop := Claim7.holds Tryd.pinned (.plain (OpenSpec.ofChange redoRefusesSpec)) redoRefusesCard

/-- THE SECOND FORM's CARD OF 'simulcastlaw25.RedoWords'. -/
def redoWordsUptoCard : Claim7 := { stood := { row := redoWordsUptoRow, standIns := [], harness := (true, "ffc59ff6f3f970fa6e21ada86330608e6aa58b21134f5a7c56b0eefd3c1ad615"), looks := true }, kinds := [], alts := [], laidByText := true, laidKinds := [.data], laidTests := true, laidLooks := .later }
def RedoWordsUptoCardSaid : Prop := Claim7.holds Tryd.pinned (.plain (OpenSpec.upto redoWordsSpec)) redoWordsUptoCard

/-- THE SECOND FORM's CARD OF 'simulcastlaw25.RedoStays'. -/
def redoStaysUptoCard : Claim7 := { stood := { row := redoStaysUptoRow, standIns := [], harness := (true, "ffc59ff6f3f970fa6e21ada86330608e6aa58b21134f5a7c56b0eefd3c1ad615"), looks := true }, kinds := [], alts := [], laidByText := true, laidKinds := [.data], laidTests := true, laidLooks := .later }
def RedoStaysUptoCardSaid : Prop := Claim7.holds Tryd.pinned (.plain (OpenSpec.upto redoStaysSpec)) redoStaysUptoCard

/-- THE SECOND FORM's CARD OF 'simulcastlaw25.RedoRefuses'. -/
def redoRefusesUptoCard : Claim7 := { stood := { row := redoRefusesUptoRow, standIns := [], harness := (true, "ffc59ff6f3f970fa6e21ada86330608e6aa58b21134f5a7c56b0eefd3c1ad615"), looks := true }, kinds := [], alts := [], laidByText := true, laidKinds := [.data], laidTests := true, laidLooks := .later }
def RedoRefusesUptoCardSaid : Prop := Claim7.holds Tryd.pinned (.plain (OpenSpec.upto redoRefusesSpec)) redoRefusesUptoCard
end Rows
end Go.Proofs.YtfijnpfhffhffaaDoor
