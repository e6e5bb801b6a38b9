/-
  DERIVED. GIVEN WITH THE SEED: THE CARDS: each row of YtlijgheghodfeaaDoorRows.lean that lists a variable, with what it lists TIED to the program's text (the seventh form; the later family's looks); each row that meets fmt, with fmt's text TOLD by the authors' own Lean function (tested against real Go, not proved from fmt's source: count such statements apart). THE CARD IS WHAT COUNTS. Prove the row's statement (the work); the ties are given (YtlijgheghodfeaaDoorTie.lean); close each card by the builder's one call (the guide's Derived/Test/ToyasCard.lean, 'card_holds'). Laid BY PROGRAM, IN A SANDBOX (cutbox-door.mjs). By AI agents, Wed Nov 11 2026. No macro, syntax, notation, axiom, sorry.
-/
import Derived.Test.YtlijgheghodfeaaDoorRows
import GoSem.ClaimSeven
namespace Go.Proofs.YtlijgheghodfeaaDoor
namespace Rows

/-- THE TIED CARD OF 'simulcastlaw24.DetectEntries'. -/
def detectEntriesCard : Claim7 := { stood := { row := detectEntriesRow, standIns := [], harness := (true, "b9d00a054fbe05aefd984df035ac07d83afde4231cb1a12975d7e9eeaf452a30"), looks := false }, kinds := [], alts := [], laidByText := true, laidKinds := [.data], laidTests := true, laidLooks := .later }
def DetectEntriesCardSaid : Prop := Claim7.holds Tryd.pinned (.plain (OpenSpec.ofChange detectEntriesSpec)) detectEntriesCard

/-- THE TIED CARD OF 'simulcastlaw24.DetectAsks'. -/
def detectAsksCard : Claim7 := { stood := { row := detectAsksRow, standIns := [], harness := (true, "b9d00a054fbe05aefd984df035ac07d83afde4231cb1a12975d7e9eeaf452a30"), looks := false }, kinds := [], alts := [], laidByText := true, laidKinds := [.data], laidTests := true, laidLooks := .later }
def DetectAsksCardSaid : Prop := Claim7.holds Tryd.pinned (.plain (OpenSpec.ofChange detectAsksSpec)) detectAsksCard

/-- THE TIED CARD OF 'simulcastlaw24.DetectTells'. -/
def detectTellsCard : Claim7 := { stood := { row := detectTellsRow, standIns := [], harness := (true, "b9d00a054fbe05aefd984df035ac07d83afde4231cb1a12975d7e9eeaf452a30"), looks := false }, kinds := [], alts := [], laidByText := true, laidKinds := [.data], laidTests := true, laidLooks := .later }
def DetectTellsCardSaid : Prop := Claim7.holds Tryd.pinned (.plain (OpenSpec.ofChange detectTellsSpec)) detectTellsCard

/-- THE TIED CARD OF 'simulcastlaw24.DetectRefuses'. -/
def detectRefusesCard : Claim7 := { stood := { row := detectRefusesRow, standIns := [], harness := (true, "b9d00a054fbe05aefd984df035ac07d83afde4231cb1a12975d7e9eeaf452a30"), looks := false }, kinds := [], alts := [], laidByText := true, laidKinds := [.data], laidTests := true, laidLooks := .later }
def DetectRefusesCardSaid : Prop := Claim7.holds Tryd.pinned (.plain (OpenSpec.ofChange detectRefusesSpec)) detectRefusesCard

/-- THE TIED CARD OF 'simulcastlaw24.DetectOnce'. -/
def detectOnceCard : Claim7 := { stood := { row := detectOnceRow, standIns := [], harness := (true, "b9d00a054fbe05aefd984df035ac07d83afde4231cb1a12975d7e9eeaf452a30"), looks := false }, kinds := [], alts := [], laidByText := true, laidKinds := [.data], laidTests := true, laidLooks := .later }
def DetectOnceCardSaid : Prop := Claim7.holds Tryd.pinned (.plain (OpenSpec.ofChange detectOnceSpec)) detectOnceCard

/-- THE TIED CARD OF 'simulcastlaw24.DetectHeld'. -/
def detectHeldCard : Claim7 := { stood := { row := detectHeldRow, standIns := [], harness := (true, "b9d00a054fbe05aefd984df035ac07d83afde4231cb1a12975d7e9eeaf452a30"), looks := false }, kinds := [], alts := [], laidByText := true, laidKinds := [.data], laidTests := true, laidLooks := .later }
def DetectHeldCardSaid : Prop := Claim7.holds Tryd.pinned (.plain (OpenSpec.ofChange detectHeldSpec)) detectHeldCard

/-- THE SECOND FORM's CARD OF 'simulcastlaw24.DetectEntries'. -/
def detectEntriesUptoCard : Claim7 := { stood := { row := detectEntriesUptoRow, standIns := [], harness := (true, "b9d00a054fbe05aefd984df035ac07d83afde4231cb1a12975d7e9eeaf452a30"), looks := false }, kinds := [], alts := [], laidByText := true, laidKinds := [.data], laidTests := true, laidLooks := .later }
def DetectEntriesUptoCardSaid : Prop := Claim7.holds Tryd.pinned (.plain (OpenSpec.upto detectEntriesSpec)) detectEntriesUptoCard

/-- THE SECOND FORM's CARD OF 'simulcastlaw24.DetectAsks'. -/
def detectAsksUptoCard : Claim7 := { stood := { row := detectAsksUptoRow, standIns := [], harness := (true, "b9d00a054fbe05aefd984df035ac07d83afde4231cb1a12975d7e9eeaf452a30"), looks := false }, kinds := [], alts := [], laidByText := true, laidKinds := [.data], laidTests := true, laidLooks := .later }
def DetectAsksUptoCardSaid : Prop := Claim7.holds Tryd.pinned (.plain (OpenSpec.upto detectAsksSpec)) detectAsksUptoCard

/-- THE SECOND FORM's CARD OF 'simulcastlaw24.DetectTells'. -/
def detectTellsUptoCard : Claim7 := { stood := { row := detectTellsUptoRow, standIns := [], harness := (true, "b9d00a054fbe05aefd984df035ac07d83afde4231cb1a12975d7e9eeaf452a30"), looks := false }, kinds := [], alts := [], laidByText := true, laidKinds := [.data], laidTests := true, laidLooks := .later }
def DetectTellsUptoCardSaid : Prop := Claim7.holds Tryd.pinned (.plain (OpenSpec.upto detectTellsSpec)) detectTellsUptoCard

/-- THE SECOND FORM's CARD OF 'simulcastlaw24.DetectRefuses'. -/
def detectRefusesUptoCard : Claim7 := { stood := { row := detectRefusesUptoRow, standIns := [], harness := (true, "b9d00a054fbe05aefd984df035ac07d83afde4231cb1a12975d7e9eeaf452a30"), looks := false }, kinds := [], alts := [], laidByText := true, laidKinds := [.data], laidTests := true, laidLooks := .later }
def DetectRefusesUptoCardSaid : Prop := Claim7.holds Tryd.pinned (.plain (OpenSpec.upto detectRefusesSpec)) detectRefusesUptoCard

/-- THE SECOND FORM's CARD OF 'simulcastlaw24.DetectOnce'. -/
def detectOnceUptoCard : Claim7 := { stood := { row := detectOnceUptoRow, standIns := [], harness := (true, "b9d00a054fbe05aefd984df035ac07d83afde4231cb1a12975d7e9eeaf452a30"), looks := false }, kinds := [], alts := [], laidByText := true, laidKinds := [.data], laidTests := true, laidLooks := .later }
def DetectOnceUptoCardSaid : Prop := Claim7.holds Tryd.pinned (.plain (OpenSpec.upto detectOnceSpec)) detectOnceUptoCard

/-- THE SECOND FORM's CARD OF 'simulcastlaw24.DetectHeld'. -/
def detectHeldUptoCard : Claim7 := { stood := { row := detectHeldUptoRow, standIns := [], harness := (true, "b9d00a054fbe05aefd984df035ac07d83afde4231cb1a12975d7e9eeaf452a30"), looks := false }, kinds := [], alts := [], laidByText := true, laidKinds := [.data], laidTests := true, laidLooks := .later }
def DetectHeldUptoCardSaid : Prop := Claim7.holds Tryd.pinned (.plain (OpenSpec.upto detectHeldSpec)) detectHeldUptoCard
end Rows
end Go.Proofs.YtlijgheghodfeaaDoor
