/-
  DERIVED. GIVEN WITH THE SEED: THE CARDS: each row of YtoaghifcgjpijaaDoorRows.lean that lists a variable, with what it lists TIED to the program's text (the seventh form; the later family's looks); each row that meets fmt, with fmt's text TOLD by the authors' own Lean function (tested against real Go, not proved from fmt's source: count such statements apart). THE CARD IS WHAT COUNTS. Prove the row's statement (the work); the ties are given (YtoaghifcgjpijaaDoorTie.lean); close each card by the builder's one call (the guide's Derived/Test/ToyasCard.lean, 'card_holds'). Laid BY PROGRAM, IN A SANDBOX (cutbox-door.mjs). By AI agents, Wed Nov 11 2026. No macro, syntax, notation, axiom, sorry.
-/
import Derived.Test.YtoaghifcgjpijaaDoorRows
import GoSem.ClaimSeven
namespace Go.Proofs.YtoaghifcgjpijaaDoor
namespace Rows

/-- THE TIED CARD OF 'simulcastlaw11.LayoutChecks'. -/
def layoutChecksCard : Claim7 := { stood := { row := layoutChecksRow, standIns := [], harness := (true, "28038e7a29d905bc998e571813592f301f0023b68131536f4bd29dec7cc1e853"), looks := false }, kinds := [], alts := [], laidByText := true, laidKinds := [.data], laidTests := true, laidLooks := .later }
def LayoutChecksCardSaid : Prop := Claim7.holds Tryd.pinned (.plain (OpenSpec.ofChange layoutChecksSpec)) layoutChecksCard

/-- THE TIED CARD OF 'simulcastlaw11.LayoutPlaces'. -/
def layoutPlacesCard : Claim7 := { stood := { row := layoutPlacesRow, standIns := [], harness := (true, "28038e7a29d905bc998e571813592f301f0023b68131536f4bd29dec7cc1e853"), looks := false }, kinds := [], alts := [], laidByText := true, laidKinds := [.data], laidTests := true, laidLooks := .later }
def LayoutPlacesCardSaid : Prop := Claim7.holds Tryd.pinned (.plain (OpenSpec.ofChange layoutPlacesSpec)) layoutPlacesCard

/-- THE TIED CARD OF 'simulcastlaw11.LayoutApart'. -/
def layoutApartCard : Claim7 := { stood := { row := layoutApartRow, standIns := [], harness := (true, "28038e7a29d905bc998e571813592f301f0023b68131536f4bd29dec7cc1e853"), looks := false }, kinds := [], alts := [], laidByText := true, laidKinds := [.data], laidTests := true, laidLooks := .later }
def LayoutApartCardSaid : Prop := Claim7.holds Tryd.pinned (.plain (OpenSpec.ofChange layoutApartSpec)) layoutApartCard

/-- THE TIED CARD OF 'simulcastlaw11.LayoutBits'. -/
def layoutBitsCard : Claim7 := { stood := { row := layoutBitsRow, standIns := [], harness := (true, "28038e7a29d905bc998e571813592f301f0023b68131536f4bd29dec7cc1e853"), looks := false }, kinds := [], alts := [], laidByText := true, laidKinds := [.data], laidTests := true, laidLooks := .later }
def LayoutBitsCardSaid : Prop := Claim7.holds Tryd.pinned (.plain (OpenSpec.ofChange layoutBitsSpec)) layoutBitsCard

/-- THE TIED CARD OF 'simulcastlaw11.LayoutFirst'. -/
def layoutFirstCard : Claim7 := { stood := { row := layoutFirstRow, standIns := [], harness := (true, "28038e7a29d905bc998e571813592f301f0023b68131536f4bd29dec7cc1e853"), looks := false }, kinds := [], alts := [], laidByText := true, laidKinds := [.data], laidTests := true, laidLooks := .later }
def LayoutFirstCardSaid : Prop := Claim7.holds Tryd.pinned (.plain (OpenSpec.ofChange layoutFirstSpec)) layoutFirstCard

/-- THE TIED CARD OF 'simulcastlaw11.LayoutMay'. -/
def layoutMayCard : Claim7 := { stood := { row := layoutMayRow, standIns := [], harness := (true, "28038e7a29d905bc998e571813592f301f0023b68131536f4bd29dec7cc1e853"), looks := false }, kinds := [], alts := [], laidByText := true, laidKinds := [.data], laidTests := true, laidLooks := .later }
def LayoutMayCardSaid : Prop := Claim7.holds Tryd.pinned (.plain (OpenSpec.ofChange layoutMaySpec)) layoutMayCard

/-- THE SECOND FORM's CARD OF 'simulcastlaw11.LayoutChecks'. -/
def layoutChecksUptoCard : Claim7 := { stood := { row := layoutChecksUptoRow, standIns := [], harness := (true, "28038e7a29d905bc998e571813592f301f0023b68131536f4bd29dec7cc1e853"), looks := false }, kinds := [], alts := [], laidByText := true, laidKinds := [.data], laidTests := true, laidLooks := .later }
def LayoutChecksUptoCardSaid : Prop := Claim7.holds Tryd.pinned (.plain (OpenSpec.upto layoutChecksSpec)) layoutChecksUptoCard

/-- THE SECOND FORM's CARD OF 'simulcastlaw11.LayoutPlaces'. -/
def layoutPlacesUptoCard : Claim7 := { stood := { row := layoutPlacesUptoRow, standIns := [], harness := (true, "28038e7a29d905bc998e571813592f301f0023b68131536f4bd29dec7cc1e853"), looks := false }, kinds := [], alts := [], laidByText := true, laidKinds := [.data], laidTests := true, laidLooks := .later }
def LayoutPlacesUptoCardSaid : Prop := Claim7.holds Tryd.pinned (.plain (OpenSpec.upto layoutPlacesSpec)) layoutPlacesUptoCard

/-- THE SECOND FORM's CARD OF 'simulcastlaw11.LayoutApart'. -/
def layoutApartUptoCard : Claim7 := { stood := { row := layoutApartUptoRow, standIns := [], harness := (true, "28038e7a29d905bc998e571813592f301f0023b68131536f4bd29dec7cc1e853"), looks := false }, kinds := [], alts := [], laidByText := true, laidKinds := [.data], laidTests := true, laidLooks := .later }
def LayoutApartUptoCardSaid : Prop := Claim7.holds Tryd.pinned (.plain (OpenSpec.upto layoutApartSpec)) layoutApartUptoCard

/-- THE SECOND FORM's CARD OF 'simulcastlaw11.LayoutBits'. -/
def layoutBitsUptoCard : Claim7 := { stood := { row := layoutBitsUptoRow, standIns := [], harness := (true, "28038e7a29d905bc998e571813592f301f0023b68131536f4bd29dec7cc1e853"), looks := false }, kinds := [], alts := [], laidByText := true, laidKinds := [.data], laidTests := true, laidLooks := .later }
def LayoutBitsUptoCardSaid : Prop := Claim7.holds Tryd.pinned (.plain (OpenSpec.upto layoutBitsSpec)) layoutBitsUptoCard

/-- THE SECOND FORM's CARD OF 'simulcastlaw11.LayoutFirst'. -/
def layoutFirstUptoCard : Claim7 := { stood := { row := layoutFirstUptoRow, standIns := [], harness := (true, "28038e7a29d905bc998e571813592f301f0023b68131536f4bd29dec7cc1e853"), looks := false }, kinds := [], alts := [], laidByText := true, laidKinds := [.data], laidTests := true, laidLooks := .later }
def LayoutFirstUptoCardSaid : Prop := Claim7.holds Tryd.pinned (.plain (OpenSpec.upto layoutFirstSpec)) layoutFirstUptoCard

/-- THE SECOND FORM's CARD OF 'simulcastlaw11.LayoutMay'. -/
def layoutMayUptoCard : Claim7 := { stood := { row := layoutMayUptoRow, standIns := [], harness := (true, "28038e7a29d905bc998e571813592f301f0023b68131536f4bd29dec7cc1e853"), looks := false }, kinds := [], alts := [], laidByText := true, laidKinds := [.data], laidTests := true, laidLooks := .later }
def LayoutMayUptoCardSaid : Prop := Claim7.holds Tryd.pinned (.plain (OpenSpec.upto layoutMaySpec)) layoutMayUptoCard
end Rows
end Go.Proofs.YtoaghifcgjpijaaDoor
