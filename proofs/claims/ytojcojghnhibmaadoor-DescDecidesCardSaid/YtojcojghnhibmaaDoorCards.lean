/-
  DERIVED. GIVEN WITH THE SEED: THE CARDS: each row of YtojcojghnhibmaaDoorRows.lean that lists a variable, with what it lists TIED to the program's text (the seventh form; the later family's looks); each row that meets fmt, with fmt's text TOLD by the authors' own Lean function (tested against real Go, not proved from fmt's source: count such statements apart). THE CARD IS WHAT COUNTS. Prove the row's statement (the work); the ties are given (YtojcojghnhibmaaDoorTie.lean); close each card by the builder's one call (the guide's Derived/Test/ToyasCard.lean, 'card_holds'). Laid BY PROGRAM, IN A SANDBOX (cutbox-door.mjs). By AI agents, Wed Nov 11 2026. No macro, syntax, notation, axiom, sorry.
-/
import Derived.Test.YtojcojghnhibmaaDoorRows
import GoSem.ClaimSeven
namespace Go.Proofs.YtojcojghnhibmaaDoor
namespace Rows

/-- THE TIED CARD OF 'simulcastlaw19.DescReads'. -/
def descReadsCard : Claim7 := { stood := { row := descReadsRow, standIns := [], harness := (true, "d9a04c950efb1f68c6a987de79391d6d171d67fac98650a98b5a37250044d0fa"), looks := false }, kinds := [], alts := [], laidByText := true, laidKinds := [.data], laidTests := true, laidLooks := .later }
def DescReadsCardSaid : Prop := Claim7.holds Tryd.pinned (.plain (OpenSpec.ofChange descReadsSpec)) descReadsCard

/-- THE TIED CARD OF 'simulcastlaw19.DescPacks'. -/
def descPacksCard : Claim7 := { stood := { row := descPacksRow, standIns := [], harness := (true, "d9a04c950efb1f68c6a987de79391d6d171d67fac98650a98b5a37250044d0fa"), looks := false }, kinds := [], alts := [], laidByText := true, laidKinds := [.data], laidTests := true, laidLooks := .later }
def DescPacksCardSaid : Prop := Claim7.holds Tryd.pinned (.plain (OpenSpec.ofChange descPacksSpec)) descPacksCard

/-- THE TIED CARD OF 'simulcastlaw19.DescLogicals'. -/
def descLogicalsCard : Claim7 := { stood := { row := descLogicalsRow, standIns := [], harness := (true, "d9a04c950efb1f68c6a987de79391d6d171d67fac98650a98b5a37250044d0fa"), looks := false }, kinds := [], alts := [], laidByText := true, laidKinds := [.data], laidTests := true, laidLooks := .later }
def DescLogicalsCardSaid : Prop := Claim7.holds Tryd.pinned (.plain (OpenSpec.ofChange descLogicalsSpec)) descLogicalsCard

/-- THE TIED CARD OF 'simulcastlaw19.DescDecides'. -/
def descDecidesCard : Claim7 := { stood := { row := descDecidesRow, standIns := [], harness := (true, "d9a04c950efb1f68c6a987de79391d6d171d67fac98650a98b5a37250044d0fa"), looks := false }, kinds := [], alts := [], laidByText := true, laidKinds := [.data], laidTests := true, laidLooks := .later }
def DescDecidesCardSaid : Prop := Claim7.holds Tryd.pinned (.plain (OpenSpec.ofChange descDecidesSpec)) descDecidesCard

/-- THE TIED CARD OF 'simulcastlaw19.DescFields'. -/
def descFieldsCard : Claim7 := { stood := { row := descFieldsRow, standIns := [], harness := (true, "d9a04c950efb1f68c6a987de79391d6d171d67fac98650a98b5a37250044d0fa"), looks := false }, kinds := [], alts := [], laidByText := true, laidKinds := [.data], laidTests := true, laidLooks := .later }
def DescFieldsCardSaid : Prop := Claim7.holds Tryd.pinned (.plain (OpenSpec.ofChange descFieldsSpec)) descFieldsCard

/-- THE TIED CARD OF 'simulcastlaw19.DescApart'. -/
def descApartCard : Claim7 := { stood := { row := descApartRow, standIns := [], harness := (true, "d9a04c950efb1f68c6a987de79391d6d171d67fac98650a98b5a37250044d0fa"), looks := false }, kinds := [], alts := [], laidByText := true, laidKinds := [.data], laidTests := true, laidLooks := .later }
def DescApartCardSaid : Prop := Claim7.holds Tryd.pinned (.plain (OpenSpec.ofChange descApartSpec)) descApartCard

/-- THE SECOND FORM's CARD OF 'simulcastlaw19.DescReads'. -/
def descReadsUptoCard : Claim7 := { stood := { row := descReadsUptoRow, standIns := [], harness := (true, "d9a04c950efb1f68c6a987de79391d6d171d67fac98650a98b5a37250044d0fa"), looks := false }, kinds := [], alts := [], laidByText := true, laidKinds := [.data], laidTests := true, laidLooks := .later }
def DescReadsUptoCardSaid : Prop := Claim7.holds Tryd.pinned (.plain (OpenSpec.upto descReadsSpec)) descReadsUptoCard

/-- THE SECOND FORM's CARD OF 'simulcastlaw19.DescPacks'. -/
def descPacksUptoCard : Claim7 := { stood := { row := descPacksUptoRow, standIns := [], harness := (true, "d9a04c950efb1f68c6a987de79391d6d171d67fac98650a98b5a37250044d0fa"), looks := false }, kinds := [], alts := [], laidByText := true, laidKinds := [.data], laidTests := true, laidLooks := .later }
def DescPacksUptoCardSaid : Prop := Claim7.holds Tryd.pinned (.plain (OpenSpec.upto descPacksSpec)) descPacksUptoCard

/-- THE SECOND FORM's CARD OF 'simulcastlaw19.DescLogicals'. -/
def descLogicalsUptoCard : Claim7 := { stood := { row := descLogicalsUptoRow, standIns := [], harness := (true, "d9a04c950efb1f68c6a987de79391d6d171d67fac98650a98b5a37250044d0fa"), looks := false }, kinds := [], alts := [], laidByText := true, laidKinds := [.data], laidTests := true, laidLooks := .later }
def DescLogicalsUptoCardSaid : Prop := Claim7.holds Tryd.pinned (.plain (OpenSpec.upto descLogicalsSpec)) descLogicalsUptoCard

/-- THE SECOND FORM's CARD OF 'simulcastlaw19.DescDecides'. -/
def descDecidesUptoCard : Claim7 := { stood := { row := descDecidesUptoRow, standIns := [], harness := (true, "d9a04c950efb1f68c6a987de79391d6d171d67fac98650a98b5a37250044d0fa"), looks := false }, kinds := [], alts := [], laidByText := true, laidKinds := [.data], laidTests := true, laidLooks := .later }
def DescDecidesUptoCardSaid : Prop := Claim7.holds Tryd.pinned (.plain (OpenSpec.upto descDecidesSpec)) descDecidesUptoCard

/-- THE SECOND FORM's CARD OF 'simulcastlaw19.DescFields'. -/
def descFieldsUptoCard : Claim7 := { stood := { row := descFieldsUptoRow, standIns := [], harness := (true, "d9a04c950efb1f68c6a987de79391d6d171d67fac98650a98b5a37250044d0fa"), looks := false }, kinds := [], alts := [], laidByText := true, laidKinds := [.data], laidTests := true, laidLooks := .later }
def DescFieldsUptoCardSaid : Prop := Claim7.holds Tryd.pinned (.plain (OpenSpec.upto descFieldsSpec)) descFieldsUptoCard

/-- THE SECOND FORM's CARD OF 'simulcastlaw19.DescApart'. -/
def descApartUptoCard : Claim7 := { stood := { row := descApartUptoRow, standIns := [], harness := (true, "d9a04c950efb1f68c6a987de79391d6d171d67fac98650a98b5a37250044d0fa"), looks := false }, kinds := [], alts := [], laidByText := true, laidKinds := [.data], laidTests := true, laidLooks := .later }
def DescApartUptoCardSaid : Prop := Claim7.holds Tryd.pinned (.plain (OpenSpec.upto descApartSpec)) descApartUptoCard
end Rows
end Go.Proofs.YtojcojghnhibmaaDoor
