/- DERIVED. GIVEN WITH THE SEED: THE CARDS: each row of YtafhnlnhflehhaaGreatDoorRows.lean that lists a variable, with what it lists TIED to the program's text (the seventh form; the later family's looks); each row that meets fmt, with fmt's text TOLD by the authors' own Lean function (tested against real Go, not proved from fmt's source: count such statements apart). THE CARD IS WHAT COUNTS. Prove the row's statement (the work); the ties are given (YtafhnlnhflehhaaGreatDoorTie.lean); close each card by the builder's one call (the guide's Derived/Test/ToyasCard.lean, 'card_holds'). Laid BY PROGRAM, IN A SANDBOX (cutbox-door.mjs). By AI agents, Wed Nov 11 2026. No macro, syntax, notation, axiom, sorry. -/
import Derived.Test.YtafhnlnhflehhaaGreatDoorRows
import GoSem.ClaimSeven
namespace Go.Proofs.YtafhnlnhflehhaaGreatDoor
namespace Rows

/-- THE TIED CARD OF 'tenaillelaw48.OfferWrites'. -/
def offerWritesCard : Claim7 := { stood := { row := offerWritesRow, standIns := [], harness := (true, "6424efbcc6ac9071bd62d1eb2a55317a6a483e8e970e7cd2d850758ed5894901"), looks := true }, kinds := [], alts := [], laidByText := true, laidKinds := [.data, .data, .data, .data, .sentinel, .sentinel, .pinned], laidTests := true, laidLooks := .later }
def OfferWritesCardSaid : Prop := Claim7.holds Tryz.pinned (.plain (OpenSpec.ofChange offerWritesSpec)) offerWritesCard

/-- THE TIED CARD OF 'tenaillelaw48.OfferReads'. -/
def offerReadsCard : Claim7 := { stood := { row := offerReadsRow, standIns := [], harness := (true, "6424efbcc6ac9071bd62d1eb2a55317a6a483e8e970e7cd2d850758ed5894901"), looks := true }, kinds := [], alts := [], laidByText := true, laidKinds := [.data, .data, .data, .data, .sentinel, .sentinel, .pinned], laidTests := true, laidLooks := .later }
def OfferReadsCardSaid : Prop := Claim7.holds Tryz.pinned (.plain (OpenSpec.ofChange offerReadsSpec)) offerReadsCard

/-- THE SECOND FORM's CARD OF 'tenaillelaw48.OfferWrites'. -/
def offerWritesUptoCard : Claim7 := { stood := { row := offerWritesUptoRow, standIns := [], harness := (true, "6424efbcc6ac9071bd62d1eb2a55317a6a483e8e970e7cd2d850758ed5894901"), looks := true }, kinds := [], alts := [], laidByText := true, laidKinds := [.data, .data, .data, .data, .sentinel, .sentinel, .pinned], laidTests := true, laidLooks := .later }
def OfferWritesUptoCardSaid : Prop := Claim7.holds Tryz.pinned (.plain (OpenSpec.upto offerWritesSpec)) offerWritesUptoCard

/-- THE SECOND FORM's CARD OF 'tenaillelaw48.OfferReads'. -/
def offerReadsUptoCard : Claim7 := { stood := { row := offerReadsUptoRow, standIns := [], harness := (true, "6424efbcc6ac9071bd62d1eb2a55317a6a483e8e970e7cd2d850758ed5894901"), looks := true }, kinds := [], alts := [], laidByText := true, laidKinds := [.data, .data, .data, .data, .sentinel, .sentinel, .pinned], laidTests := true, laidLooks := .later }
def OfferReadsUptoCardSaid : Prop := Claim7.holds Tryz.pinned (.plain (OpenSpec.upto offerReadsSpec)) offerReadsUptoCard
end Rows
end Go.Proofs.YtafhnlnhflehhaaGreatDoor
