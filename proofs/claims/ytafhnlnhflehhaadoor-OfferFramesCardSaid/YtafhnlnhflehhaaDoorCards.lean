/-
  DERIVED. GIVEN WITH THE SEED: THE CARDS: each row of YtafhnlnhflehhaaDoorRows.lean that lists a variable, with what it lists TIED to the program's text (the seventh form; the later family's looks); each row that meets fmt, with fmt's text TOLD by the authors' own Lean function (tested against real Go, not proved from fmt's source: count such statements apart). THE CARD IS WHAT COUNTS. Prove the row's statement (the work); the ties are given (YtafhnlnhflehhaaDoorTie.lean); close each card by the builder's one call (the guide's Derived/Test/ToyasCard.lean, 'card_holds'). Laid BY PROGRAM, IN A SANDBOX (cutbox-door.mjs). By AI agents, Wed Nov 11 2026. No macro, syntax, notation, axiom, sorry.
-/
import Derived.Test.YtafhnlnhflehhaaDoorRows
import GoSem.ClaimSeven
namespace Go.Proofs.YtafhnlnhflehhaaDoor
namespace Rows

/-- THE TIED CARD OF 'tenaillelaw48.OfferFrames'. -/
def offerFramesCard : Claim7 := { stood := { row := offerFramesRow, standIns := [], harness := (true, "702ba355a0823bff81b0f736a80a7a7afdc79a42afba25136e83f3c6c3e60349"), looks := false }, kinds := [], alts := [], laidByText := true, laidKinds := [.data, .data, .data], laidTests := true, laidLooks := .later }
def OfferFramesCardSaid : Prop := Claim7.holds Tryd.pinned (.plain (OpenSpec.ofChange offerFramesSpec)) offerFramesCard

/-- THE SECOND FORM's CARD OF 'tenaillelaw48.OfferFrames'. -/
def offerFramesUptoCard : Claim7 := { stood := { row := offerFramesUptoRow, standIns := [], harness := (true, "702ba355a0823bff81b0f736a80a7a7afdc79a42afba25136e83f3c6c3e60349"), looks := false }, kinds := [], alts := [], laidByText := true, laidKinds := [.data, .data, .data], laidTests := true, laidLooks := .later }
def OfferFramesUptoCardSaid : Prop := Claim7.holds Tryd.pinned (.plain (OpenSpec.upto offerFramesSpec)) offerFramesUptoCard
end Rows
end Go.Proofs.YtafhnlnhflehhaaDoor
