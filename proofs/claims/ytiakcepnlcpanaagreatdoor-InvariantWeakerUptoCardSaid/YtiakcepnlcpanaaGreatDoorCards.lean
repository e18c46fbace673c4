/-
  DERIVED. GIVEN WITH THE SEED: THE CARDS: each row of YtiakcepnlcpanaaGreatDoorRows.lean that lists a variable, with what it lists TIED to the program's text (the seventh form; the later family's looks); each row that meets fmt, with fmt's text TOLD by the authors' own Lean function (tested against real Go, not proved from fmt's source: count such statements apart). THE CARD IS WHAT COUNTS. Prove the row's statement (the work); the ties are given (YtiakcepnlcpanaaGreatDoorTie.lean); close each card by the builder's one call (the guide's Derived/Test/ToyasCard.lean, 'card_holds'). Laid BY PROGRAM, IN A SANDBOX (cutbox-door.mjs). By AI agents, Wed Nov 11 2026. No macro, syntax, notation, axiom, sorry.
-/
import Derived.Test.YtiakcepnlcpanaaGreatDoorRows
import GoSem.ClaimSeven
namespace Go.Proofs.YtiakcepnlcpanaaGreatDoor
namespace Rows

/-- THE TIED CARD OF 'familychecklaw08.InvariantWeaker'. -/
def invariantWeakerCard : Claim7 := { stood := { row := invariantWeakerRow, standIns := [], harness := (true, "ccbf8c00c7f9c878ef542d9d92217f454b299d28f7f07e3cc0384e7177940c29"), looks := false }, kinds := [], alts := [], laidByText := true, laidKinds := [.listed, .data], laidTests := true, laidLooks := .later }
def InvariantWeakerCardSaid : Prop := Claim7.holds Tryz.pinned (.plain (OpenSpec.ofChange invariantWeakerSpec)) invariantWeakerCard

/-- THE SECOND FORM's CARD OF 'familychecklaw08.InvariantWeaker'. -/
def invariantWeakerUptoCard : Claim7 := { stood := { row := invariantWeakerUptoRow, standIns := [], harness := (true, "ccbf8c00c7f9c878ef542d9d92217f454b299d28f7f07e3cc0384e7177940c29"), looks := false }, kinds := [], alts := [], laidByText := true, laidKinds := [.listed, .data], laidTests := true, laidLooks := .later }
def InvariantWeakerUptoCardSaid : Prop := Claim7.holds Tryz.pinned (.plain (OpenSpec.upto invariantWeakerSpec)) invariantWeakerUptoCard
end Rows
end Go.Proofs.YtiakcepnlcpanaaGreatDoor
