/-
  DERIVED. GIVEN WITH THE SEED: THE CARDS: each row of YtbdbmfccbpfeoabGreatDoorRows.lean that lists a variable, with what it lists TIED to the program's text (the seventh form; the later family's looks); each row that meets fmt, with fmt's text TOLD by the authors' own Lean function (tested against real Go, not proved from fmt's source: count such statements apart). THE CARD IS WHAT COUNTS. Prove the row's statement (the work); the ties are given (YtbdbmfccbpfeoabGreatDoorTie.lean); close each card by the builder's one call (the guide's Derived/Test/ToyasCard.lean, 'card_holds'). Laid BY PROGRAM, IN A SANDBOX (cutbox-door.mjs). By AI agents, Wed Nov 11 2026. No macro, syntax, notation, axiom, sorry.
-/
import Derived.Test.YtbdbmfccbpfeoabGreatDoorRows
import GoSem.ClaimSeven
namespace Go.Proofs.YtbdbmfccbpfeoabGreatDoor
namespace Rows

/-- THE TIED CARD OF 'familychecklaw05.CoverSolves'. -/
def coverSolvesCard : Claim7 := { stood := { row := coverSolvesRow, standIns := [], harness := (true, "aba3eb3922a596241596f4b518883c95a4712864ff689ca96e41be32fc75bc6b"), looks := false }, kinds := [], alts := [], laidByText := true, laidKinds := [.listed, .data], laidTests := true, laidLooks := .later }
def CoverSolvesCardSaid : Prop := Claim7.holds Tryz.pinned (.plain (OpenSpec.ofChange coverSolvesSpec)) coverSolvesCard

/-- THE SECOND FORM's CARD OF 'familychecklaw05.CoverSolves'. -/
def coverSolvesUptoCard : Claim7 := { stood := { row := coverSolvesUptoRow, standIns := [], harness := (true, "aba3eb3922a596241596f4b518883c95a4712864ff689ca96e41be32fc75bc6b"), looks := false }, kinds := [], alts := [], laidByText := true, laidKinds := [.listed, .data], laidTests := true, laidLooks := .later }
def CoverSolvesUptoCardSaid : Prop := Claim7.holds Tryz.pinned (.plain (OpenSpec.upto coverSolvesSpec)) coverSolvesUptoCard
end Rows
end Go.Proofs.YtbdbmfccbpfeoabGreatDoor
