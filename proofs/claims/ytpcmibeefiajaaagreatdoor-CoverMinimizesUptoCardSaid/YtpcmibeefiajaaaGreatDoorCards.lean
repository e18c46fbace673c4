/-
  DERIVED. GIVEN WITH THE SEED: THE CARDS: each row of YtpcmibeefiajaaaGreatDoorRows.lean that lists a variable, with what it lists TIED to the program's text (the seventh form; the later family's looks); each row that meets fmt, with fmt's text TOLD by the authors' own Lean function (tested against real Go, not proved from fmt's source: count such statements apart). THE CARD IS WHAT COUNTS. Prove the row's statement (the work); the ties are given (YtpcmibeefiajaaaGreatDoorTie.lean); close each card by the builder's one call (the guide's Derived/Test/ToyasCard.lean, 'card_holds'). Laid BY PROGRAM, IN A SANDBOX (cutbox-door.mjs). By AI agents, Wed Nov 11 2026. No macro, syntax, notation, axiom, sorry.
-/
import Derived.Test.YtpcmibeefiajaaaGreatDoorRows
import GoSem.ClaimSeven
namespace Go.Proofs.YtpcmibeefiajaaaGreatDoor
namespace Rows

/-- THE TIED CARD OF 'familychecklaw05.CoverMinimizes'. -/
def coverMinimizesCard : Claim7 := { stood := { row := coverMinimizesRow, standIns := [], harness := (true, "3108323646e6e891bae11b577b12a9258fbf13364f99f3e5dea8166e7bac6aff"), looks := false }, kinds := [], alts := [], laidByText := true, laidKinds := [.listed, .data], laidTests := true, laidLooks := .later }
def CoverMinimizesCardSaid : Prop := Claim7.holds Tryz.pinned (.plain (OpenSpec.ofChange coverMinimizesSpec)) coverMinimizesCard

/-- THE SECOND FORM's CARD OF 'familychecklaw05.CoverMinimizes'. -/
def coverMinimizesUptoCard : Claim7 := { stood := { row := coverMinimizesUptoRow, standIns := [], harness := (true, "3108323646e6e891bae11b577b12a9258fbf13364f99f3e5dea8166e7bac6aff"), looks := false }, kinds := [], alts := [], laidByText := true, laidKinds := [.listed, .data], laidTests := true, laidLooks := .later }
def CoverMinimizesUptoCardSaid : Prop := Claim7.holds Tryz.pinned (.plain (OpenSpec.upto coverMinimizesSpec)) coverMinimizesUptoCard
end Rows
end Go.Proofs.YtpcmibeefiajaaaGreatDoor
