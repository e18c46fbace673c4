/-
  DERIVED. GIVEN WITH THE SEED: THE CARDS: each row of YtdloaandiobgdaaGreatDoorRows.lean that lists a variable, with what it lists TIED to the program's text (the seventh form; the later family's looks); each row that meets fmt, with fmt's text TOLD by the authors' own Lean function (tested against real Go, not proved from fmt's source: count such statements apart). THE CARD IS WHAT COUNTS. Prove the row's statement (the work); the ties are given (YtdloaandiobgdaaGreatDoorTie.lean); close each card by the builder's one call (the guide's Derived/Test/ToyasCard.lean, 'card_holds'). Laid BY PROGRAM, IN A SANDBOX (cutbox-door.mjs). By AI agents, Wed Nov 11 2026. No macro, syntax, notation, axiom, sorry.
-/
import Derived.Test.YtdloaandiobgdaaGreatDoorRows
import GoSem.ClaimSeven
namespace Go.Proofs.YtdloaandiobgdaaGreatDoor
namespace Rows

/-- THE TIED CARD OF 'familychecklaw05.CoverSound'. -/
def coverSoundCard : Claim7 := { stood := { row := coverSoundRow, standIns := [], harness := (true, "5398e958dde6f4972eac869c06aa2328e59a553026610de0014f4b041c608b3a"), looks := false }, kinds := [], alts := [], laidByText := true, laidKinds := [.listed, .data], laidTests := true, laidLooks := .later }
def CoverSoundCardSaid : Prop := Claim7.holds Tryz.pinned (.plain (OpenSpec.ofChange coverSoundSpec)) coverSoundCard

/-- THE SECOND FORM's CARD OF 'familychecklaw05.CoverSound'. -/
def coverSoundUptoCard : Claim7 := { stood := { row := coverSoundUptoRow, standIns := [], harness := (true, "5398e958dde6f4972eac869c06aa2328e59a553026610de0014f4b041c608b3a"), looks := false }, kinds := [], alts := [], laidByText := true, laidKinds := [.listed, .data], laidTests := true, laidLooks := .later }
def CoverSoundUptoCardSaid : Prop := Claim7.holds Tryz.pinned (.plain (OpenSpec.upto coverSoundSpec)) coverSoundUptoCard
end Rows
end Go.Proofs.YtdloaandiobgdaaGreatDoor
