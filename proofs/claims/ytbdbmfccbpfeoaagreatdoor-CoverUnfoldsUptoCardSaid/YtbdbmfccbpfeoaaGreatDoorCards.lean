/-
  DERIVED. GIVEN WITH THE SEED: THE CARDS: each row of YtbdbmfccbpfeoaaGreatDoorRows.lean that lists a variable, with what it lists TIED to the program's text (the seventh form; the later family's looks); each row that meets fmt, with fmt's text TOLD by the authors' own Lean function (tested against real Go, not proved from fmt's source: count such statements apart). THE CARD IS WHAT COUNTS. Prove the row's statement (the work); the ties are given (YtbdbmfccbpfeoaaGreatDoorTie.lean); close each card by the builder's one call (the guide's Derived/Test/ToyasCard.lean, 'card_holds'). Laid BY PROGRAM, IN A SANDBOX (cutbox-door.mjs). By AI agents, Wed Nov 11 2026. No macro, syntax, notation, axiom, sorry.
-/
import Derived.Test.YtbdbmfccbpfeoaaGreatDoorRows
import GoSem.ClaimSeven
namespace Go.Proofs.YtbdbmfccbpfeoaaGreatDoor
namespace Rows

/-- THE TIED CARD OF 'familychecklaw05.CoverUnfolds'. -/
def coverUnfoldsCard : Claim7 := { stood := { row := coverUnfoldsRow, standIns := [], harness := (true, "39cd297484676271f1b4918f085bd303b1ae0c6de9584c6238ef3c2adf7b8efe"), looks := false }, kinds := [], alts := [], laidByText := true, laidKinds := [.listed, .data], laidTests := true, laidLooks := .later }
def CoverUnfoldsCardSaid : Prop := Claim7.holds Tryz.pinned (.plain (OpenSpec.ofChange coverUnfoldsSpec)) coverUnfoldsCard

/-- THE SECOND FORM's CARD OF 'familychecklaw05.CoverUnfolds'. -/
def coverUnfoldsUptoCard : Claim7 := { stood := { row := coverUnfoldsUptoRow, standIns := [], harness := (true, "39cd297484676271f1b4918f085bd303b1ae0c6de9584c6238ef3c2adf7b8efe"), looks := false }, kinds := [], alts := [], laidByText := true, laidKinds := [.listed, .data], laidTests := true, laidLooks := .later }
def CoverUnfoldsUptoCardSaid : Prop := Claim7.holds Tryz.pinned (.plain (OpenSpec.upto coverUnfoldsSpec)) coverUnfoldsUptoCard
end Rows
end Go.Proofs.YtbdbmfccbpfeoaaGreatDoor
