/-
  DERIVED. GIVEN WITH THE SEED: THE CARDS: each row of YtdhobgbagphngaaGreatDoorRows.lean that lists a variable, with what it lists TIED to the program's text (the seventh form; the later family's looks); each row that meets fmt, with fmt's text TOLD by the authors' own Lean function (tested against real Go, not proved from fmt's source: count such statements apart). THE CARD IS WHAT COUNTS. Prove the row's statement (the work); the ties are given (YtdhobgbagphngaaGreatDoorTie.lean); close each card by the builder's one call (the guide's Derived/Test/ToyasCard.lean, 'card_holds'). Laid BY PROGRAM, IN A SANDBOX (cutbox-door.mjs). By AI agents, Wed Nov 11 2026. No macro, syntax, notation, axiom, sorry.
-/
import Derived.Test.YtdhobgbagphngaaGreatDoorRows
import GoSem.ClaimSeven
namespace Go.Proofs.YtdhobgbagphngaaGreatDoor
namespace Rows

/-- THE TIED CARD OF 'familychecklaw05.CoverAbstracts'. -/
def coverAbstractsCard : Claim7 := { stood := { row := coverAbstractsRow, standIns := [], harness := (true, "6c94110a3310db1cb717ce47598c2f1df386c4d5bd128bcc1d3aa8b4a14827c0"), looks := false }, kinds := [], alts := [], laidByText := true, laidKinds := [.listed, .data], laidTests := true, laidLooks := .later }
def CoverAbstractsCardSaid : Prop := Claim7.holds Tryz.pinned (.plain (OpenSpec.ofChange coverAbstractsSpec)) coverAbstractsCard

/-- THE TIED CARD OF 'familychecklaw05.CoverUnfolds'. -/
def coverUnfoldsCard : Claim7 := { stood := { row := coverUnfoldsRow, standIns := [], harness := (true, "6c94110a3310db1cb717ce47598c2f1df386c4d5bd128bcc1d3aa8b4a14827c0"), looks := false }, kinds := [], alts := [], laidByText := true, laidKinds := [.listed, .data], laidTests := true, laidLooks := .later }
def CoverUnfoldsCardSaid : Prop := Claim7.holds Tryz.pinned (.plain (OpenSpec.ofChange coverUnfoldsSpec)) coverUnfoldsCard

/-- THE SECOND FORM's CARD OF 'familychecklaw05.CoverAbstracts'. -/
def coverAbstractsUptoCard : Claim7 := { stood := { row := coverAbstractsUptoRow, standIns := [], harness := (true, "6c94110a3310db1cb717ce47598c2f1df386c4d5bd128bcc1d3aa8b4a14827c0"), looks := false }, kinds := [], alts := [], laidByText := true, laidKinds := [.listed, .data], laidTests := true, laidLooks := .later }
def CoverAbstractsUptoCardSaid : Prop := Claim7.holds Tryz.pinned (.plain (OpenSpec.upto coverAbstractsSpec)) coverAbstractsUptoCard

/-- THE SECOND FORM's CARD OF 'familychecklaw05.CoverUnfolds'. -/
def coverUnfoldsUptoCard : Claim7 := { stood := { row := coverUnfoldsUptoRow, standIns := [], harness := (true, "6c94110a3310db1cb717ce47598c2f1df386c4d5bd128bcc1d3aa8b4a14827c0"), looks := false }, kinds := [], alts := [], laidByText := true, laidKinds := [.listed, .data], laidTests := true, laidLooks := .later }
def CoverUnfoldsUptoCardSaid : Prop := Claim7.holds Tryz.pinned (.plain (OpenSpec.upto coverUnfoldsSpec)) coverUnfoldsUptoCard
end Rows
end Go.Proofs.YtdhobgbagphngaaGreatDoor
