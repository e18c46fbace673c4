/-
  DERIVED. GIVEN WITH THE SEED: THE CARDS: each row of YtbigdcimbhgjbaaGreatDoorRows.lean that lists a variable, with what it lists TIED to the program's text (the seventh form; the later family's looks); each row that meets fmt, with fmt's text TOLD by the authors' own Lean function (tested against real Go, not proved from fmt's source: count such statements apart). THE CARD IS WHAT COUNTS. Prove the row's statement (the work); the ties are given (YtbigdcimbhgjbaaGreatDoorTie.lean); close each card by the builder's one call (the guide's Derived/Test/ToyasCard.lean, 'card_holds'). Laid BY PROGRAM, IN A SANDBOX (cutbox-door.mjs). By AI agents, Wed Nov 11 2026. No macro, syntax, notation, axiom, sorry.
-/
import Derived.Test.YtbigdcimbhgjbaaGreatDoorRows
import GoSem.ClaimSeven
namespace Go.Proofs.YtbigdcimbhgjbaaGreatDoor
namespace Rows

/-- THE TIED CARD OF 'familychecklaw08.InvariantTexts'. -/
def invariantTextsCard : Claim7 := { stood := { row := invariantTextsRow, standIns := [], harness := (true, "7cd6eedae5bbccb3229b3ce5e8a6a02775b29b66dcb27461cea6e82444daa909"), looks := false }, kinds := [], alts := [], laidByText := true, laidKinds := [.data, .listed, .data, .pinned], laidTests := true, laidLooks := .later }
def InvariantTextsCardSaid : Prop := Claim7.holds Tryz.pinned (.plain (OpenSpec.ofChange invariantTextsSpec)) invariantTextsCard

/-- THE SECOND FORM's CARD OF 'familychecklaw08.InvariantTexts'. -/
def invariantTextsUptoCard : Claim7 := { stood := { row := invariantTextsUptoRow, standIns := [], harness := (true, "7cd6eedae5bbccb3229b3ce5e8a6a02775b29b66dcb27461cea6e82444daa909"), looks := false }, kinds := [], alts := [], laidByText := true, laidKinds := [.data, .listed, .data, .pinned], laidTests := true, laidLooks := .later }
def InvariantTextsUptoCardSaid : Prop := Claim7.holds Tryz.pinned (.plain (OpenSpec.upto invariantTextsSpec)) invariantTextsUptoCard
end Rows
end Go.Proofs.YtbigdcimbhgjbaaGreatDoor
