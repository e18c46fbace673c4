/-
  DERIVED. GIVEN WITH THE SEED: THE CARDS: each row of YtifbibbicplneaaDoorRows.lean that lists a variable, with what it lists TIED to the program's text (the seventh form; the later family's looks); each row that meets fmt, with fmt's text TOLD by the authors' own Lean function (tested against real Go, not proved from fmt's source: count such statements apart). THE CARD IS WHAT COUNTS. Prove the row's statement (the work); the ties are given (YtifbibbicplneaaDoorTie.lean); close each card by the builder's one call (the guide's Derived/Test/ToyasCard.lean, 'card_holds'). Laid BY PROGRAM, IN A SANDBOX (cutbox-door.mjs). By AI agents, Wed Nov 11 2026. No macro, syntax, notation, axiom, sorry.
-/
import Derived.Test.YtifbibbicplneaaDoorRows
import GoSem.ClaimSeven
namespace Go.Proofs.YtifbibbicplneaaDoor
namespace Rows

/-- THE TIED CARD OF 'familychecklaw08.InvariantAssumes'. -/
def invariantAssumesCard : Claim7 := { stood := { row := invariantAssumesRow, standIns := [], harness := (true, "d68be5e6558401a715dbd44fa42bb4126e43cbc5025afaa81432a774f8871585"), looks := false }, kinds := [], alts := [], laidByText := true, laidKinds := [.listed, .data], laidTests := true, laidLooks := .later }
def InvariantAssumesCardSaid : Prop := Claim7.holds Tryd.pinned (.plain (OpenSpec.ofChange invariantAssumesSpec)) invariantAssumesCard

/-- THE TIED CARD OF 'familychecklaw08.InvariantCaps'. -/
def invariantCapsCard : Claim7 := { stood := { row := invariantCapsRow, standIns := [], harness := (true, "d68be5e6558401a715dbd44fa42bb4126e43cbc5025afaa81432a774f8871585"), looks := false }, kinds := [], alts := [], laidByText := true, laidKinds := [.listed, .data], laidTests := true, laidLooks := .later }
def InvariantCapsCardSaid : Prop := Claim7.holds Tryd.pinned (.plain (OpenSpec.ofChange invariantCapsSpec)) invariantCapsCard

/-- THE SECOND FORM's CARD OF 'familychecklaw08.InvariantAssumes'. -/
def invariantAssumesUptoCard : Claim7 := { stood := { row := invariantAssumesUptoRow, standIns := [], harness := (true, "d68be5e6558401a715dbd44fa42bb4126e43cbc5025afaa81432a774f8871585"), looks := false }, kinds := [], alts := [], laidByText := true, laidKinds := [.listed, .data], laidTests := true, laidLooks := .later }
def InvariantAssumesUptoCardSaid : Prop := Claim7.holds Tryd.pinned (.plain (OpenSpec.upto invariantAssumesSpec)) invariantAssumesUptoCard

/-- THE SECOND FORM's CARD OF 'familychecklaw08.InvariantCaps'. -/
def invariantCapsUptoCard : Claim7 := { stood := { row := invariantCapsUptoRow, standIns := [], harness := (true, "d68be5e6558401a715dbd44fa42bb4126e43cbc5025afaa81432a774f8871585"), looks := false }, kinds := [], alts := [], laidByText := true, laidKinds := [.listed, .data], laidTests := true, laidLooks := .later }
def InvariantCapsUptoCardSaid : Prop := Claim7.holds Tryd.pinned (.plain (OpenSpec.upto invariantCapsSpec)) invariantCapsUptoCard
end Rows
end Go.Proofs.YtifbibbicplneaaDoor
