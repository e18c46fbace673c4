/-
  DERIVED. GIVEN WITH THE SEED: THE CARDS: each row of YtbfhebmdcpmfaaaGreatDoorRows.lean that lists a variable, with what it lists TIED to the program's text (the seventh form; the later family's looks); each row that meets fmt, with fmt's text TOLD by the authors' own Lean function (tested against real Go, not proved from fmt's source: count such statements apart). THE CARD IS WHAT COUNTS. Prove the row's statement (the work); the ties are given (YtbfhebmdcpmfaaaGreatDoorTie.lean); close each card by the builder's one call (the guide's Derived/Test/ToyasCard.lean, 'card_holds'). Laid BY PROGRAM, IN A SANDBOX (cutbox-door.mjs). By AI agents, Wed Nov 11 2026. No macro, syntax, notation, axiom, sorry.
-/
import Derived.Test.YtbfhebmdcpmfaaaGreatDoorRows
import GoSem.ClaimSeven
namespace Go.Proofs.YtbfhebmdcpmfaaaGreatDoor
namespace Rows

/-- THE TIED CARD OF 'familychecklaw08.InvariantCandidates'. -/
def invariantCandidatesCard : Claim7 := { stood := { row := invariantCandidatesRow, standIns := [], harness := (true, "a0195895b345bdd1e8dd410e5d5dbb5ea1531f61791ed28f0e2b185e843af8a1"), looks := false }, kinds := [], alts := [], laidByText := true, laidKinds := [.listed, .data], laidTests := true, laidLooks := .later }
def InvariantCandidatesCardSaid : Prop := Claim7.holds Tryz.pinned (.plain (OpenSpec.ofChange invariantCandidatesSpec)) invariantCandidatesCard

/-- THE TIED CARD OF 'familychecklaw08.InvariantEntails'. -/
def invariantEntailsCard : Claim7 := { stood := { row := invariantEntailsRow, standIns := [], harness := (true, "a0195895b345bdd1e8dd410e5d5dbb5ea1531f61791ed28f0e2b185e843af8a1"), looks := false }, kinds := [], alts := [], laidByText := true, laidKinds := [.listed, .data], laidTests := true, laidLooks := .later }
def InvariantEntailsCardSaid : Prop := Claim7.holds Tryz.pinned (.plain (OpenSpec.ofChange invariantEntailsSpec)) invariantEntailsCard

/-- THE TIED CARD OF 'familychecklaw08.InvariantReduces'. -/
def invariantReducesCard : Claim7 := { stood := { row := invariantReducesRow, standIns := [], harness := (true, "a0195895b345bdd1e8dd410e5d5dbb5ea1531f61791ed28f0e2b185e843af8a1"), looks := false }, kinds := [], alts := [], laidByText := true, laidKinds := [.listed, .data], laidTests := true, laidLooks := .later }
def InvariantReducesCardSaid : Prop := Claim7.holds Tryz.pinned (.plain (OpenSpec.ofChange invariantReducesSpec)) invariantReducesCard

/-- THE SECOND FORM's CARD OF 'familychecklaw08.InvariantCandidates'. -/
def invariantCandidatesUptoCard : Claim7 := { stood := { row := invariantCandidatesUptoRow, standIns := [], harness := (true, "a0195895b345bdd1e8dd410e5d5dbb5ea1531f61791ed28f0e2b185e843af8a1"), looks := false }, kinds := [], alts := [], laidByText := true, laidKinds := [.listed, .data], laidTests := true, laidLooks := .later }
def InvariantCandidatesUptoCardSaid : Prop := Claim7.holds Tryz.pinned (.plain (OpenSpec.upto invariantCandidatesSpec)) invariantCandidatesUptoCard

/-- THE SECOND FORM's CARD OF 'familychecklaw08.InvariantEntails'. -/
def invariantEntailsUptoCard : Claim7 := { stood := { row := invariantEntailsUptoRow, standIns := [], harness := (true, "a0195895b345bdd1e8dd410e5d5dbb5ea1531f61791ed28f0e2b185e843af8a1"), looks := false }, kinds := [], alts := [], laidByText := true, laidKinds := [.listed, .data], laidTests := true, laidLooks := .later }
def InvariantEntailsUptoCardSaid : Prop := Claim7.holds Tryz.pinned (.plain (OpenSpec.upto invariantEntailsSpec)) invariantEntailsUptoCard

/-- THE SECOND FORM's CARD OF 'familychecklaw08.InvariantReduces'. -/
def invariantReducesUptoCard : Claim7 := { stood := { row := invariantReducesUptoRow, standIns := [], harness := (true, "a0195895b345bdd1e8dd410e5d5dbb5ea1531f61791ed28f0e2b185e843af8a1"), looks := false }, kinds := [], alts := [], laidByText := true, laidKinds := [.listed, .data], laidTests := true, laidLooks := .later }
def InvariantReducesUptoCardSaid : Prop := Claim7.holds Tryz.pinned (.plain (OpenSpec.upto invariantReducesSpec)) invariantReducesUptoCard
end Rows
end Go.Proofs.YtbfhebmdcpmfaaaGreatDoor
