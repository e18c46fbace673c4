/-
  DERIVED. GIVEN WITH THE SEED: THE CARDS: each row of YtifbibbicplneaaGreatDoorRows.lean that lists a variable, with what it lists TIED to the program's text (the seventh form; the later family's looks); each row that meets fmt, with fmt's text TOLD by the authors' own Lean function (tested against real Go, not proved from fmt's source: count such statements apart). THE CARD IS WHAT COUNTS. Prove the row's statement (the work); the ties are given (YtifbibbicplneaaGreatDoorTie.lean); close each card by the builder's one call (the guide's Derived/Test/ToyasCard.lean, 'card_holds'). Laid BY PROGRAM, IN A SANDBOX (cutbox-door.mjs). By AI agents, Wed Nov 11 2026. No macro, syntax, notation, axiom, sorry.
-/
import Derived.Test.YtifbibbicplneaaGreatDoorRows
import GoSem.ClaimSeven
namespace Go.Proofs.YtifbibbicplneaaGreatDoor
namespace Rows

/-- THE TIED CARD OF 'familychecklaw08.InvariantStarts'. -/
def invariantStartsCard : Claim7 := { stood := { row := invariantStartsRow, standIns := [], harness := (true, "1e69b9bfee1708fe80d95c058ecdc103ea75aa9f9e930e37f47c2016ebffc9df"), looks := false }, kinds := [], alts := [], laidByText := true, laidKinds := [.listed, .data], laidTests := true, laidLooks := .later }
def InvariantStartsCardSaid : Prop := Claim7.holds Tryz.pinned (.plain (OpenSpec.ofChange invariantStartsSpec)) invariantStartsCard

/-- THE TIED CARD OF 'familychecklaw08.InvariantSteps'. -/
def invariantStepsCard : Claim7 := { stood := { row := invariantStepsRow, standIns := [], harness := (true, "1e69b9bfee1708fe80d95c058ecdc103ea75aa9f9e930e37f47c2016ebffc9df"), looks := false }, kinds := [], alts := [], laidByText := true, laidKinds := [.listed, .data], laidTests := true, laidLooks := .later }
def InvariantStepsCardSaid : Prop := Claim7.holds Tryz.pinned (.plain (OpenSpec.ofChange invariantStepsSpec)) invariantStepsCard

/-- THE TIED CARD OF 'familychecklaw08.InvariantChecks'. -/
def invariantChecksCard : Claim7 := { stood := { row := invariantChecksRow, standIns := [], harness := (true, "1e69b9bfee1708fe80d95c058ecdc103ea75aa9f9e930e37f47c2016ebffc9df"), looks := false }, kinds := [], alts := [], laidByText := true, laidKinds := [.listed, .data], laidTests := true, laidLooks := .later }
def InvariantChecksCardSaid : Prop := Claim7.holds Tryz.pinned (.plain (OpenSpec.ofChange invariantChecksSpec)) invariantChecksCard

/-- THE TIED CARD OF 'familychecklaw08.InvariantModels'. -/
def invariantModelsCard : Claim7 := { stood := { row := invariantModelsRow, standIns := [], harness := (true, "1e69b9bfee1708fe80d95c058ecdc103ea75aa9f9e930e37f47c2016ebffc9df"), looks := false }, kinds := [], alts := [], laidByText := true, laidKinds := [.listed, .data], laidTests := true, laidLooks := .later }
def InvariantModelsCardSaid : Prop := Claim7.holds Tryz.pinned (.plain (OpenSpec.ofChange invariantModelsSpec)) invariantModelsCard

/-- THE TIED CARD OF 'familychecklaw08.InvariantElements'. -/
def invariantElementsCard : Claim7 := { stood := { row := invariantElementsRow, standIns := [], harness := (true, "1e69b9bfee1708fe80d95c058ecdc103ea75aa9f9e930e37f47c2016ebffc9df"), looks := false }, kinds := [], alts := [], laidByText := true, laidKinds := [.listed, .data], laidTests := true, laidLooks := .later }
def InvariantElementsCardSaid : Prop := Claim7.holds Tryz.pinned (.plain (OpenSpec.ofChange invariantElementsSpec)) invariantElementsCard

/-- THE TIED CARD OF 'familychecklaw08.InvariantHolds'. -/
def invariantHoldsCard : Claim7 := { stood := { row := invariantHoldsRow, standIns := [], harness := (true, "1e69b9bfee1708fe80d95c058ecdc103ea75aa9f9e930e37f47c2016ebffc9df"), looks := false }, kinds := [], alts := [], laidByText := true, laidKinds := [.listed, .data], laidTests := true, laidLooks := .later }
def InvariantHoldsCardSaid : Prop := Claim7.holds Tryz.pinned (.plain (OpenSpec.ofChange invariantHoldsSpec)) invariantHoldsCard

/-- THE TIED CARD OF 'familychecklaw08.InvariantCandidates'. -/
def invariantCandidatesCard : Claim7 := { stood := { row := invariantCandidatesRow, standIns := [], harness := (true, "1e69b9bfee1708fe80d95c058ecdc103ea75aa9f9e930e37f47c2016ebffc9df"), looks := false }, kinds := [], alts := [], laidByText := true, laidKinds := [.listed, .data], laidTests := true, laidLooks := .later }
def InvariantCandidatesCardSaid : Prop := Claim7.holds Tryz.pinned (.plain (OpenSpec.ofChange invariantCandidatesSpec)) invariantCandidatesCard

/-- THE TIED CARD OF 'familychecklaw08.InvariantMeans'. -/
def invariantMeansCard : Claim7 := { stood := { row := invariantMeansRow, standIns := [], harness := (true, "1e69b9bfee1708fe80d95c058ecdc103ea75aa9f9e930e37f47c2016ebffc9df"), looks := false }, kinds := [], alts := [], laidByText := true, laidKinds := [.listed, .data], laidTests := true, laidLooks := .later }
def InvariantMeansCardSaid : Prop := Claim7.holds Tryz.pinned (.plain (OpenSpec.ofChange invariantMeansSpec)) invariantMeansCard

/-- THE TIED CARD OF 'familychecklaw08.InvariantStrengthens'. -/
def invariantStrengthensCard : Claim7 := { stood := { row := invariantStrengthensRow, standIns := [], harness := (true, "1e69b9bfee1708fe80d95c058ecdc103ea75aa9f9e930e37f47c2016ebffc9df"), looks := false }, kinds := [], alts := [], laidByText := true, laidKinds := [.listed, .data], laidTests := true, laidLooks := .later }
def InvariantStrengthensCardSaid : Prop := Claim7.holds Tryz.pinned (.plain (OpenSpec.ofChange invariantStrengthensSpec)) invariantStrengthensCard

/-- THE TIED CARD OF 'familychecklaw08.InvariantLargest'. -/
def invariantLargestCard : Claim7 := { stood := { row := invariantLargestRow, standIns := [], harness := (true, "1e69b9bfee1708fe80d95c058ecdc103ea75aa9f9e930e37f47c2016ebffc9df"), looks := false }, kinds := [], alts := [], laidByText := true, laidKinds := [.listed, .data], laidTests := true, laidLooks := .later }
def InvariantLargestCardSaid : Prop := Claim7.holds Tryz.pinned (.plain (OpenSpec.ofChange invariantLargestSpec)) invariantLargestCard

/-- THE TIED CARD OF 'familychecklaw08.InvariantClauses'. -/
def invariantClausesCard : Claim7 := { stood := { row := invariantClausesRow, standIns := [], harness := (true, "1e69b9bfee1708fe80d95c058ecdc103ea75aa9f9e930e37f47c2016ebffc9df"), looks := false }, kinds := [], alts := [], laidByText := true, laidKinds := [.listed, .data], laidTests := true, laidLooks := .later }
def InvariantClausesCardSaid : Prop := Claim7.holds Tryz.pinned (.plain (OpenSpec.ofChange invariantClausesSpec)) invariantClausesCard

/-- THE TIED CARD OF 'familychecklaw08.InvariantFilters'. -/
def invariantFiltersCard : Claim7 := { stood := { row := invariantFiltersRow, standIns := [], harness := (true, "1e69b9bfee1708fe80d95c058ecdc103ea75aa9f9e930e37f47c2016ebffc9df"), looks := false }, kinds := [], alts := [], laidByText := true, laidKinds := [.listed, .data], laidTests := true, laidLooks := .later }
def InvariantFiltersCardSaid : Prop := Claim7.holds Tryz.pinned (.plain (OpenSpec.ofChange invariantFiltersSpec)) invariantFiltersCard

/-- THE SECOND FORM's CARD OF 'familychecklaw08.InvariantStarts'. -/
def invariantStartsUptoCard : Claim7 := { stood := { row := invariantStartsUptoRow, standIns := [], harness := (true, "1e69b9bfee1708fe80d95c058ecdc103ea75aa9f9e930e37f47c2016ebffc9df"), looks := false }, kinds := [], alts := [], laidByText := true, laidKinds := [.listed, .data], laidTests := true, laidLooks := .later }
def InvariantStartsUptoCardSaid : Prop := Claim7.holds Tryz.pinned (.plain (OpenSpec.upto invariantStartsSpec)) invariantStartsUptoCard

/-- THE SECOND FORM's CARD OF 'familychecklaw08.InvariantSteps'. -/
def invariantStepsUptoCard : Claim7 := { stood := { row := invariantStepsUptoRow, standIns := [], harness := (true, "1e69b9bfee1708fe80d95c058ecdc103ea75aa9f9e930e37f47c2016ebffc9df"), looks := false }, kinds := [], alts := [], laidByText := true, laidKinds := [.listed, .data], laidTests := true, laidLooks := .later }
def InvariantStepsUptoCardSaid : Prop := Claim7.holds Tryz.pinned (.plain (OpenSpec.upto invariantStepsSpec)) invariantStepsUptoCard

/-- THE SECOND FORM's CARD OF 'familychecklaw08.InvariantChecks'. -/
def invariantChecksUptoCard : Claim7 := { stood := { row := invariantChecksUptoRow, standIns := [], harness := (true, "1e69b9bfee1708fe80d95c058ecdc103ea75aa9f9e930e37f47c2016ebffc9df"), looks := false }, kinds := [], alts := [], laidByText := true, laidKinds := [.listed, .data], laidTests := true, laidLooks := .later }
def InvariantChecksUptoCardSaid : Prop := Claim7.holds Tryz.pinned (.plain (OpenSpec.upto invariantChecksSpec)) invariantChecksUptoCard

/-- THE SECOND FORM's CARD OF 'familychecklaw08.InvariantModels'. -/
def invariantModelsUptoCard : Claim7 := { stood := { row := invariantModelsUptoRow, standIns := [], harness := (true, "1e69b9bfee1708fe80d95c058ecdc103ea75aa9f9e930e37f47c2016ebffc9df"), looks := false }, kinds := [], alts := [], laidByText := true, laidKinds := [.listed, .data], laidTests := true, laidLooks := .later }
def InvariantModelsUptoCardSaid : Prop := Claim7.holds Tryz.pinned (.plain (OpenSpec.upto invariantModelsSpec)) invariantModelsUptoCard

/-- THE SECOND FORM's CARD OF 'familychecklaw08.InvariantElements'. -/
def invariantElementsUptoCard : Claim7 := { stood := { row := invariantElementsUptoRow, standIns := [], harness := (true, "1e69b9bfee1708fe80d95c058ecdc103ea75aa9f9e930e37f47c2016ebffc9df"), looks := false }, kinds := [], alts := [], laidByText := true, laidKinds := [.listed, .data], laidTests := true, laidLooks := .later }
def InvariantElementsUptoCardSaid : Prop := Claim7.holds Tryz.pinned (.plain (OpenSpec.upto invariantElementsSpec)) invariantElementsUptoCard

/-- THE SECOND FORM's CARD OF 'familychecklaw08.InvariantHolds'. -/
def invariantHoldsUptoCard : Claim7 := { stood := { row := invariantHoldsUptoRow, standIns := [], harness := (true, "1e69b9bfee1708fe80d95c058ecdc103ea75aa9f9e930e37f47c2016ebffc9df"), looks := false }, kinds := [], alts := [], laidByText := true, laidKinds := [.listed, .data], laidTests := true, laidLooks := .later }
def InvariantHoldsUptoCardSaid : Prop := Claim7.holds Tryz.pinned (.plain (OpenSpec.upto invariantHoldsSpec)) invariantHoldsUptoCard

/-- THE SECOND FORM's CARD OF 'familychecklaw08.InvariantCandidates'. -/
def invariantCandidatesUptoCard : Claim7 := { stood := { row := invariantCandidatesUptoRow, standIns := [], harness := (true, "1e69b9bfee1708fe80d95c058ecdc103ea75aa9f9e930e37f47c2016ebffc9df"), looks := false }, kinds := [], alts := [], laidByText := true, laidKinds := [.listed, .data], laidTests := true, laidLooks := .later }
def InvariantCandidatesUptoCardSaid : Prop := Claim7.holds Tryz.pinned (.plain (OpenSpec.upto invariantCandidatesSpec)) invariantCandidatesUptoCard

/-- THE SECOND FORM's CARD OF 'familychecklaw08.InvariantMeans'. -/
def invariantMeansUptoCard : Claim7 := { stood := { row := invariantMeansUptoRow, standIns := [], harness := (true, "1e69b9bfee1708fe80d95c058ecdc103ea75aa9f9e930e37f47c2016ebffc9df"), looks := false }, kinds := [], alts := [], laidByText := true, laidKinds := [.listed, .data], laidTests := true, laidLooks := .later }
def InvariantMeansUptoCardSaid : Prop := Claim7.holds Tryz.pinned (.plain (OpenSpec.upto invariantMeansSpec)) invariantMeansUptoCard

/-- THE SECOND FORM's CARD OF 'familychecklaw08.InvariantStrengthens'. -/
def invariantStrengthensUptoCard : Claim7 := { stood := { row := invariantStrengthensUptoRow, standIns := [], harness := (true, "1e69b9bfee1708fe80d95c058ecdc103ea75aa9f9e930e37f47c2016ebffc9df"), looks := false }, kinds := [], alts := [], laidByText := true, laidKinds := [.listed, .data], laidTests := true, laidLooks := .later }
def InvariantStrengthensUptoCardSaid : Prop := Claim7.holds Tryz.pinned (.plain (OpenSpec.upto invariantStrengthensSpec)) invariantStrengthensUptoCard

/-- THE SECOND FORM's CARD OF 'familychecklaw08.InvariantLargest'. -/
def invariantLargestUptoCard : Claim7 := { stood := { row := invariantLargestUptoRow, standIns := [], harness := (true, "1e69b9bfee1708fe80d95c058ecdc103ea75aa9f9e930e37f47c2016ebffc9df"), looks := false }, kinds := [], alts := [], laidByText := true, laidKinds := [.listed, .data], laidTests := true, laidLooks := .later }
def InvariantLargestUptoCardSaid : Prop := Claim7.holds Tryz.pinned (.plain (OpenSpec.upto invariantLargestSpec)) invariantLargestUptoCard

/-- THE SECOND FORM's CARD OF 'familychecklaw08.InvariantClauses'. -/
def invariantClausesUptoCard : Claim7 := { stood := { row := invariantClausesUptoRow, standIns := [], harness := (true, "1e69b9bfee1708fe80d95c058ecdc103ea75aa9f9e930e37f47c2016ebffc9df"), looks := false }, kinds := [], alts := [], laidByText := true, laidKinds := [.listed, .data], laidTests := true, laidLooks := .later }
def InvariantClausesUptoCardSaid : Prop := Claim7.holds Tryz.pinned (.plain (OpenSpec.upto invariantClausesSpec)) invariantClausesUptoCard

/-- THE SECOND FORM's CARD OF 'familychecklaw08.InvariantFilters'. -/
def invariantFiltersUptoCard : Claim7 := { stood := { row := invariantFiltersUptoRow, standIns := [], harness := (true, "1e69b9bfee1708fe80d95c058ecdc103ea75aa9f9e930e37f47c2016ebffc9df"), looks := false }, kinds := [], alts := [], laidByText := true, laidKinds := [.listed, .data], laidTests := true, laidLooks := .later }
def InvariantFiltersUptoCardSaid : Prop := Claim7.holds Tryz.pinned (.plain (OpenSpec.upto invariantFiltersSpec)) invariantFiltersUptoCard
end Rows
end Go.Proofs.YtifbibbicplneaaGreatDoor
