/-
  DERIVED. GIVEN WITH THE SEED: THE CARDS: each row of YtkmldgihhaooaaaGreatDoorRows.lean that lists a variable, with what it lists TIED to the program's text (the seventh form; the later family's looks); each row that meets fmt, with fmt's text TOLD by the authors' own Lean function (tested against real Go, not proved from fmt's source: count such statements apart). THE CARD IS WHAT COUNTS. Prove the row's statement (the work); the ties are given (YtkmldgihhaooaaaGreatDoorTie.lean); close each card by the builder's one call (the guide's Derived/Test/ToyasCard.lean, 'card_holds'). Laid BY PROGRAM, IN A SANDBOX (cutbox-door.mjs). By AI agents, Wed Nov 11 2026. No macro, syntax, notation, axiom, sorry.
-/
import Derived.Test.YtkmldgihhaooaaaGreatDoorRows
import GoSem.ClaimSeven
namespace Go.Proofs.YtkmldgihhaooaaaGreatDoor
namespace Rows

/-- THE TIED CARD OF 'familychecklaw05.CoverChecks'. -/
def coverChecksCard : Claim7 := { stood := { row := coverChecksRow, standIns := [], harness := (true, "fa5edaac6e0d89fbc3339c53251f132dc86f41345b0098a2d26ab53d0edaf1f8"), looks := false }, kinds := [], alts := [], laidByText := true, laidKinds := [.listed, .data], laidTests := true, laidLooks := .later }
def CoverChecksCardSaid : Prop := Claim7.holds Tryz.pinned (.plain (OpenSpec.ofChange coverChecksSpec)) coverChecksCard

/-- THE TIED CARD OF 'familychecklaw05.CoverFewerRules'. -/
def coverFewerRulesCard : Claim7 := { stood := { row := coverFewerRulesRow, standIns := [], harness := (true, "fa5edaac6e0d89fbc3339c53251f132dc86f41345b0098a2d26ab53d0edaf1f8"), looks := false }, kinds := [], alts := [], laidByText := true, laidKinds := [.listed, .data], laidTests := true, laidLooks := .later }
def CoverFewerRulesCardSaid : Prop := Claim7.holds Tryz.pinned (.plain (OpenSpec.ofChange coverFewerRulesSpec)) coverFewerRulesCard

/-- THE TIED CARD OF 'familychecklaw05.CoverFewerStarts'. -/
def coverFewerStartsCard : Claim7 := { stood := { row := coverFewerStartsRow, standIns := [], harness := (true, "fa5edaac6e0d89fbc3339c53251f132dc86f41345b0098a2d26ab53d0edaf1f8"), looks := false }, kinds := [], alts := [], laidByText := true, laidKinds := [.listed, .data], laidTests := true, laidLooks := .later }
def CoverFewerStartsCardSaid : Prop := Claim7.holds Tryz.pinned (.plain (OpenSpec.ofChange coverFewerStartsSpec)) coverFewerStartsCard

/-- THE TIED CARD OF 'familychecklaw05.CoverPres'. -/
def coverPresCard : Claim7 := { stood := { row := coverPresRow, standIns := [], harness := (true, "fa5edaac6e0d89fbc3339c53251f132dc86f41345b0098a2d26ab53d0edaf1f8"), looks := false }, kinds := [], alts := [], laidByText := true, laidKinds := [.listed, .data], laidTests := true, laidLooks := .later }
def CoverPresCardSaid : Prop := Claim7.holds Tryz.pinned (.plain (OpenSpec.ofChange coverPresSpec)) coverPresCard

/-- THE TIED CARD OF 'familychecklaw05.CoverBackward'. -/
def coverBackwardCard : Claim7 := { stood := { row := coverBackwardRow, standIns := [], harness := (true, "fa5edaac6e0d89fbc3339c53251f132dc86f41345b0098a2d26ab53d0edaf1f8"), looks := false }, kinds := [], alts := [], laidByText := true, laidKinds := [.listed, .data], laidTests := true, laidLooks := .later }
def CoverBackwardCardSaid : Prop := Claim7.holds Tryz.pinned (.plain (OpenSpec.ofChange coverBackwardSpec)) coverBackwardCard

/-- THE TIED CARD OF 'familychecklaw05.CoverSolves'. -/
def coverSolvesCard : Claim7 := { stood := { row := coverSolvesRow, standIns := [], harness := (true, "fa5edaac6e0d89fbc3339c53251f132dc86f41345b0098a2d26ab53d0edaf1f8"), looks := false }, kinds := [], alts := [], laidByText := true, laidKinds := [.listed, .data], laidTests := true, laidLooks := .later }
def CoverSolvesCardSaid : Prop := Claim7.holds Tryz.pinned (.plain (OpenSpec.ofChange coverSolvesSpec)) coverSolvesCard

/-- THE TIED CARD OF 'familychecklaw05.CoverClosed'. -/
def coverClosedCard : Claim7 := { stood := { row := coverClosedRow, standIns := [], harness := (true, "fa5edaac6e0d89fbc3339c53251f132dc86f41345b0098a2d26ab53d0edaf1f8"), looks := false }, kinds := [], alts := [], laidByText := true, laidKinds := [.listed, .data], laidTests := true, laidLooks := .later }
def CoverClosedCardSaid : Prop := Claim7.holds Tryz.pinned (.plain (OpenSpec.ofChange coverClosedSpec)) coverClosedCard

/-- THE TIED CARD OF 'familychecklaw05.CoverAdjoint'. -/
def coverAdjointCard : Claim7 := { stood := { row := coverAdjointRow, standIns := [], harness := (true, "fa5edaac6e0d89fbc3339c53251f132dc86f41345b0098a2d26ab53d0edaf1f8"), looks := false }, kinds := [], alts := [], laidByText := true, laidKinds := [.listed, .data], laidTests := true, laidLooks := .later }
def CoverAdjointCardSaid : Prop := Claim7.holds Tryz.pinned (.plain (OpenSpec.ofChange coverAdjointSpec)) coverAdjointCard

/-- THE SECOND FORM's CARD OF 'familychecklaw05.CoverChecks'. -/
def coverChecksUptoCard : Claim7 := { stood := { row := coverChecksUptoRow, standIns := [], harness := (true, "fa5edaac6e0d89fbc3339c53251f132dc86f41345b0098a2d26ab53d0edaf1f8"), looks := false }, kinds := [], alts := [], laidByText := true, laidKinds := [.listed, .data], laidTests := true, laidLooks := .later }
def CoverChecksUptoCardSaid : Prop := Claim7.holds Tryz.pinned (.plain (OpenSpec.upto coverChecksSpec)) coverChecksUptoCard

/-- THE SECOND FORM's CARD OF 'familychecklaw05.CoverFewerRules'. -/
def coverFewerRulesUptoCard : Claim7 := { stood := { row := coverFewerRulesUptoRow, standIns := [], harness := (true, "fa5edaac6e0d89fbc3339c53251f132dc86f41345b0098a2d26ab53d0edaf1f8"), looks := false }, kinds := [], alts := [], laidByText := true, laidKinds := [.listed, .data], laidTests := true, laidLooks := .later }
def CoverFewerRulesUptoCardSaid : Prop := Claim7.holds Tryz.pinned (.plain (OpenSpec.upto coverFewerRulesSpec)) coverFewerRulesUptoCard

/-- THE SECOND FORM's CARD OF 'familychecklaw05.CoverFewerStarts'. -/
def coverFewerStartsUptoCard : Claim7 := { stood := { row := coverFewerStartsUptoRow, standIns := [], harness := (true, "fa5edaac6e0d89fbc3339c53251f132dc86f41345b0098a2d26ab53d0edaf1f8"), looks := false }, kinds := [], alts := [], laidByText := true, laidKinds := [.listed, .data], laidTests := true, laidLooks := .later }
def CoverFewerStartsUptoCardSaid : Prop := Claim7.holds Tryz.pinned (.plain (OpenSpec.upto coverFewerStartsSpec)) coverFewerStartsUptoCard

/-- THE SECOND FORM's CARD OF 'familychecklaw05.CoverPres'. -/
def coverPresUptoCard : Claim7 := { stood := { row := coverPresUptoRow, standIns := [], harness := (true, "fa5edaac6e0d89fbc3339c53251f132dc86f41345b0098a2d26ab53d0edaf1f8"), looks := false }, kinds := [], alts := [], laidByText := true, laidKinds := [.listed, .data], laidTests := true, laidLooks := .later }
def CoverPresUptoCardSaid : Prop := Claim7.holds Tryz.pinned (.plain (OpenSpec.upto coverPresSpec)) coverPresUptoCard

/-- THE SECOND FORM's CARD OF 'familychecklaw05.CoverBackward'. -/
def coverBackwardUptoCard : Claim7 := { stood := { row := coverBackwardUptoRow, standIns := [], harness := (true, "fa5edaac6e0d89fbc3339c53251f132dc86f41345b0098a2d26ab53d0edaf1f8"), looks := false }, kinds := [], alts := [], laidByText := true, laidKinds := [.listed, .data], laidTests := true, laidLooks := .later }
def CoverBackwardUptoCardSaid : Prop := Claim7.holds Tryz.pinned (.plain (OpenSpec.upto coverBackwardSpec)) coverBackwardUptoCard

/-- THE SECOND FORM's CARD OF 'familychecklaw05.CoverSolves'. -/
def coverSolvesUptoCard : Claim7 := { stood := { row := coverSolvesUptoRow, standIns := [], harness := (true, "fa5edaac6e0d89fbc3339c53251f132dc86f41345b0098a2d26ab53d0edaf1f8"), looks := false }, kinds := [], alts := [], laidByText := true, laidKinds := [.listed, .data], laidTests := true, laidLooks := .later }
def CoverSolvesUptoCardSaid : Prop := Claim7.holds Tryz.pinned (.plain (OpenSpec.upto coverSolvesSpec)) coverSolvesUptoCard

/-- THE SECOND FORM's CARD OF 'familychecklaw05.CoverClosed'. -/
def coverClosedUptoCard : Claim7 := { stood := { row := coverClosedUptoRow, standIns := [], harness := (true, "fa5edaac6e0d89fbc3339c53251f132dc86f41345b0098a2d26ab53d0edaf1f8"), looks := false }, kinds := [], alts := [], laidByText := true, laidKinds := [.listed, .data], laidTests := true, laidLooks := .later }
def CoverClosedUptoCardSaid : Prop := Claim7.holds Tryz.pinned (.plain (OpenSpec.upto coverClosedSpec)) coverClosedUptoCard

/-- THE SECOND FORM's CARD OF 'familychecklaw05.CoverAdjoint'. -/
def coverAdjointUptoCard : Claim7 := { stood := { row := coverAdjointUptoRow, standIns := [], harness := (true, "fa5edaac6e0d89fbc3339c53251f132dc86f41345b0098a2d26ab53d0edaf1f8"), looks := false }, kinds := [], alts := [], laidByText := true, laidKinds := [.listed, .data], laidTests := true, laidLooks := .later }
def CoverAdjointUptoCardSaid : Prop := Claim7.holds Tryz.pinned (.plain (OpenSpec.upto coverAdjointSpec)) coverAdjointUptoCard
end Rows
end Go.Proofs.YtkmldgihhaooaaaGreatDoor
