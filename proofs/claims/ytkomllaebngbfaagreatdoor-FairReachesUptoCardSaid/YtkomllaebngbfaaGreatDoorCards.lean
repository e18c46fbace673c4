/-
  DERIVED. GIVEN WITH THE SEED: THE CARDS: each row of YtkomllaebngbfaaGreatDoorRows.lean that lists a variable, with what it lists TIED to the program's text (the seventh form; the later family's looks); each row that meets fmt, with fmt's text TOLD by the authors' own Lean function (tested against real Go, not proved from fmt's source: count such statements apart). THE CARD IS WHAT COUNTS. Prove the row's statement (the work); the ties are given (YtkomllaebngbfaaGreatDoorTie.lean); close each card by the builder's one call (the guide's Derived/Test/ToyasCard.lean, 'card_holds'). Laid BY PROGRAM, IN A SANDBOX (cutbox-door.mjs). By AI agents, Wed Nov 11 2026. No macro, syntax, notation, axiom, sorry.
-/
import Derived.Test.YtkomllaebngbfaaGreatDoorRows
import GoSem.ClaimSeven
namespace Go.Proofs.YtkomllaebngbfaaGreatDoor
namespace Rows

/-- THE TIED CARD OF 'familychecklaw09.FairChecks'. -/
def fairChecksCard : Claim7 := { stood := { row := fairChecksRow, standIns := [], harness := (true, "bf0dcd2c6ea37b9a2a97b1515772fb37fb33087bce1b14ba12f5cc4b4e0cd1e4"), looks := false }, kinds := [], alts := [], laidByText := true, laidKinds := [.listed, .data], laidTests := true, laidLooks := .later }
def FairChecksCardSaid : Prop := Claim7.holds Tryz.pinned (.plain (OpenSpec.ofChange fairChecksSpec)) fairChecksCard

/-- THE TIED CARD OF 'familychecklaw09.FairFinds'. -/
def fairFindsCard : Claim7 := { stood := { row := fairFindsRow, standIns := [], harness := (true, "bf0dcd2c6ea37b9a2a97b1515772fb37fb33087bce1b14ba12f5cc4b4e0cd1e4"), looks := false }, kinds := [], alts := [], laidByText := true, laidKinds := [.listed, .data], laidTests := true, laidLooks := .later }
def FairFindsCardSaid : Prop := Claim7.holds Tryz.pinned (.plain (OpenSpec.ofChange fairFindsSpec)) fairFindsCard

/-- THE TIED CARD OF 'familychecklaw09.FairScales'. -/
def fairScalesCard : Claim7 := { stood := { row := fairScalesRow, standIns := [], harness := (true, "bf0dcd2c6ea37b9a2a97b1515772fb37fb33087bce1b14ba12f5cc4b4e0cd1e4"), looks := false }, kinds := [], alts := [], laidByText := true, laidKinds := [.listed, .data], laidTests := true, laidLooks := .later }
def FairScalesCardSaid : Prop := Claim7.holds Tryz.pinned (.plain (OpenSpec.ofChange fairScalesSpec)) fairScalesCard

/-- THE TIED CARD OF 'familychecklaw09.FairGoals'. -/
def fairGoalsCard : Claim7 := { stood := { row := fairGoalsRow, standIns := [], harness := (true, "bf0dcd2c6ea37b9a2a97b1515772fb37fb33087bce1b14ba12f5cc4b4e0cd1e4"), looks := false }, kinds := [], alts := [], laidByText := true, laidKinds := [.listed, .data], laidTests := true, laidLooks := .later }
def FairGoalsCardSaid : Prop := Claim7.holds Tryz.pinned (.plain (OpenSpec.ofChange fairGoalsSpec)) fairGoalsCard

/-- THE TIED CARD OF 'familychecklaw09.FairStarts'. -/
def fairStartsCard : Claim7 := { stood := { row := fairStartsRow, standIns := [], harness := (true, "bf0dcd2c6ea37b9a2a97b1515772fb37fb33087bce1b14ba12f5cc4b4e0cd1e4"), looks := false }, kinds := [], alts := [], laidByText := true, laidKinds := [.listed, .data], laidTests := true, laidLooks := .later }
def FairStartsCardSaid : Prop := Claim7.holds Tryz.pinned (.plain (OpenSpec.ofChange fairStartsSpec)) fairStartsCard

/-- THE TIED CARD OF 'familychecklaw09.FairPosts'. -/
def fairPostsCard : Claim7 := { stood := { row := fairPostsRow, standIns := [], harness := (true, "bf0dcd2c6ea37b9a2a97b1515772fb37fb33087bce1b14ba12f5cc4b4e0cd1e4"), looks := false }, kinds := [], alts := [], laidByText := true, laidKinds := [.listed, .data], laidTests := true, laidLooks := .later }
def FairPostsCardSaid : Prop := Claim7.holds Tryz.pinned (.plain (OpenSpec.ofChange fairPostsSpec)) fairPostsCard

/-- THE TIED CARD OF 'familychecklaw09.FairReaches'. -/
def fairReachesCard : Claim7 := { stood := { row := fairReachesRow, standIns := [], harness := (true, "bf0dcd2c6ea37b9a2a97b1515772fb37fb33087bce1b14ba12f5cc4b4e0cd1e4"), looks := false }, kinds := [], alts := [], laidByText := true, laidKinds := [.listed, .data], laidTests := true, laidLooks := .later }
def FairReachesCardSaid : Prop := Claim7.holds Tryz.pinned (.plain (OpenSpec.ofChange fairReachesSpec)) fairReachesCard

/-- THE TIED CARD OF 'familychecklaw09.FairHelps'. -/
def fairHelpsCard : Claim7 := { stood := { row := fairHelpsRow, standIns := [], harness := (true, "bf0dcd2c6ea37b9a2a97b1515772fb37fb33087bce1b14ba12f5cc4b4e0cd1e4"), looks := false }, kinds := [], alts := [], laidByText := true, laidKinds := [.listed, .data], laidTests := true, laidLooks := .later }
def FairHelpsCardSaid : Prop := Claim7.holds Tryz.pinned (.plain (OpenSpec.ofChange fairHelpsSpec)) fairHelpsCard

/-- THE TIED CARD OF 'familychecklaw09.FairSimulates'. -/
def fairSimulatesCard : Claim7 := { stood := { row := fairSimulatesRow, standIns := [], harness := (true, "bf0dcd2c6ea37b9a2a97b1515772fb37fb33087bce1b14ba12f5cc4b4e0cd1e4"), looks := false }, kinds := [], alts := [], laidByText := true, laidKinds := [.listed, .data], laidTests := true, laidLooks := .later }
def FairSimulatesCardSaid : Prop := Claim7.holds Tryz.pinned (.plain (OpenSpec.ofChange fairSimulatesSpec)) fairSimulatesCard

/-- THE TIED CARD OF 'familychecklaw09.FairStates'. -/
def fairStatesCard : Claim7 := { stood := { row := fairStatesRow, standIns := [], harness := (true, "bf0dcd2c6ea37b9a2a97b1515772fb37fb33087bce1b14ba12f5cc4b4e0cd1e4"), looks := false }, kinds := [], alts := [], laidByText := true, laidKinds := [.listed, .data], laidTests := true, laidLooks := .later }
def FairStatesCardSaid : Prop := Claim7.holds Tryz.pinned (.plain (OpenSpec.ofChange fairStatesSpec)) fairStatesCard

/-- THE TIED CARD OF 'familychecklaw09.FairTight'. -/
def fairTightCard : Claim7 := { stood := { row := fairTightRow, standIns := [], harness := (true, "bf0dcd2c6ea37b9a2a97b1515772fb37fb33087bce1b14ba12f5cc4b4e0cd1e4"), looks := false }, kinds := [], alts := [], laidByText := true, laidKinds := [.listed, .data], laidTests := true, laidLooks := .later }
def FairTightCardSaid : Prop := Claim7.holds Tryz.pinned (.plain (OpenSpec.ofChange fairTightSpec)) fairTightCard

/-- THE TIED CARD OF 'familychecklaw09.FairSafe'. -/
def fairSafeCard : Claim7 := { stood := { row := fairSafeRow, standIns := [], harness := (true, "bf0dcd2c6ea37b9a2a97b1515772fb37fb33087bce1b14ba12f5cc4b4e0cd1e4"), looks := false }, kinds := [], alts := [], laidByText := true, laidKinds := [.listed, .data], laidTests := true, laidLooks := .later }
def FairSafeCardSaid : Prop := Claim7.holds Tryz.pinned (.plain (OpenSpec.ofChange fairSafeSpec)) fairSafeCard

/-- THE TIED CARD OF 'familychecklaw09.FairDescends'. -/
def fairDescendsCard : Claim7 := { stood := { row := fairDescendsRow, standIns := [], harness := (true, "bf0dcd2c6ea37b9a2a97b1515772fb37fb33087bce1b14ba12f5cc4b4e0cd1e4"), looks := false }, kinds := [], alts := [], laidByText := true, laidKinds := [.listed, .data], laidTests := true, laidLooks := .later }
def FairDescendsCardSaid : Prop := Claim7.holds Tryz.pinned (.plain (OpenSpec.ofChange fairDescendsSpec)) fairDescendsCard

/-- THE TIED CARD OF 'familychecklaw09.FairWeighs'. -/
def fairWeighsCard : Claim7 := { stood := { row := fairWeighsRow, standIns := [], harness := (true, "bf0dcd2c6ea37b9a2a97b1515772fb37fb33087bce1b14ba12f5cc4b4e0cd1e4"), looks := false }, kinds := [], alts := [], laidByText := true, laidKinds := [.listed, .data], laidTests := true, laidLooks := .later }
def FairWeighsCardSaid : Prop := Claim7.holds Tryz.pinned (.plain (OpenSpec.ofChange fairWeighsSpec)) fairWeighsCard

/-- THE SECOND FORM's CARD OF 'familychecklaw09.FairChecks'. -/
def fairChecksUptoCard : Claim7 := { stood := { row := fairChecksUptoRow, standIns := [], harness := (true, "bf0dcd2c6ea37b9a2a97b1515772fb37fb33087bce1b14ba12f5cc4b4e0cd1e4"), looks := false }, kinds := [], alts := [], laidByText := true, laidKinds := [.listed, .data], laidTests := true, laidLooks := .later }
def FairChecksUptoCardSaid : Prop := Claim7.holds Tryz.pinned (.plain (OpenSpec.upto fairChecksSpec)) fairChecksUptoCard

/-- THE SECOND FORM's CARD OF 'familychecklaw09.FairFinds'. -/
def fairFindsUptoCard : Claim7 := { stood := { row := fairFindsUptoRow, standIns := [], harness := (true, "bf0dcd2c6ea37b9a2a97b1515772fb37fb33087bce1b14ba12f5cc4b4e0cd1e4"), looks := false }, kinds := [], alts := [], laidByText := true, laidKinds := [.listed, .data], laidTests := true, laidLooks := .later }
def FairFindsUptoCardSaid : Prop := Claim7.holds Tryz.pinned (.plain (OpenSpec.upto fairFindsSpec)) fairFindsUptoCard

/-- THE SECOND FORM's CARD OF 'familychecklaw09.FairScales'. -/
def fairScalesUptoCard : Claim7 := { stood := { row := fairScalesUptoRow, standIns := [], harness := (true, "bf0dcd2c6ea37b9a2a97b1515772fb37fb33087bce1b14ba12f5cc4b4e0cd1e4"), looks := false }, kinds := [], alts := [], laidByText := true, laidKinds := [.listed, .data], laidTests := true, laidLooks := .later }
def FairScalesUptoCardSaid : Prop := Claim7.holds Tryz.pinned (.plain (OpenSpec.upto fairScalesSpec)) fairScalesUptoCard

/-- THE SECOND FORM's CARD OF 'familychecklaw09.FairGoals'. -/
def fairGoalsUptoCard : Claim7 := { stood := { row := fairGoalsUptoRow, standIns := [], harness := (true, "bf0dcd2c6ea37b9a2a97b1515772fb37fb33087bce1b14ba12f5cc4b4e0cd1e4"), looks := false }, kinds := [], alts := [], laidByText := true, laidKinds := [.listed, .data], laidTests := true, laidLooks := .later }
def FairGoalsUptoCardSaid : Prop := Claim7.holds Tryz.pinned (.plain (OpenSpec.upto fairGoalsSpec)) fairGoalsUptoCard

/-- THE SECOND FORM's CARD OF 'familychecklaw09.FairStarts'. -/
def fairStartsUptoCard : Claim7 := { stood := { row := fairStartsUptoRow, standIns := [], harness := (true, "bf0dcd2c6ea37b9a2a97b1515772fb37fb33087bce1b14ba12f5cc4b4e0cd1e4"), looks := false }, kinds := [], alts := [], laidByText := true, laidKinds := [.listed, .data], laidTests := true, laidLooks := .later }
def FairStartsUptoCardSaid : Prop := Claim7.holds Tryz.pinned (.plain (OpenSpec.upto fairStartsSpec)) fairStartsUptoCard

/-- THE SECOND FORM's CARD OF 'familychecklaw09.FairPosts'. -/
def fairPostsUptoCard : Claim7 := { stood := { row := fairPostsUptoRow, standIns := [], harness := (true, "bf0dcd2c6ea37b9a2a97b1515772fb37fb33087bce1b14ba12f5cc4b4e0cd1e4"), looks := false }, kinds := [], alts := [], laidByText := true, laidKinds := [.listed, .data], laidTests := true, laidLooks := .later }
def FairPostsUptoCardSaid : Prop := Claim7.holds Tryz.pinned (.plain (OpenSpec.upto fairPostsSpec)) fairPostsUptoCard

/-- THE SECOND FORM's CARD OF 'familychecklaw09.FairReaches'. -/
def fairReachesUptoCard : Claim7 := { stood := { row := fairReachesUptoRow, standIns := [], harness := (true, "bf0dcd2c6ea37b9a2a97b1515772fb37fb33087bce1b14ba12f5cc4b4e0cd1e4"), looks := false }, kinds := [], alts := [], laidByText := true, laidKinds := [.listed, .data], laidTests := true, laidLooks := .later }
def FairReachesUptoCardSaid : Prop := Claim7.holds Tryz.pinned (.plain (OpenSpec.upto fairReachesSpec)) fairReachesUptoCard

/-- THE SECOND FORM's CARD OF 'familychecklaw09.FairHelps'. -/
def fairHelpsUptoCard : Claim7 := { stood := { row := fairHelpsUptoRow, standIns := [], harness := (true, "bf0dcd2c6ea37b9a2a97b1515772fb37fb33087bce1b14ba12f5cc4b4e0cd1e4"), looks := false }, kinds := [], alts := [], laidByText := true, laidKinds := [.listed, .data], laidTests := true, laidLooks := .later }
def FairHelpsUptoCardSaid : Prop := Claim7.holds Tryz.pinned (.plain (OpenSpec.upto fairHelpsSpec)) fairHelpsUptoCard

/-- THE SECOND FORM's CARD OF 'familychecklaw09.FairSimulates'. -/
def fairSimulatesUptoCard : Claim7 := { stood := { row := fairSimulatesUptoRow, standIns := [], harness := (true, "bf0dcd2c6ea37b9a2a97b1515772fb37fb33087bce1b14ba12f5cc4b4e0cd1e4"), looks := false }, kinds := [], alts := [], laidByText := true, laidKinds := [.listed, .data], laidTests := true, laidLooks := .later }
def FairSimulatesUptoCardSaid : Prop := Claim7.holds Tryz.pinned (.plain (OpenSpec.upto fairSimulatesSpec)) fairSimulatesUptoCard

/-- THE SECOND FORM's CARD OF 'familychecklaw09.FairStates'. -/
def fairStatesUptoCard : Claim7 := { stood := { row := fairStatesUptoRow, standIns := [], harness := (true, "bf0dcd2c6ea37b9a2a97b1515772fb37fb33087bce1b14ba12f5cc4b4e0cd1e4"), looks := false }, kinds := [], alts := [], laidByText := true, laidKinds := [.listed, .data], laidTests := true, laidLooks := .later }
def FairStatesUptoCardSaid : Prop := Claim7.holds Tryz.pinned (.plain (OpenSpec.upto fairStatesSpec)) fairStatesUptoCard

/-- THE SECOND FORM's CARD OF 'familychecklaw09.FairTight'. -/
def fairTightUptoCard : Claim7 := { stood := { row := fairTightUptoRow, standIns := [], harness := (true, "bf0dcd2c6ea37b9a2a97b1515772fb37fb33087bce1b14ba12f5cc4b4e0cd1e4"), looks := false }, kinds := [], alts := [], laidByText := true, laidKinds := [.listed, .data], laidTests := true, laidLooks := .later }
def FairTightUptoCardSaid : Prop := Claim7.holds Tryz.pinned (.plain (OpenSpec.upto fairTightSpec)) fairTightUptoCard

/-- THE SECOND FORM's CARD OF 'familychecklaw09.FairSafe'. -/
def fairSafeUptoCard : Claim7 := { stood := { row := fairSafeUptoRow, standIns := [], harness := (true, "bf0dcd2c6ea37b9a2a97b1515772fb37fb33087bce1b14ba12f5cc4b4e0cd1e4"), looks := false }, kinds := [], alts := [], laidByText := true, laidKinds := [.listed, .data], laidTests := true, laidLooks := .later }
def FairSafeUptoCardSaid : Prop := Claim7.holds Tryz.pinned (.plain (OpenSpec.upto fairSafeSpec)) fairSafeUptoCard

/-- THE SECOND FORM's CARD OF 'familychecklaw09.FairDescends'. -/
def fairDescendsUptoCard : Claim7 := { stood := { row := fairDescendsUptoRow, standIns := [], harness := (true, "bf0dcd2c6ea37b9a2a97b1515772fb37fb33087bce1b14ba12f5cc4b4e0cd1e4"), looks := false }, kinds := [], alts := [], laidByText := true, laidKinds := [.listed, .data], laidTests := true, laidLooks := .later }
def FairDescendsUptoCardSaid : Prop := Claim7.holds Tryz.pinned (.plain (OpenSpec.upto fairDescendsSpec)) fairDescendsUptoCard

/-- THE SECOND FORM's CARD OF 'familychecklaw09.FairWeighs'. -/
def fairWeighsUptoCard : Claim7 := { stood := { row := fairWeighsUptoRow, standIns := [], harness := (true, "bf0dcd2c6ea37b9a2a97b1515772fb37fb33087bce1b14ba12f5cc4b4e0cd1e4"), looks := false }, kinds := [], alts := [], laidByText := true, laidKinds := [.listed, .data], laidTests := true, laidLooks := .later }
def FairWeighsUptoCardSaid : Prop := Claim7.holds Tryz.pinned (.plain (OpenSpec.upto fairWeighsSpec)) fairWeighsUptoCard
end Rows
end Go.Proofs.YtkomllaebngbfaaGreatDoor
