/-
  DERIVED. GIVEN WITH THE SEED: THE CARDS: each row of YtajmbgljnaljiaaGreatDoorRows.lean that lists a variable, with what it lists TIED to the program's text (the seventh form; the later family's looks); each row that meets fmt, with fmt's text TOLD by the authors' own Lean function (tested against real Go, not proved from fmt's source: count such statements apart). THE CARD IS WHAT COUNTS. Prove the row's statement (the work); the ties are given (YtajmbgljnaljiaaGreatDoorTie.lean); close each card by the builder's one call (the guide's Derived/Test/ToyasCard.lean, 'card_holds'). Laid BY PROGRAM, IN A SANDBOX (cutbox-door.mjs). By AI agents, Wed Nov 11 2026. No macro, syntax, notation, axiom, sorry.
-/
import Derived.Test.YtajmbgljnaljiaaGreatDoorRows
import GoSem.ClaimSeven
namespace Go.Proofs.YtajmbgljnaljiaaGreatDoor
namespace Rows

/-- THE TIED CARD OF 'familychecklaw09.FairSafe'. -/
def fairSafeCard : Claim7 := { stood := { row := fairSafeRow, standIns := [], harness := (true, "5e35579a0d1c2dbae8404932b69e32c03370c0f1f437c980ba74911bc4c28d2b"), looks := false }, kinds := [], alts := [], laidByText := true, laidKinds := [.listed, .data], laidTests := true, laidLooks := .later }
def FairSafeCardSaid : Prop := Claim7.holds Tryz.pinned (.plain (OpenSpec.ofChange fairSafeSpec)) fairSafeCard

/-- THE TIED CARD OF 'familychecklaw09.FairHelps'. -/
def fairHelpsCard : Claim7 := { stood := { row := fairHelpsRow, standIns := [], harness := (true, "5e35579a0d1c2dbae8404932b69e32c03370c0f1f437c980ba74911bc4c28d2b"), looks := false }, kinds := [], alts := [], laidByText := true, laidKinds := [.listed, .data], laidTests := true, laidLooks := .later }
def FairHelpsCardSaid : Prop := Claim7.holds Tryz.pinned (.plain (OpenSpec.ofChange fairHelpsSpec)) fairHelpsCard

/-- THE TIED CARD OF 'familychecklaw09.FairChecks'. -/
def fairChecksCard : Claim7 := { stood := { row := fairChecksRow, standIns := [], harness := (true, "5e35579a0d1c2dbae8404932b69e32c03370c0f1f437c980ba74911bc4c28d2b"), looks := false }, kinds := [], alts := [], laidByText := true, laidKinds := [.listed, .data], laidTests := true, laidLooks := .later }
def FairChecksCardSaid : Prop := Claim7.holds Tryz.pinned (.plain (OpenSpec.ofChange fairChecksSpec)) fairChecksCard

/-- THE TIED CARD OF 'familychecklaw09.FairFinds'. -/
def fairFindsCard : Claim7 := { stood := { row := fairFindsRow, standIns := [], harness := (true, "5e35579a0d1c2dbae8404932b69e32c03370c0f1f437c980ba74911bc4c28d2b"), looks := false }, kinds := [], alts := [], laidByText := true, laidKinds := [.listed, .data], laidTests := true, laidLooks := .later }
def FairFindsCardSaid : Prop := Claim7.holds Tryz.pinned (.plain (OpenSpec.ofChange fairFindsSpec)) fairFindsCard

/-- THE TIED CARD OF 'familychecklaw09.FairScales'. -/
def fairScalesCard : Claim7 := { stood := { row := fairScalesRow, standIns := [], harness := (true, "5e35579a0d1c2dbae8404932b69e32c03370c0f1f437c980ba74911bc4c28d2b"), looks := false }, kinds := [], alts := [], laidByText := true, laidKinds := [.listed, .data], laidTests := true, laidLooks := .later }
def FairScalesCardSaid : Prop := Claim7.holds Tryz.pinned (.plain (OpenSpec.ofChange fairScalesSpec)) fairScalesCard

/-- THE TIED CARD OF 'familychecklaw09.FairGoals'. -/
def fairGoalsCard : Claim7 := { stood := { row := fairGoalsRow, standIns := [], harness := (true, "5e35579a0d1c2dbae8404932b69e32c03370c0f1f437c980ba74911bc4c28d2b"), looks := false }, kinds := [], alts := [], laidByText := true, laidKinds := [.listed, .data], laidTests := true, laidLooks := .later }
def FairGoalsCardSaid : Prop := Claim7.holds Tryz.pinned (.plain (OpenSpec.ofChange fairGoalsSpec)) fairGoalsCard

/-- THE SECOND FORM's CARD OF 'familychecklaw09.FairSafe'. -/
def fairSafeUptoCard : Claim7 := { stood := { row := fairSafeUptoRow, standIns := [], harness := (true, "5e35579a0d1c2dbae8404932b69e32c03370c0f1f437c980ba74911bc4c28d2b"), looks := false }, kinds := [], alts := [], laidByText := true, laidKinds := [.listed, .data], laidTests := true, laidLooks := .later }
def FairSafeUptoCardSaid : Prop := Claim7.holds Tryz.pinned (.plain (OpenSpec.upto fairSafeSpec)) fairSafeUptoCard

/-- THE SECOND FORM's CARD OF 'familychecklaw09.FairHelps'. -/
def fairHelpsUptoCard : Claim7 := { stood := { row := fairHelpsUptoRow, standIns := [], harness := (true, "5e35579a0d1c2dbae8404932b69e32c03370c0f1f437c980ba74911bc4c28d2b"), looks := false }, kinds := [], alts := [], laidByText := true, laidKinds := [.listed, .data], laidTests := true, laidLooks := .later }
def FairHelpsUptoCardSaid : Prop := Claim7.holds Tryz.pinned (.plain (OpenSpec.upto fairHelpsSpec)) fairHelpsUptoCard

/-- THE SECOND FORM's CARD OF 'familychecklaw09.FairChecks'. -/
def fairChecksUptoCard : Claim7 := { stood := { row := fairChecksUptoRow, standIns := [], harness := (true, "5e35579a0d1c2dbae8404932b69e32c03370c0f1f437c980ba74911bc4c28d2b"), looks := false }, kinds := [], alts := [], laidByText := true, laidKinds := [.listed, .data], laidTests := true, laidLooks := .later }
def FairChecksUptoCardSaid : Prop := Claim7.holds Tryz.pinned (.plain (OpenSpec.upto fairChecksSpec)) fairChecksUptoCard

/-- THE SECOND FORM's CARD OF 'familychecklaw09.FairFinds'. -/
def fairFindsUptoCard : Claim7 := { stood := { row := fairFindsUptoRow, standIns := [], harness := (true, "5e35579a0d1c2dbae8404932b69e32c03370c0f1f437c980ba74911bc4c28d2b"), looks := false }, kinds := [], alts := [], laidByText := true, laidKinds := [.listed, .data], laidTests := true, laidLooks := .later }
def FairFindsUptoCardSaid : Prop := Claim7.holds Tryz.pinned (.plain (OpenSpec.upto fairFindsSpec)) fairFindsUptoCard

/-- THE SECOND FORM's CARD OF 'familychecklaw09.FairScales'. -/
def fairScalesUptoCard : Claim7 := { stood := { row := fairScalesUptoRow, standIns := [], harness := (true, "5e35579a0d1c2dbae8404932b69e32c03370c0f1f437c980ba74911bc4c28d2b"), looks := false }, kinds := [], alts := [], laidByText := true, laidKinds := [.listed, .data], laidTests := true, laidLooks := .later }
def FairScalesUptoCardSaid : Prop := Claim7.holds Tryz.pinned (.plain (OpenSpec.upto fairScalesSpec)) fairScalesUptoCard

/-- THE SECOND FORM's CARD OF 'familychecklaw09.FairGoals'. -/
def fairGoalsUptoCard : Claim7 := { stood := { row := fairGoalsUptoRow, standIns := [], harness := (true, "5e35579a0d1c2dbae8404932b69e32c03370c0f1f437c980ba74911bc4c28d2b"), looks := false }, kinds := [], alts := [], laidByText := true, laidKinds := [.listed, .data], laidTests := true, laidLooks := .later }
def FairGoalsUptoCardSaid : Prop := Claim7.holds Tryz.pinned (.plain (OpenSpec.upto fairGoalsSpec)) fairGoalsUptoCard
end Rows
end Go.Proofs.YtajmbgljnaljiaaGreatDoor
