/-
  DERIVED. GIVEN WITH THE SEED: THE CARDS: each row of YtgokbcjkbdabnaaGreatDoorRows.lean that lists a variable, with what it lists TIED to the program's text (the seventh form; the later family's looks); each row that meets fmt, with fmt's text TOLD by the authors' own Lean function (tested against real Go, not proved from fmt's source: count such statements apart). THE CARD IS WHAT COUNTS. Prove the row's statement (the work); the ties are given (YtgokbcjkbdabnaaGreatDoorTie.lean); close each card by the builder's one call (the guide's Derived/Test/ToyasCard.lean, 'card_holds'). Laid BY PROGRAM, IN A SANDBOX (cutbox-door.mjs). By AI agents, Wed Nov 11 2026. No macro, syntax, notation, axiom, sorry.
-/
import Derived.Test.YtgokbcjkbdabnaaGreatDoorRows
import GoSem.ClaimSeven
namespace Go.Proofs.YtgokbcjkbdabnaaGreatDoor
namespace Rows

/-- THE TIED CARD OF 'familychecklaw05.CoverElements'. -/
def coverElementsCard : Claim7 := { stood := { row := coverElementsRow, standIns := [], harness := (true, "db8d7cbf118d76b803f5310b108cdad9b060bb9e1b45c3dae54b867bb8099d26"), looks := false }, kinds := [], alts := [], laidByText := true, laidKinds := [.listed, .data], laidTests := true, laidLooks := .later }
def CoverElementsCardSaid : Prop := Claim7.holds Tryz.pinned (.plain (OpenSpec.ofChange coverElementsSpec)) coverElementsCard

/-- THE TIED CARD OF 'familychecklaw05.CoverPosts'. -/
def coverPostsCard : Claim7 := { stood := { row := coverPostsRow, standIns := [], harness := (true, "db8d7cbf118d76b803f5310b108cdad9b060bb9e1b45c3dae54b867bb8099d26"), looks := false }, kinds := [], alts := [], laidByText := true, laidKinds := [.listed, .data], laidTests := true, laidLooks := .later }
def CoverPostsCardSaid : Prop := Claim7.holds Tryz.pinned (.plain (OpenSpec.ofChange coverPostsSpec)) coverPostsCard

/-- THE TIED CARD OF 'familychecklaw05.CoverMonotone'. -/
def coverMonotoneCard : Claim7 := { stood := { row := coverMonotoneRow, standIns := [], harness := (true, "db8d7cbf118d76b803f5310b108cdad9b060bb9e1b45c3dae54b867bb8099d26"), looks := false }, kinds := [], alts := [], laidByText := true, laidKinds := [.listed, .data], laidTests := true, laidLooks := .later }
def CoverMonotoneCardSaid : Prop := Claim7.holds Tryz.pinned (.plain (OpenSpec.ofChange coverMonotoneSpec)) coverMonotoneCard

/-- THE TIED CARD OF 'familychecklaw05.CoverBad'. -/
def coverBadCard : Claim7 := { stood := { row := coverBadRow, standIns := [], harness := (true, "db8d7cbf118d76b803f5310b108cdad9b060bb9e1b45c3dae54b867bb8099d26"), looks := false }, kinds := [], alts := [], laidByText := true, laidKinds := [.listed, .data], laidTests := true, laidLooks := .later }
def CoverBadCardSaid : Prop := Claim7.holds Tryz.pinned (.plain (OpenSpec.ofChange coverBadSpec)) coverBadCard

/-- THE SECOND FORM's CARD OF 'familychecklaw05.CoverElements'. -/
def coverElementsUptoCard : Claim7 := { stood := { row := coverElementsUptoRow, standIns := [], harness := (true, "db8d7cbf118d76b803f5310b108cdad9b060bb9e1b45c3dae54b867bb8099d26"), looks := false }, kinds := [], alts := [], laidByText := true, laidKinds := [.listed, .data], laidTests := true, laidLooks := .later }
def CoverElementsUptoCardSaid : Prop := Claim7.holds Tryz.pinned (.plain (OpenSpec.upto coverElementsSpec)) coverElementsUptoCard

/-- THE SECOND FORM's CARD OF 'familychecklaw05.CoverPosts'. -/
def coverPostsUptoCard : Claim7 := { stood := { row := coverPostsUptoRow, standIns := [], harness := (true, "db8d7cbf118d76b803f5310b108cdad9b060bb9e1b45c3dae54b867bb8099d26"), looks := false }, kinds := [], alts := [], laidByText := true, laidKinds := [.listed, .data], laidTests := true, laidLooks := .later }
def CoverPostsUptoCardSaid : Prop := Claim7.holds Tryz.pinned (.plain (OpenSpec.upto coverPostsSpec)) coverPostsUptoCard

/-- THE SECOND FORM's CARD OF 'familychecklaw05.CoverMonotone'. -/
def coverMonotoneUptoCard : Claim7 := { stood := { row := coverMonotoneUptoRow, standIns := [], harness := (true, "db8d7cbf118d76b803f5310b108cdad9b060bb9e1b45c3dae54b867bb8099d26"), looks := false }, kinds := [], alts := [], laidByText := true, laidKinds := [.listed, .data], laidTests := true, laidLooks := .later }
def CoverMonotoneUptoCardSaid : Prop := Claim7.holds Tryz.pinned (.plain (OpenSpec.upto coverMonotoneSpec)) coverMonotoneUptoCard

/-- THE SECOND FORM's CARD OF 'familychecklaw05.CoverBad'. -/
def coverBadUptoCard : Claim7 := { stood := { row := coverBadUptoRow, standIns := [], harness := (true, "db8d7cbf118d76b803f5310b108cdad9b060bb9e1b45c3dae54b867bb8099d26"), looks := false }, kinds := [], alts := [], laidByText := true, laidKinds := [.listed, .data], laidTests := true, laidLooks := .later }
def CoverBadUptoCardSaid : Prop := Claim7.holds Tryz.pinned (.plain (OpenSpec.upto coverBadSpec)) coverBadUptoCard
end Rows
end Go.Proofs.YtgokbcjkbdabnaaGreatDoor
