/-
 The chapter's first example runs and answers true. No condition.
-/
import Derived.Test.YtgokbcjkbdabnaaGreatDoorNe
namespace Go.Proofs.YtgokbcjkbdabnaaGreatDoor
open Go.Ab Go.Proofs
set_option maxRecDepth 100000
theorem sane_run : yP K6 (yf K6 40) false 0 8 [] = some (.bool true, none) := by kernel_rfl
theorem S.law05_sane : SpecZ Tryz.prog F.law05_sane [] (.bool true) := by
 have := sane_run
 rw [yP_eq, yf_eq] at this
 obtain ⟨tf, h1, h2, h3, _⟩ := runP_ok K6_ok (xf_ok K6_ok 40) rfl this
 exact APure.ofOne h2 h1 (h3 rfl)
end Go.Proofs.YtgokbcjkbdabnaaGreatDoor
