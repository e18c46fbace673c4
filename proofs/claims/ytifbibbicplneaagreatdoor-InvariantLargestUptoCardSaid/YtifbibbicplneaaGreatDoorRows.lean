/-
  NARROWER THAN 'FOR EVERY INPUT', by the rows' own cells (each row's printed sentence says how): InvariantStarts: laid · InvariantSteps: laid · InvariantChecks: laid · InvariantModels: laid · InvariantElements: laid · InvariantHolds: laid · InvariantCandidates: laid · InvariantMeans: laid · InvariantStrengthens: laid · InvariantLargest: laid · InvariantClauses: laid · InvariantFilters: laid.
  DERIVED. THE GIVEN ROWS OF THIS SEAT. 12 by the template 'for every input the law returns true; each argument reads behind the call as it read before'; 0 by the template 'total and deterministic' (their statements: YtifbibbicplneaaGreatDoorTotals.lean).
  GIVEN WITH THE SEED: the statements are not yours to turn. If you find one false, say at which input.
  Laid BY PROGRAM, IN A SANDBOX (cutbox-rows.mjs): the forced cells as the released guide's own fill.sh prints them over the translation f9bda14294bcaec1… (all of the seat's roots in one cut). By AI agents, Wed Nov 11 2026. No macro, syntax, notation, axiom, sorry.
-/
import Derived.Test.YtifbibbicplneaaGreatDoorChecked
import GoSem.Claim
import GoSem.ClaimJoined
import GoSem.ClaimMapViews
import Derived.JoinedTies
import Derived.KernelRfl
namespace Go.Proofs.YtifbibbicplneaaGreatDoor
/- THE CELL 'sum', in the pinned program and in every row, IS THE sha256 OF THE DUMP (.gsa) THAT YtifbibbicplneaaGreatDoorProg.lean LOADS. Nothing in Lean hashes anything: it is a label: what it is worth is what the hold of that sum in a sandbox is worth. -/
noncomputable def Tryz.pinned : Pinned := { name := "ytifbibbicplneaagreatdoor", sum := "f9bda14294bcaec19d54784aceb9446eefc846fe373d6b250bd0eef84ac40571", checked := Tryz.checked }
namespace Rows
def none {H : Type} : Left H := { results := [], args := [] }

/- WHAT THE LISTED PACKAGE-LEVEL VARIABLES READ AS WHEN THE CALL BEGINS. Each datum BY PROGRAM (the guide's laid-datum.mjs) off the statement by which the dump's own 'gosem.cut.vars' lays the variable. In a bare row this is a premise. The card (YtifbibbicplneaaGreatDoorCards.lean) ties it to the program's text. -/
def laid_unicode_White_Space {H : Type} : DataW H := .ptr (.agg [.slice [.agg [.lit (.int .u16 9), .lit (.int .u16 13), .lit (.int .u16 1)], .agg [.lit (.int .u16 32), .lit (.int .u16 133), .lit (.int .u16 101)], .agg [.lit (.int .u16 160), .lit (.int .u16 5760), .lit (.int .u16 5600)], .agg [.lit (.int .u16 8192), .lit (.int .u16 8202), .lit (.int .u16 1)], .agg [.lit (.int .u16 8232), .lit (.int .u16 8233), .lit (.int .u16 1)], .agg [.lit (.int .u16 8239), .lit (.int .u16 8287), .lit (.int .u16 48)], .agg [.lit (.int .u16 12288), .lit (.int .u16 12288), .lit (.int .u16 1)]] [], .nil, .lit (.int .i64 2)])
def laid_strings_asciiSpace {H : Type} : DataW H := .agg [.lit (.int .u8 0), .lit (.int .u8 0), .lit (.int .u8 0), .lit (.int .u8 0), .lit (.int .u8 0), .lit (.int .u8 0), .lit (.int .u8 0), .lit (.int .u8 0), .lit (.int .u8 0), .lit (.int .u8 1), .lit (.int .u8 1), .lit (.int .u8 1), .lit (.int .u8 1), .lit (.int .u8 1), .lit (.int .u8 0), .lit (.int .u8 0), .lit (.int .u8 0), .lit (.int .u8 0), .lit (.int .u8 0), .lit (.int .u8 0), .lit (.int .u8 0), .lit (.int .u8 0), .lit (.int .u8 0), .lit (.int .u8 0), .lit (.int .u8 0), .lit (.int .u8 0), .lit (.int .u8 0), .lit (.int .u8 0), .lit (.int .u8 0), .lit (.int .u8 0), .lit (.int .u8 0), .lit (.int .u8 0), .lit (.int .u8 1), .lit (.int .u8 0), .lit (.int .u8 0), .lit (.int .u8 0), .lit (.int .u8 0), .lit (.int .u8 0), .lit (.int .u8 0), .lit (.int .u8 0), .lit (.int .u8 0), .lit (.int .u8 0), .lit (.int .u8 0), .lit (.int .u8 0), .lit (.int .u8 0), .lit (.int .u8 0), .lit (.int .u8 0), .lit (.int .u8 0), .lit (.int .u8 0), .lit (.int .u8 0), .lit (.int .u8 0), .lit (.int .u8 0), .lit (.int .u8 0), .lit (.int .u8 0), .lit (.int .u8 0), .lit (.int .u8 0), .lit (.int .u8 0), .lit (.int .u8 0), .lit (.int .u8 0), .lit (.int .u8 0), .lit (.int .u8 0), .lit (.int .u8 0), .lit (.int .u8 0), .lit (.int .u8 0), .lit (.int .u8 0), .lit (.int .u8 0), .lit (.int .u8 0), .lit (.int .u8 0), .lit (.int .u8 0), .lit (.int .u8 0), .lit (.int .u8 0), .lit (.int .u8 0), .lit (.int .u8 0), .lit (.int .u8 0), .lit (.int .u8 0), .lit (.int .u8 0), .lit (.int .u8 0), .lit (.int .u8 0), .lit (.int .u8 0), .lit (.int .u8 0), .lit (.int .u8 0), .lit (.int .u8 0), .lit (.int .u8 0), .lit (.int .u8 0), .lit (.int .u8 0), .lit (.int .u8 0), .lit (.int .u8 0), .lit (.int .u8 0), .lit (.int .u8 0), .lit (.int .u8 0), .lit (.int .u8 0), .lit (.int .u8 0), .lit (.int .u8 0), .lit (.int .u8 0), .lit (.int .u8 0), .lit (.int .u8 0), .lit (.int .u8 0), .lit (.int .u8 0), .lit (.int .u8 0), .lit (.int .u8 0), .lit (.int .u8 0), .lit (.int .u8 0), .lit (.int .u8 0), .lit (.int .u8 0), .lit (.int .u8 0), .lit (.int .u8 0), .lit (.int .u8 0), .lit (.int .u8 0), .lit (.int .u8 0), .lit (.int .u8 0), .lit (.int .u8 0), .lit (.int .u8 0), .lit (.int .u8 0), .lit (.int .u8 0), .lit (.int .u8 0), .lit (.int .u8 0), .lit (.int .u8 0), .lit (.int .u8 0), .lit (.int .u8 0), .lit (.int .u8 0), .lit (.int .u8 0), .lit (.int .u8 0), .lit (.int .u8 0), .lit (.int .u8 0), .lit (.int .u8 0), .lit (.int .u8 0), .lit (.int .u8 0), .lit (.int .u8 0), .lit (.int .u8 0), .lit (.int .u8 0), .lit (.int .u8 0), .lit (.int .u8 0), .lit (.int .u8 0), .lit (.int .u8 0), .lit (.int .u8 0), .lit (.int .u8 0), .lit (.int .u8 0), .lit (.int .u8 0), .lit (.int .u8 0), .lit (.int .u8 0), .lit (.int .u8 0), .lit (.int .u8 0), .lit (.int .u8 0), .lit (.int .u8 0), .lit (.int .u8 0), .lit (.int .u8 0), .lit (.int .u8 0), .lit (.int .u8 0), .lit (.int .u8 0), .lit (.int .u8 0), .lit (.int .u8 0), .lit (.int .u8 0), .lit (.int .u8 0), .lit (.int .u8 0), .lit (.int .u8 0), .lit (.int .u8 0), .lit (.int .u8 0), .lit (.int .u8 0), .lit (.int .u8 0), .lit (.int .u8 0), .lit (.int .u8 0), .lit (.int .u8 0), .lit (.int .u8 0), .lit (.int .u8 0), .lit (.int .u8 0), .lit (.int .u8 0), .lit (.int .u8 0), .lit (.int .u8 0), .lit (.int .u8 0), .lit (.int .u8 0), .lit (.int .u8 0), .lit (.int .u8 0), .lit (.int .u8 0), .lit (.int .u8 0), .lit (.int .u8 0), .lit (.int .u8 0), .lit (.int .u8 0), .lit (.int .u8 0), .lit (.int .u8 0), .lit (.int .u8 0), .lit (.int .u8 0), .lit (.int .u8 0), .lit (.int .u8 0), .lit (.int .u8 0), .lit (.int .u8 0), .lit (.int .u8 0), .lit (.int .u8 0), .lit (.int .u8 0), .lit (.int .u8 0), .lit (.int .u8 0), .lit (.int .u8 0), .lit (.int .u8 0), .lit (.int .u8 0), .lit (.int .u8 0), .lit (.int .u8 0), .lit (.int .u8 0), .lit (.int .u8 0), .lit (.int .u8 0), .lit (.int .u8 0), .lit (.int .u8 0), .lit (.int .u8 0), .lit (.int .u8 0), .lit (.int .u8 0), .lit (.int .u8 0), .lit (.int .u8 0), .lit (.int .u8 0), .lit (.int .u8 0), .lit (.int .u8 0), .lit (.int .u8 0), .lit (.int .u8 0), .lit (.int .u8 0), .lit (.int .u8 0), .lit (.int .u8 0), .lit (.int .u8 0), .lit (.int .u8 0), .lit (.int .u8 0), .lit (.int .u8 0), .lit (.int .u8 0), .lit (.int .u8 0), .lit (.int .u8 0), .lit (.int .u8 0), .lit (.int .u8 0), .lit (.int .u8 0), .lit (.int .u8 0), .lit (.int .u8 0), .lit (.int .u8 0), .lit (.int .u8 0), .lit (.int .u8 0), .lit (.int .u8 0), .lit (.int .u8 0), .lit (.int .u8 0), .lit (.int .u8 0), .lit (.int .u8 0), .lit (.int .u8 0), .lit (.int .u8 0), .lit (.int .u8 0), .lit (.int .u8 0), .lit (.int .u8 0), .lit (.int .u8 0), .lit (.int .u8 0), .lit (.int .u8 0), .lit (.int .u8 0), .lit (.int .u8 0), .lit (.int .u8 0), .lit (.int .u8 0), .lit (.int .u8 0), .lit (.int .u8 0), .lit (.int .u8 0), .lit (.int .u8 0), .lit (.int .u8 0), .lit (.int .u8 0), .lit (.int .u8 0), .lit (.int .u8 0), .lit (.int .u8 0), .lit (.int .u8 0), .lit (.int .u8 0)]

/-- 'familychecklaw08.InvariantStarts': WHATEVER THE INPUT: true; the input reads as it did. -/
def invariantStartsSpec : ChangeSpec := { name := "invariantStarts", fn := fun _ => fun
  | [d1, d2, d3] => { results := [.lit (.bool true)], args := [d1, d2, d3] }
  | _ => none }
def invariantStartsRow : OpenClaim := { program := "ytifbibbicplneaagreatdoor", sum := "f9bda14294bcaec19d54784aceb9446eefc846fe373d6b250bd0eef84ac40571", func := "familycheck/familychecklaw08.InvariantStarts", spec := "invariantStarts", inPlace := ["internal/abi.NoEscape", "internal/bytealg.MakeNoZero"], unfollowed := true, recurses := true, named := ["strings.asciiSpace", "unicode.White_Space"], apart := false, laid := [("unicode.White_Space", laid_unicode_White_Space), ("strings.asciiSpace", laid_strings_asciiSpace)] }
def InvariantStartsSaid : Prop := invariantStartsRow.holds Tryz.pinned (OpenSpec.ofChange invariantStartsSpec)

/-- ITS FALSE NEIGHBOUR: 'it returns false'. Refute it at one input. -/
def invariantStartsWrong : ChangeSpec := { name := "invariantStarts", fn := fun _ => fun
  | [d1, d2, d3] => { results := [.lit (.bool false)], args := [d1, d2, d3] }
  | _ => none }
def InvariantStartsWrongFalsely : Prop := invariantStartsRow.holds Tryz.pinned (OpenSpec.ofChange invariantStartsWrong)

/-- 'familychecklaw08.InvariantSteps': WHATEVER THE INPUT: true; the input reads as it did. -/
def invariantStepsSpec : ChangeSpec := { name := "invariantSteps", fn := fun _ => fun
  | [d1, d2, d3] => { results := [.lit (.bool true)], args := [d1, d2, d3] }
  | _ => none }
def invariantStepsRow : OpenClaim := { program := "ytifbibbicplneaagreatdoor", sum := "f9bda14294bcaec19d54784aceb9446eefc846fe373d6b250bd0eef84ac40571", func := "familycheck/familychecklaw08.InvariantSteps", spec := "invariantSteps", inPlace := ["internal/abi.NoEscape", "internal/bytealg.MakeNoZero"], unfollowed := true, recurses := true, named := ["strings.asciiSpace", "unicode.White_Space"], apart := false, laid := [("unicode.White_Space", laid_unicode_White_Space), ("strings.asciiSpace", laid_strings_asciiSpace)] }
def InvariantStepsSaid : Prop := invariantStepsRow.holds Tryz.pinned (OpenSpec.ofChange invariantStepsSpec)

/-- ITS FALSE NEIGHBOUR: 'it returns false'. Refute it at one input. -/
def invariantStepsWrong : ChangeSpec := { name := "invariantSteps", fn := fun _ => fun
  | [d1, d2, d3] => { results := [.lit (.bool false)], args := [d1, d2, d3] }
  | _ => none }
def InvariantStepsWrongFalsely : Prop := invariantStepsRow.holds Tryz.pinned (OpenSpec.ofChange invariantStepsWrong)

/-- 'familychecklaw08.InvariantChecks': WHATEVER THE INPUT: true; the input reads as it did. -/
def invariantChecksSpec : ChangeSpec := { name := "invariantChecks", fn := fun _ => fun
  | [d1, d2, d3] => { results := [.lit (.bool true)], args := [d1, d2, d3] }
  | _ => none }
def invariantChecksRow : OpenClaim := { program := "ytifbibbicplneaagreatdoor", sum := "f9bda14294bcaec19d54784aceb9446eefc846fe373d6b250bd0eef84ac40571", func := "familycheck/familychecklaw08.InvariantChecks", spec := "invariantChecks", inPlace := ["internal/abi.NoEscape", "internal/bytealg.MakeNoZero"], unfollowed := true, recurses := true, named := ["strings.asciiSpace", "unicode.White_Space"], apart := false, laid := [("unicode.White_Space", laid_unicode_White_Space), ("strings.asciiSpace", laid_strings_asciiSpace)] }
def InvariantChecksSaid : Prop := invariantChecksRow.holds Tryz.pinned (OpenSpec.ofChange invariantChecksSpec)

/-- ITS FALSE NEIGHBOUR: 'it returns false'. Refute it at one input. -/
def invariantChecksWrong : ChangeSpec := { name := "invariantChecks", fn := fun _ => fun
  | [d1, d2, d3] => { results := [.lit (.bool false)], args := [d1, d2, d3] }
  | _ => none }
def InvariantChecksWrongFalsely : Prop := invariantChecksRow.holds Tryz.pinned (OpenSpec.ofChange invariantChecksWrong)

/-- 'familychecklaw08.InvariantModels': WHATEVER THE INPUT: true; the input reads as it did. -/
def invariantModelsSpec : ChangeSpec := { name := "invariantModels", fn := fun _ => fun
  | [d1, d2, d3] => { results := [.lit (.bool true)], args := [d1, d2, d3] }
  | _ => none }
def invariantModelsRow : OpenClaim := { program := "ytifbibbicplneaagreatdoor", sum := "f9bda14294bcaec19d54784aceb9446eefc846fe373d6b250bd0eef84ac40571", func := "familycheck/familychecklaw08.InvariantModels", spec := "invariantModels", inPlace := ["internal/abi.NoEscape", "internal/bytealg.MakeNoZero"], unfollowed := true, recurses := true, named := ["strings.asciiSpace", "unicode.White_Space"], apart := false, laid := [("unicode.White_Space", laid_unicode_White_Space), ("strings.asciiSpace", laid_strings_asciiSpace)] }
def InvariantModelsSaid : Prop := invariantModelsRow.holds Tryz.pinned (OpenSpec.ofChange invariantModelsSpec)

/-- ITS FALSE NEIGHBOUR: 'it returns false'. Refute it at one input. -/
def invariantModelsWrong : ChangeSpec := { name := "invariantModels", fn := fun _ => fun
  | [d1, d2, d3] => { results := [.lit (.bool false)], args := [d1, d2, d3] }
  | _ => none }
def InvariantModelsWrongFalsely : Prop := invariantModelsRow.holds Tryz.pinned (OpenSpec.ofChange invariantModelsWrong)

/-- 'familychecklaw08.InvariantElements': WHATEVER THE INPUT: true; the input reads as it did. -/
def invariantElementsSpec : ChangeSpec := { name := "invariantElements", fn := fun _ => fun
  | [d1, d2] => { results := [.lit (.bool true)], args := [d1, d2] }
  | _ => none }
def invariantElementsRow : OpenClaim := { program := "ytifbibbicplneaagreatdoor", sum := "f9bda14294bcaec19d54784aceb9446eefc846fe373d6b250bd0eef84ac40571", func := "familycheck/familychecklaw08.InvariantElements", spec := "invariantElements", inPlace := ["internal/abi.NoEscape", "internal/bytealg.MakeNoZero"], unfollowed := true, recurses := true, named := ["strings.asciiSpace", "unicode.White_Space"], apart := false, laid := [("unicode.White_Space", laid_unicode_White_Space), ("strings.asciiSpace", laid_strings_asciiSpace)] }
def InvariantElementsSaid : Prop := invariantElementsRow.holds Tryz.pinned (OpenSpec.ofChange invariantElementsSpec)

/-- ITS FALSE NEIGHBOUR: 'it returns false'. Refute it at one input. -/
def invariantElementsWrong : ChangeSpec := { name := "invariantElements", fn := fun _ => fun
  | [d1, d2] => { results := [.lit (.bool false)], args := [d1, d2] }
  | _ => none }
def InvariantElementsWrongFalsely : Prop := invariantElementsRow.holds Tryz.pinned (OpenSpec.ofChange invariantElementsWrong)

/-- 'familychecklaw08.InvariantHolds': WHATEVER THE INPUT: true; the input reads as it did. -/
def invariantHoldsSpec : ChangeSpec := { name := "invariantHolds", fn := fun _ => fun
  | [d1, d2, d3] => { results := [.lit (.bool true)], args := [d1, d2, d3] }
  | _ => none }
def invariantHoldsRow : OpenClaim := { program := "ytifbibbicplneaagreatdoor", sum := "f9bda14294bcaec19d54784aceb9446eefc846fe373d6b250bd0eef84ac40571", func := "familycheck/familychecklaw08.InvariantHolds", spec := "invariantHolds", inPlace := ["internal/abi.NoEscape", "internal/bytealg.MakeNoZero"], unfollowed := true, recurses := true, named := ["strings.asciiSpace", "unicode.White_Space"], apart := false, laid := [("unicode.White_Space", laid_unicode_White_Space), ("strings.asciiSpace", laid_strings_asciiSpace)] }
def InvariantHoldsSaid : Prop := invariantHoldsRow.holds Tryz.pinned (OpenSpec.ofChange invariantHoldsSpec)

/-- ITS FALSE NEIGHBOUR: 'it returns false'. Refute it at one input. -/
def invariantHoldsWrong : ChangeSpec := { name := "invariantHolds", fn := fun _ => fun
  | [d1, d2, d3] => { results := [.lit (.bool false)], args := [d1, d2, d3] }
  | _ => none }
def InvariantHoldsWrongFalsely : Prop := invariantHoldsRow.holds Tryz.pinned (OpenSpec.ofChange invariantHoldsWrong)

/-- 'familychecklaw08.InvariantCandidates': WHATEVER THE INPUT: true; the input reads as it did. -/
def invariantCandidatesSpec : ChangeSpec := { name := "invariantCandidates", fn := fun _ => fun
  | [d] => { results := [.lit (.bool true)], args := [d] }
  | _ => none }
def invariantCandidatesRow : OpenClaim := { program := "ytifbibbicplneaagreatdoor", sum := "f9bda14294bcaec19d54784aceb9446eefc846fe373d6b250bd0eef84ac40571", func := "familycheck/familychecklaw08.InvariantCandidates", spec := "invariantCandidates", inPlace := ["internal/abi.NoEscape", "internal/bytealg.MakeNoZero"], unfollowed := true, recurses := true, named := ["strings.asciiSpace", "unicode.White_Space"], apart := false, laid := [("unicode.White_Space", laid_unicode_White_Space), ("strings.asciiSpace", laid_strings_asciiSpace)] }
def InvariantCandidatesSaid : Prop := invariantCandidatesRow.holds Tryz.pinned (OpenSpec.ofChange invariantCandidatesSpec)

/-- ITS FALSE NEIGHBOUR: 'it returns false'. Refute it at one input. -/
def invariantCandidatesWrong : ChangeSpec := { name := "invariantCandidates", fn := fun _ => fun
  | [d] => { results := [.lit (.bool false)], args := [d] }
  | _ => none }
def InvariantCandidatesWrongFalsely : Prop := invariantCandidatesRow.holds Tryz.pinned (OpenSpec.ofChange invariantCandidatesWrong)

/-- 'familychecklaw08.InvariantMeans': WHATEVER THE INPUT: true; the input reads as it did. -/
def invariantMeansSpec : ChangeSpec := { name := "invariantMeans", fn := fun _ => fun
  | [d1, d2, d3] => { results := [.lit (.bool true)], args := [d1, d2, d3] }
  | _ => none }
def invariantMeansRow : OpenClaim := { program := "ytifbibbicplneaagreatdoor", sum := "f9bda14294bcaec19d54784aceb9446eefc846fe373d6b250bd0eef84ac40571", func := "familycheck/familychecklaw08.InvariantMeans", spec := "invariantMeans", inPlace := ["internal/abi.NoEscape", "internal/bytealg.MakeNoZero"], unfollowed := true, recurses := true, named := ["strings.asciiSpace", "unicode.White_Space"], apart := false, laid := [("unicode.White_Space", laid_unicode_White_Space), ("strings.asciiSpace", laid_strings_asciiSpace)] }
def InvariantMeansSaid : Prop := invariantMeansRow.holds Tryz.pinned (OpenSpec.ofChange invariantMeansSpec)

/-- ITS FALSE NEIGHBOUR: 'it returns false'. Refute it at one input. -/
def invariantMeansWrong : ChangeSpec := { name := "invariantMeans", fn := fun _ => fun
  | [d1, d2, d3] => { results := [.lit (.bool false)], args := [d1, d2, d3] }
  | _ => none }
def InvariantMeansWrongFalsely : Prop := invariantMeansRow.holds Tryz.pinned (OpenSpec.ofChange invariantMeansWrong)

/-- 'familychecklaw08.InvariantStrengthens': WHATEVER THE INPUT: true; the input reads as it did. -/
def invariantStrengthensSpec : ChangeSpec := { name := "invariantStrengthens", fn := fun _ => fun
  | [d1, d2, d3] => { results := [.lit (.bool true)], args := [d1, d2, d3] }
  | _ => none }
def invariantStrengthensRow : OpenClaim := { program := "ytifbibbicplneaagreatdoor", sum := "f9bda14294bcaec19d54784aceb9446eefc846fe373d6b250bd0eef84ac40571", func := "familycheck/familychecklaw08.InvariantStrengthens", spec := "invariantStrengthens", inPlace := ["internal/abi.NoEscape", "internal/bytealg.MakeNoZero"], unfollowed := true, recurses := true, named := ["strings.asciiSpace", "unicode.White_Space"], apart := false, laid := [("unicode.White_Space", laid_unicode_White_Space), ("strings.asciiSpace", laid_strings_asciiSpace)] }
def InvariantStrengthensSaid : Prop := invariantStrengthensRow.holds Tryz.pinned (OpenSpec.ofChange invariantStrengthensSpec)

/-- ITS FALSE NEIGHBOUR: 'it returns false'. Refute it at one input. -/
def invariantStrengthensWrong : ChangeSpec := { name := "invariantStrengthens", fn := fun _ => fun
  | [d1, d2, d3] => { results := [.lit (.bool false)], args := [d1, d2, d3] }
  | _ => none }
def InvariantStrengthensWrongFalsely : Prop := invariantStrengthensRow.holds Tryz.pinned (OpenSpec.ofChange invariantStrengthensWrong)

/-- 'familychecklaw08.InvariantLargest': WHATEVER THE INPUT: true; the input reads as it did. -/
def invariantLargestSpec : ChangeSpec := { name := "invariantLargest", fn := fun _ => fun
  | [d1, d2, d3] => { results := [.lit (.bool true)], args := [d1, d2, d3] }
  | _ => none }
def invariantLargestRow : OpenClaim := { program := "ytifbibbicplneaagreatdoor", sum := "f9bda14294bcaec19d54784aceb9446eefc846fe373d6b250bd0eef84ac40571", func := "familycheck/familychecklaw08.InvariantLargest", spec := "invariantLargest", inPlace := ["internal/abi.NoEscape", "internal/bytealg.MakeNoZero"], unfollowed := true, recurses := true, named := ["strings.asciiSpace", "unicode.White_Space"], apart := false, laid := [("unicode.White_Space", laid_unicode_White_Space), ("strings.asciiSpace", laid_strings_asciiSpace)] }
def InvariantLargestSaid : Prop := invariantLargestRow.holds Tryz.pinned (OpenSpec.ofChange invariantLargestSpec)

/-- ITS FALSE NEIGHBOUR: 'it returns false'. Refute it at one input. -/
def invariantLargestWrong : ChangeSpec := { name := "invariantLargest", fn := fun _ => fun
  | [d1, d2, d3] => { results := [.lit (.bool false)], args := [d1, d2, d3] }
  | _ => none }
def InvariantLargestWrongFalsely : Prop := invariantLargestRow.holds Tryz.pinned (OpenSpec.ofChange invariantLargestWrong)

/-- 'familychecklaw08.InvariantClauses': WHATEVER THE INPUT: true; the input reads as it did. -/
def invariantClausesSpec : ChangeSpec := { name := "invariantClauses", fn := fun _ => fun
  | [d1, d2, d3] => { results := [.lit (.bool true)], args := [d1, d2, d3] }
  | _ => none }
def invariantClausesRow : OpenClaim := { program := "ytifbibbicplneaagreatdoor", sum := "f9bda14294bcaec19d54784aceb9446eefc846fe373d6b250bd0eef84ac40571", func := "familycheck/familychecklaw08.InvariantClauses", spec := "invariantClauses", inPlace := ["internal/abi.NoEscape", "internal/bytealg.MakeNoZero"], unfollowed := true, recurses := true, named := ["strings.asciiSpace", "unicode.White_Space"], apart := false, laid := [("unicode.White_Space", laid_unicode_White_Space), ("strings.asciiSpace", laid_strings_asciiSpace)] }
def InvariantClausesSaid : Prop := invariantClausesRow.holds Tryz.pinned (OpenSpec.ofChange invariantClausesSpec)

/-- ITS FALSE NEIGHBOUR: 'it returns false'. Refute it at one input. -/
def invariantClausesWrong : ChangeSpec := { name := "invariantClauses", fn := fun _ => fun
  | [d1, d2, d3] => { results := [.lit (.bool false)], args := [d1, d2, d3] }
  | _ => none }
def InvariantClausesWrongFalsely : Prop := invariantClausesRow.holds Tryz.pinned (OpenSpec.ofChange invariantClausesWrong)

/-- 'familychecklaw08.InvariantFilters': WHATEVER THE INPUT: true; the input reads as it did. -/
def invariantFiltersSpec : ChangeSpec := { name := "invariantFilters", fn := fun _ => fun
  | [d1, d2, d3] => { results := [.lit (.bool true)], args := [d1, d2, d3] }
  | _ => none }
def invariantFiltersRow : OpenClaim := { program := "ytifbibbicplneaagreatdoor", sum := "f9bda14294bcaec19d54784aceb9446eefc846fe373d6b250bd0eef84ac40571", func := "familycheck/familychecklaw08.InvariantFilters", spec := "invariantFilters", inPlace := ["internal/abi.NoEscape", "internal/bytealg.MakeNoZero"], unfollowed := true, recurses := true, named := ["strings.asciiSpace", "unicode.White_Space"], apart := false, laid := [("unicode.White_Space", laid_unicode_White_Space), ("strings.asciiSpace", laid_strings_asciiSpace)] }
def InvariantFiltersSaid : Prop := invariantFiltersRow.holds Tryz.pinned (OpenSpec.ofChange invariantFiltersSpec)

/-- ITS FALSE NEIGHBOUR: 'it returns false'. Refute it at one input. -/
def invariantFiltersWrong : ChangeSpec := { name := "invariantFilters", fn := fun _ => fun
  | [d1, d2, d3] => { results := [.lit (.bool false)], args := [d1, d2, d3] }
  | _ => none }
def InvariantFiltersWrongFalsely : Prop := invariantFiltersRow.holds Tryz.pinned (OpenSpec.ofChange invariantFiltersWrong)

/- THE SECOND FORM. 'bulk': how many values and letters a reading holds, each counted each time it is reached (what is shared counts as often as it is met; a slice's spare places count too). A statement '..UptoSaid' is the law's where the arguments, and the package variables that the reading takes, are together of bulk at most 1048576: NARROWER than '..Said'. Prove '..Said' where nothing that the law and all that it calls make is longer than what came in: it says more and counts as full. Else prove '..UptoSaid'. A law counts once. -/
mutual
def uptoBulk {H : Type} : DataW H → Nat
  | .lit (.string bytes) => bytes.length + 1
  | .lit _ => 1
  | .nil => 1
  | .ptr d => uptoBulk d + 1
  | .slice elems spare => uptoBulkAll elems + uptoBulkAll spare + 1
  | .agg parts => uptoBulkAll parts + 1
  | .iface _ d => uptoBulk d + 1
  | .map entries => uptoBulkEntries entries + 1
  | .held _ => 1
def uptoBulkAll {H : Type} : List (DataW H) → Nat
  | [] => 0
  | d :: r => uptoBulk d + uptoBulkAll r
def uptoBulkEntries {H : Type} : List (Lit × DataW H) → Nat
  | [] => 0
  | x :: r => uptoBulkEntry x + uptoBulkEntries r
def uptoBulkEntry {H : Type} : Lit × DataW H → Nat
  | (.string bytes, d) => bytes.length + uptoBulk d + 1
  | (_, d) => uptoBulk d + 1
 end
def uptoSmall : (H : Type) → List (DataW H) → Bool := fun _ ds => decide (uptoBulkAll ds ≤ 1048576)
def OpenSpec.upto (s : _root_.Go.ChangeSpec) : _root_.Go.OpenSpec := { _root_.Go.OpenSpec.ofChange s with cond := some uptoSmall }

/-- 'familychecklaw08.InvariantStarts', WHERE WHAT IT READS IS OF BULK AT MOST 1048576: true; the input reads as it did. -/
def invariantStartsUptoRow : OpenClaim := { program := "ytifbibbicplneaagreatdoor", sum := "f9bda14294bcaec19d54784aceb9446eefc846fe373d6b250bd0eef84ac40571", func := "familycheck/familychecklaw08.InvariantStarts", spec := "invariantStarts", inPlace := ["internal/abi.NoEscape", "internal/bytealg.MakeNoZero"], unfollowed := true, recurses := true, named := ["strings.asciiSpace", "unicode.White_Space"], apart := false, laid := [("unicode.White_Space", laid_unicode_White_Space), ("strings.asciiSpace", laid_strings_asciiSpace)], narrowed := true }
def InvariantStartsUptoSaid : Prop := invariantStartsUptoRow.holds Tryz.pinned (OpenSpec.upto invariantStartsSpec)

/-- 'familychecklaw08.InvariantSteps', WHERE WHAT IT READS IS OF BULK AT MOST 1048576: true; the input reads as it did. -/
def invariantStepsUptoRow : OpenClaim := { program := "ytifbibbicplneaagreatdoor", sum := "f9bda14294bcaec19d54784aceb9446eefc846fe373d6b250bd0eef84ac40571", func := "familycheck/familychecklaw08.InvariantSteps", spec := "invariantSteps", inPlace := ["internal/abi.NoEscape", "internal/bytealg.MakeNoZero"], unfollowed := true, recurses := true, named := ["strings.asciiSpace", "unicode.White_Space"], apart := false, laid := [("unicode.White_Space", laid_unicode_White_Space), ("strings.asciiSpace", laid_strings_asciiSpace)], narrowed := true }
def InvariantStepsUptoSaid : Prop := invariantStepsUptoRow.holds Tryz.pinned (OpenSpec.upto invariantStepsSpec)

/-- 'familychecklaw08.InvariantChecks', WHERE WHAT IT READS IS OF BULK AT MOST 1048576: true; the input reads as it did. -/
def invariantChecksUptoRow : OpenClaim := { program := "ytifbibbicplneaagreatdoor", sum := "f9bda14294bcaec19d54784aceb9446eefc846fe373d6b250bd0eef84ac40571", func := "familycheck/familychecklaw08.InvariantChecks", spec := "invariantChecks", inPlace := ["internal/abi.NoEscape", "internal/bytealg.MakeNoZero"], unfollowed := true, recurses := true, named := ["strings.asciiSpace", "unicode.White_Space"], apart := false, laid := [("unicode.White_Space", laid_unicode_White_Space), ("strings.asciiSpace", laid_strings_asciiSpace)], narrowed := true }
def InvariantChecksUptoSaid : Prop := invariantChecksUptoRow.holds Tryz.pinned (OpenSpec.upto invariantChecksSpec)

/-- 'familychecklaw08.InvariantModels', WHERE WHAT IT READS IS OF BULK AT MOST 1048576: true; the input reads as it did. -/
def invariantModelsUptoRow : OpenClaim := { program := "ytifbibbicplneaagreatdoor", sum := "f9bda14294bcaec19d54784aceb9446eefc846fe373d6b250bd0eef84ac40571", func := "familycheck/familychecklaw08.InvariantModels", spec := "invariantModels", inPlace := ["internal/abi.NoEscape", "internal/bytealg.MakeNoZero"], unfollowed := true, recurses := true, named := ["strings.asciiSpace", "unicode.White_Space"], apart := false, laid := [("unicode.White_Space", laid_unicode_White_Space), ("strings.asciiSpace", laid_strings_asciiSpace)], narrowed := true }
def InvariantModelsUptoSaid : Prop := invariantModelsUptoRow.holds Tryz.pinned (OpenSpec.upto invariantModelsSpec)

/-- 'familychecklaw08.InvariantElements', WHERE WHAT IT READS IS OF BULK AT MOST 1048576: true; the input reads as it did. -/
def invariantElementsUptoRow : OpenClaim := { program := "ytifbibbicplneaagreatdoor", sum := "f9bda14294bcaec19d54784aceb9446eefc846fe373d6b250bd0eef84ac40571", func := "familycheck/familychecklaw08.InvariantElements", spec := "invariantElements", inPlace := ["internal/abi.NoEscape", "internal/bytealg.MakeNoZero"], unfollowed := true, recurses := true, named := ["strings.asciiSpace", "unicode.White_Space"], apart := false, laid := [("unicode.White_Space", laid_unicode_White_Space), ("strings.asciiSpace", laid_strings_asciiSpace)], narrowed := true }
def InvariantElementsUptoSaid : Prop := invariantElementsUptoRow.holds Tryz.pinned (OpenSpec.upto invariantElementsSpec)

/-- 'familychecklaw08.InvariantHolds', WHERE WHAT IT READS IS OF BULK AT MOST 1048576: true; the input reads as it did. -/
def invariantHoldsUptoRow : OpenClaim := { program := "ytifbibbicplneaagreatdoor", sum := "f9bda14294bcaec19d54784aceb9446eefc846fe373d6b250bd0eef84ac40571", func := "familycheck/familychecklaw08.InvariantHolds", spec := "invariantHolds", inPlace := ["internal/abi.NoEscape", "internal/bytealg.MakeNoZero"], unfollowed := true, recurses := true, named := ["strings.asciiSpace", "unicode.White_Space"], apart := false, laid := [("unicode.White_Space", laid_unicode_White_Space), ("strings.asciiSpace", laid_strings_asciiSpace)], narrowed := true }
def InvariantHoldsUptoSaid : Prop := invariantHoldsUptoRow.holds Tryz.pinned (OpenSpec.upto invariantHoldsSpec)

/-- 'familychecklaw08.InvariantCandidates', WHERE WHAT IT READS IS OF BULK AT MOST 1048576: true; the input reads as it did. -/
def invariantCandidatesUptoRow : OpenClaim := { program := "ytifbibbicplneaagreatdoor", sum := "f9bda14294bcaec19d54784aceb9446eefc846fe373d6b250bd0eef84ac40571", func := "familycheck/familychecklaw08.InvariantCandidates", spec := "invariantCandidates", inPlace := ["internal/abi.NoEscape", "internal/bytealg.MakeNoZero"], unfollowed := true, recurses := true, named := ["strings.asciiSpace", "unicode.White_Space"], apart := false, laid := [("unicode.White_Space", laid_unicode_White_Space), ("strings.asciiSpace", laid_strings_asciiSpace)], narrowed := true }
def InvariantCandidatesUptoSaid : Prop := invariantCandidatesUptoRow.holds Tryz.pinned (OpenSpec.upto invariantCandidatesSpec)

/-- 'familychecklaw08.InvariantMeans', WHERE WHAT IT READS IS OF BULK AT MOST 1048576: true; the input reads as it did. -/
def invariantMeansUptoRow : OpenClaim := { program := "ytifbibbicplneaagreatdoor", sum := "f9bda14294bcaec19d54784aceb9446eefc846fe373d6b250bd0eef84ac40571", func := "familycheck/familychecklaw08.InvariantMeans", spec := "invariantMeans", inPlace := ["internal/abi.NoEscape", "internal/bytealg.MakeNoZero"], unfollowed := true, recurses := true, named := ["strings.asciiSpace", "unicode.White_Space"], apart := false, laid := [("unicode.White_Space", laid_unicode_White_Space), ("strings.asciiSpace", laid_strings_asciiSpace)], narrowed := true }
def InvariantMeansUptoSaid : Prop := invariantMeansUptoRow.holds Tryz.pinned (OpenSpec.upto invariantMeansSpec)

/-- 'familychecklaw08.InvariantStrengthens', WHERE WHAT IT READS IS OF BULK AT MOST 1048576: true; the input reads as it did. -/
def invariantStrengthensUptoRow : OpenClaim := { program := "ytifbibbicplneaagreatdoor", sum := "f9bda14294bcaec19d54784aceb9446eefc846fe373d6b250bd0eef84ac40571", func := "familycheck/familychecklaw08.InvariantStrengthens", spec := "invariantStrengthens", inPlace := ["internal/abi.NoEscape", "internal/bytealg.MakeNoZero"], unfollowed := true, recurses := true, named := ["strings.asciiSpace", "unicode.White_Space"], apart := false, laid := [("unicode.White_Space", laid_unicode_White_Space), ("strings.asciiSpace", laid_strings_asciiSpace)], narrowed := true }
def InvariantStrengthensUptoSaid : Prop := invariantStrengthensUptoRow.holds Tryz.pinned (OpenSpec.upto invariantStrengthensSpec)

/-- 'familychecklaw08.InvariantLargest', WHERE WHAT IT READS IS OF BULK AT MOST 1048576: true; the input reads as it did. -/
def invariantLargestUptoRow : OpenClaim := { program := "ytifbibbicplneaagreatdoor", sum := "f9bda14294bcaec19d54784aceb9446eefc846fe373d6b250bd0eef84ac40571", func := "familycheck/familychecklaw08.InvariantLargest", spec := "invariantLargest", inPlace := ["internal/abi.NoEscape", "internal/bytealg.MakeNoZero"], unfollowed := true, recurses := true, named := ["strings.asciiSpace", "unicode.White_Space"], apart := false, laid := [("unicode.White_Space", laid_unicode_White_Space), ("strings.asciiSpace", laid_strings_asciiSpace)], narrowed := true }
def InvariantLargestUptoSaid : Prop := invariantLargestUptoRow.holds Tryz.pinned (OpenSpec.upto invariantLargestSpec)

/-- 'familychecklaw08.InvariantClauses', WHERE WHAT IT READS IS OF BULK AT MOST 1048576: true; the input reads as it did. -/
def invariantClausesUptoRow : OpenClaim := { program := "ytifbibbicplneaagreatdoor", sum := "f9bda14294bcaec19d54784aceb9446eefc846fe373d6b250bd0eef84ac40571", func := "familycheck/familychecklaw08.InvariantClauses", spec := "invariantClauses", inPlace := ["internal/abi.NoEscape", "internal/bytealg.MakeNoZero"], unfollowed := true, recurses := true, named := ["strings.asciiSpace", "unicode.White_Space"], apart := false, laid := [("unicode.White_Space", laid_unicode_White_Space), ("strings.asciiSpace", laid_strings_asciiSpace)], narrowed := true }
def InvariantClausesUptoSaid : Prop := invariantClausesUptoRow.holds Tryz.pinned (OpenSpec.upto invariantClausesSpec)

/-- 'familychecklaw08.InvariantFilters', WHERE WHAT IT READS IS OF BULK AT MOST 1048576: true; the input reads as it did. -/
def invariantFiltersUptoRow : OpenClaim := { program := "ytifbibbicplneaagreatdoor", sum := "f9bda14294bcaec19d54784aceb9446eefc846fe373d6b250bd0eef84ac40571", func := "familycheck/familychecklaw08.InvariantFilters", spec := "invariantFilters", inPlace := ["internal/abi.NoEscape", "internal/bytealg.MakeNoZero"], unfollowed := true, recurses := true, named := ["strings.asciiSpace", "unicode.White_Space"], apart := false, laid := [("unicode.White_Space", laid_unicode_White_Space), ("strings.asciiSpace", laid_strings_asciiSpace)], narrowed := true }
def InvariantFiltersUptoSaid : Prop := invariantFiltersUptoRow.holds Tryz.pinned (OpenSpec.upto invariantFiltersSpec)

end Rows
end Go.Proofs.YtifbibbicplneaaGreatDoor
