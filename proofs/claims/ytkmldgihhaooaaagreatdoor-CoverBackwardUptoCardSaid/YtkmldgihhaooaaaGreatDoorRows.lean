/-
  NARROWER THAN 'FOR EVERY INPUT', by the rows' own cells (each row's printed sentence says how): CoverChecks: laid · CoverFewerRules: laid · CoverFewerStarts: laid · CoverPres: laid · CoverBackward: laid · CoverSolves: laid · CoverClosed: laid · CoverAdjoint: laid.
  DERIVED. THE GIVEN ROWS OF THIS SEAT. 8 by the template 'for every input the law returns true; each argument reads behind the call as it read before'; 0 by the template 'total and deterministic' (their statements: YtkmldgihhaooaaaGreatDoorTotals.lean).
  GIVEN WITH THE SEED: the statements are not yours to turn. If you find one false, say at which input.
  Laid BY PROGRAM, IN A SANDBOX (cutbox-rows.mjs): the forced cells as the released guide's own fill.sh prints them over the translation 74cc51bbaaab7c81… (all of the seat's roots in one cut). By AI agents, Wed Nov 11 2026. No macro, syntax, notation, axiom, sorry.
-/
import Derived.Test.YtkmldgihhaooaaaGreatDoorChecked
import GoSem.Claim
import GoSem.ClaimJoined
import GoSem.ClaimMapViews
import Derived.JoinedTies
import Derived.KernelRfl
namespace Go.Proofs.YtkmldgihhaooaaaGreatDoor
/- THE CELL 'sum', in the pinned program and in every row, IS THE sha256 OF THE DUMP (.gsa) THAT YtkmldgihhaooaaaGreatDoorProg.lean LOADS. Nothing in Lean hashes anything: it is a label: what it is worth is what the hold of that sum in a sandbox is worth. -/
noncomputable def Tryz.pinned : Pinned := { name := "ytkmldgihhaooaaagreatdoor", sum := "74cc51bbaaab7c81d897bdb2cf47b9954dbd7609d9b84086cdfa021ac1867107", checked := Tryz.checked }
namespace Rows
def none {H : Type} : Left H := { results := [], args := [] }

/- WHAT THE LISTED PACKAGE-LEVEL VARIABLES READ AS WHEN THE CALL BEGINS. Each datum BY PROGRAM (the guide's laid-datum.mjs) off the statement by which the dump's own 'gosem.cut.vars' lays the variable. In a bare row this is a premise. The card (YtkmldgihhaooaaaGreatDoorCards.lean) ties it to the program's text. -/
def laid_unicode_White_Space {H : Type} : DataW H := .ptr (.agg [.slice [.agg [.lit (.int .u16 9), .lit (.int .u16 13), .lit (.int .u16 1)], .agg [.lit (.int .u16 32), .lit (.int .u16 133), .lit (.int .u16 101)], .agg [.lit (.int .u16 160), .lit (.int .u16 5760), .lit (.int .u16 5600)], .agg [.lit (.int .u16 8192), .lit (.int .u16 8202), .lit (.int .u16 1)], .agg [.lit (.int .u16 8232), .lit (.int .u16 8233), .lit (.int .u16 1)], .agg [.lit (.int .u16 8239), .lit (.int .u16 8287), .lit (.int .u16 48)], .agg [.lit (.int .u16 12288), .lit (.int .u16 12288), .lit (.int .u16 1)]] [], .nil, .lit (.int .i64 2)])
def laid_strings_asciiSpace {H : Type} : DataW H := .agg [.lit (.int .u8 0), .lit (.int .u8 0), .lit (.int .u8 0), .lit (.int .u8 0), .lit (.int .u8 0), .lit (.int .u8 0), .lit (.int .u8 0), .lit (.int .u8 0), .lit (.int .u8 0), .lit (.int .u8 1), .lit (.int .u8 1), .lit (.int .u8 1), .lit (.int .u8 1), .lit (.int .u8 1), .lit (.int .u8 0), .lit (.int .u8 0), .lit (.int .u8 0), .lit (.int .u8 0), .lit (.int .u8 0), .lit (.int .u8 0), .lit (.int .u8 0), .lit (.int .u8 0), .lit (.int .u8 0), .lit (.int .u8 0), .lit (.int .u8 0), .lit (.int .u8 0), .lit (.int .u8 0), .lit (.int .u8 0), .lit (.int .u8 0), .lit (.int .u8 0), .lit (.int .u8 0), .lit (.int .u8 0), .lit (.int .u8 1), .lit (.int .u8 0), .lit (.int .u8 0), .lit (.int .u8 0), .lit (.int .u8 0), .lit (.int .u8 0), .lit (.int .u8 0), .lit (.int .u8 0), .lit (.int .u8 0), .lit (.int .u8 0), .lit (.int .u8 0), .lit (.int .u8 0), .lit (.int .u8 0), .lit (.int .u8 0), .lit (.int .u8 0), .lit (.int .u8 0), .lit (.int .u8 0), .lit (.int .u8 0), .lit (.int .u8 0), .lit (.int .u8 0), .lit (.int .u8 0), .lit (.int .u8 0), .lit (.int .u8 0), .lit (.int .u8 0), .lit (.int .u8 0), .lit (.int .u8 0), .lit (.int .u8 0), .lit (.int .u8 0), .lit (.int .u8 0), .lit (.int .u8 0), .lit (.int .u8 0), .lit (.int .u8 0), .lit (.int .u8 0), .lit (.int .u8 0), .lit (.int .u8 0), .lit (.int .u8 0), .lit (.int .u8 0), .lit (.int .u8 0), .lit (.int .u8 0), .lit (.int .u8 0), .lit (.int .u8 0), .lit (.int .u8 0), .lit (.int .u8 0), .lit (.int .u8 0), .lit (.int .u8 0), .lit (.int .u8 0), .lit (.int .u8 0), .lit (.int .u8 0), .lit (.int .u8 0), .lit (.int .u8 0), .lit (.int .u8 0), .lit (.int .u8 0), .lit (.int .u8 0), .lit (.int .u8 0), .lit (.int .u8 0), .lit (.int .u8 0), .lit (.int .u8 0), .lit (.int .u8 0), .lit (.int .u8 0), .lit (.int .u8 0), .lit (.int .u8 0), .lit (.int .u8 0), .lit (.int .u8 0), .lit (.int .u8 0), .lit (.int .u8 0), .lit (.int .u8 0), .lit (.int .u8 0), .lit (.int .u8 0), .lit (.int .u8 0), .lit (.int .u8 0), .lit (.int .u8 0), .lit (.int .u8 0), .lit (.int .u8 0), .lit (.int .u8 0), .lit (.int .u8 0), .lit (.int .u8 0), .lit (.int .u8 0), .lit (.int .u8 0), .lit (.int .u8 0), .lit (.int .u8 0), .lit (.int .u8 0), .lit (.int .u8 0), .lit (.int .u8 0), .lit (.int .u8 0), .lit (.int .u8 0), .lit (.int .u8 0), .lit (.int .u8 0), .lit (.int .u8 0), .lit (.int .u8 0), .lit (.int .u8 0), .lit (.int .u8 0), .lit (.int .u8 0), .lit (.int .u8 0), .lit (.int .u8 0), .lit (.int .u8 0), .lit (.int .u8 0), .lit (.int .u8 0), .lit (.int .u8 0), .lit (.int .u8 0), .lit (.int .u8 0), .lit (.int .u8 0), .lit (.int .u8 0), .lit (.int .u8 0), .lit (.int .u8 0), .lit (.int .u8 0), .lit (.int .u8 0), .lit (.int .u8 0), .lit (.int .u8 0), .lit (.int .u8 0), .lit (.int .u8 0), .lit (.int .u8 0), .lit (.int .u8 0), .lit (.int .u8 0), .lit (.int .u8 0), .lit (.int .u8 0), .lit (.int .u8 0), .lit (.int .u8 0), .lit (.int .u8 0), .lit (.int .u8 0), .lit (.int .u8 0), .lit (.int .u8 0), .lit (.int .u8 0), .lit (.int .u8 0), .lit (.int .u8 0), .lit (.int .u8 0), .lit (.int .u8 0), .lit (.int .u8 0), .lit (.int .u8 0), .lit (.int .u8 0), .lit (.int .u8 0), .lit (.int .u8 0), .lit (.int .u8 0), .lit (.int .u8 0), .lit (.int .u8 0), .lit (.int .u8 0), .lit (.int .u8 0), .lit (.int .u8 0), .lit (.int .u8 0), .lit (.int .u8 0), .lit (.int .u8 0), .lit (.int .u8 0), .lit (.int .u8 0), .lit (.int .u8 0), .lit (.int .u8 0), .lit (.int .u8 0), .lit (.int .u8 0), .lit (.int .u8 0), .lit (.int .u8 0), .lit (.int .u8 0), .lit (.int .u8 0), .lit (.int .u8 0), .lit (.int .u8 0), .lit (.int .u8 0), .lit (.int .u8 0), .lit (.int .u8 0), .lit (.int .u8 0), .lit (.int .u8 0), .lit (.int .u8 0), .lit (.int .u8 0), .lit (.int .u8 0), .lit (.int .u8 0), .lit (.int .u8 0), .lit (.int .u8 0), .lit (.int .u8 0), .lit (.int .u8 0), .lit (.int .u8 0), .lit (.int .u8 0), .lit (.int .u8 0), .lit (.int .u8 0), .lit (.int .u8 0), .lit (.int .u8 0), .lit (.int .u8 0), .lit (.int .u8 0), .lit (.int .u8 0), .lit (.int .u8 0), .lit (.int .u8 0), .lit (.int .u8 0), .lit (.int .u8 0), .lit (.int .u8 0), .lit (.int .u8 0), .lit (.int .u8 0), .lit (.int .u8 0), .lit (.int .u8 0), .lit (.int .u8 0), .lit (.int .u8 0), .lit (.int .u8 0), .lit (.int .u8 0), .lit (.int .u8 0), .lit (.int .u8 0), .lit (.int .u8 0), .lit (.int .u8 0), .lit (.int .u8 0), .lit (.int .u8 0), .lit (.int .u8 0), .lit (.int .u8 0), .lit (.int .u8 0), .lit (.int .u8 0), .lit (.int .u8 0), .lit (.int .u8 0), .lit (.int .u8 0), .lit (.int .u8 0), .lit (.int .u8 0), .lit (.int .u8 0), .lit (.int .u8 0), .lit (.int .u8 0), .lit (.int .u8 0), .lit (.int .u8 0), .lit (.int .u8 0), .lit (.int .u8 0), .lit (.int .u8 0), .lit (.int .u8 0), .lit (.int .u8 0), .lit (.int .u8 0), .lit (.int .u8 0), .lit (.int .u8 0), .lit (.int .u8 0), .lit (.int .u8 0), .lit (.int .u8 0), .lit (.int .u8 0), .lit (.int .u8 0), .lit (.int .u8 0), .lit (.int .u8 0), .lit (.int .u8 0), .lit (.int .u8 0)]

/-- 'familychecklaw05.CoverChecks': WHATEVER THE INPUT: true; the input reads as it did. -/
def coverChecksSpec : ChangeSpec := { name := "coverChecks", fn := fun _ => fun
  | [d1, d2, d3] => { results := [.lit (.bool true)], args := [d1, d2, d3] }
  | _ => none }
def coverChecksRow : OpenClaim := { program := "ytkmldgihhaooaaagreatdoor", sum := "74cc51bbaaab7c81d897bdb2cf47b9954dbd7609d9b84086cdfa021ac1867107", func := "familycheck/familychecklaw05.CoverChecks", spec := "coverChecks", unfollowed := true, recurses := true, named := ["strings.asciiSpace", "unicode.White_Space"], apart := false, laid := [("unicode.White_Space", laid_unicode_White_Space), ("strings.asciiSpace", laid_strings_asciiSpace)] }
def CoverChecksSaid : Prop := coverChecksRow.holds Tryz.pinned (OpenSpec.ofChange coverChecksSpec)

/-- ITS FALSE NEIGHBOUR: 'it returns false'. Refute it at one input. -/
def coverChecksWrong : ChangeSpec := { name := "coverChecks", fn := fun _ => fun
  | [d1, d2, d3] => { results := [.lit (.bool false)], args := [d1, d2, d3] }
  | _ => none }
def CoverChecksWrongFalsely : Prop := coverChecksRow.holds Tryz.pinned (OpenSpec.ofChange coverChecksWrong)

/-- 'familychecklaw05.CoverFewerRules': WHATEVER THE INPUT: true; the input reads as it did. -/
def coverFewerRulesSpec : ChangeSpec := { name := "coverFewerRules", fn := fun _ => fun
  | [d1, d2, d3] => { results := [.lit (.bool true)], args := [d1, d2, d3] }
  | _ => none }
def coverFewerRulesRow : OpenClaim := { program := "ytkmldgihhaooaaagreatdoor", sum := "74cc51bbaaab7c81d897bdb2cf47b9954dbd7609d9b84086cdfa021ac1867107", func := "familycheck/familychecklaw05.CoverFewerRules", spec := "coverFewerRules", unfollowed := true, recurses := true, named := ["strings.asciiSpace", "unicode.White_Space"], apart := false, laid := [("unicode.White_Space", laid_unicode_White_Space), ("strings.asciiSpace", laid_strings_asciiSpace)] }
def CoverFewerRulesSaid : Prop := coverFewerRulesRow.holds Tryz.pinned (OpenSpec.ofChange coverFewerRulesSpec)

/-- ITS FALSE NEIGHBOUR: 'it returns false'. Refute it at one input. -/
def coverFewerRulesWrong : ChangeSpec := { name := "coverFewerRules", fn := fun _ => fun
  | [d1, d2, d3] => { results := [.lit (.bool false)], args := [d1, d2, d3] }
  | _ => none }
def CoverFewerRulesWrongFalsely : Prop := coverFewerRulesRow.holds Tryz.pinned (OpenSpec.ofChange coverFewerRulesWrong)

/-- 'familychecklaw05.CoverFewerStarts': WHATEVER THE INPUT: true; the input reads as it did. -/
def coverFewerStartsSpec : ChangeSpec := { name := "coverFewerStarts", fn := fun _ => fun
  | [d1, d2, d3] => { results := [.lit (.bool true)], args := [d1, d2, d3] }
  | _ => none }
def coverFewerStartsRow : OpenClaim := { program := "ytkmldgihhaooaaagreatdoor", sum := "74cc51bbaaab7c81d897bdb2cf47b9954dbd7609d9b84086cdfa021ac1867107", func := "familycheck/familychecklaw05.CoverFewerStarts", spec := "coverFewerStarts", unfollowed := true, recurses := true, named := ["strings.asciiSpace", "unicode.White_Space"], apart := false, laid := [("unicode.White_Space", laid_unicode_White_Space), ("strings.asciiSpace", laid_strings_asciiSpace)] }
def CoverFewerStartsSaid : Prop := coverFewerStartsRow.holds Tryz.pinned (OpenSpec.ofChange coverFewerStartsSpec)

/-- ITS FALSE NEIGHBOUR: 'it returns false'. Refute it at one input. -/
def coverFewerStartsWrong : ChangeSpec := { name := "coverFewerStarts", fn := fun _ => fun
  | [d1, d2, d3] => { results := [.lit (.bool false)], args := [d1, d2, d3] }
  | _ => none }
def CoverFewerStartsWrongFalsely : Prop := coverFewerStartsRow.holds Tryz.pinned (OpenSpec.ofChange coverFewerStartsWrong)

/-- 'familychecklaw05.CoverPres': WHATEVER THE INPUT: true; the input reads as it did. -/
def coverPresSpec : ChangeSpec := { name := "coverPres", fn := fun _ => fun
  | [d1, d2, d3] => { results := [.lit (.bool true)], args := [d1, d2, d3] }
  | _ => none }
def coverPresRow : OpenClaim := { program := "ytkmldgihhaooaaagreatdoor", sum := "74cc51bbaaab7c81d897bdb2cf47b9954dbd7609d9b84086cdfa021ac1867107", func := "familycheck/familychecklaw05.CoverPres", spec := "coverPres", unfollowed := true, recurses := true, named := ["strings.asciiSpace", "unicode.White_Space"], apart := false, laid := [("unicode.White_Space", laid_unicode_White_Space), ("strings.asciiSpace", laid_strings_asciiSpace)] }
def CoverPresSaid : Prop := coverPresRow.holds Tryz.pinned (OpenSpec.ofChange coverPresSpec)

/-- ITS FALSE NEIGHBOUR: 'it returns false'. Refute it at one input. -/
def coverPresWrong : ChangeSpec := { name := "coverPres", fn := fun _ => fun
  | [d1, d2, d3] => { results := [.lit (.bool false)], args := [d1, d2, d3] }
  | _ => none }
def CoverPresWrongFalsely : Prop := coverPresRow.holds Tryz.pinned (OpenSpec.ofChange coverPresWrong)

/-- 'familychecklaw05.CoverBackward': WHATEVER THE INPUT: true; the input reads as it did. -/
def coverBackwardSpec : ChangeSpec := { name := "coverBackward", fn := fun _ => fun
  | [d1, d2, d3] => { results := [.lit (.bool true)], args := [d1, d2, d3] }
  | _ => none }
def coverBackwardRow : OpenClaim := { program := "ytkmldgihhaooaaagreatdoor", sum := "74cc51bbaaab7c81d897bdb2cf47b9954dbd7609d9b84086cdfa021ac1867107", func := "familycheck/familychecklaw05.CoverBackward", spec := "coverBackward", unfollowed := true, recurses := true, named := ["strings.asciiSpace", "unicode.White_Space"], apart := false, laid := [("unicode.White_Space", laid_unicode_White_Space), ("strings.asciiSpace", laid_strings_asciiSpace)] }
def CoverBackwardSaid : Prop := coverBackwardRow.holds Tryz.pinned (OpenSpec.ofChange coverBackwardSpec)

/-- ITS FALSE NEIGHBOUR: 'it returns false'. Refute it at one input. -/
def coverBackwardWrong : ChangeSpec := { name := "coverBackward", fn := fun _ => fun
  | [d1, d2, d3] => { results := [.lit (.bool false)], args := [d1, d2, d3] }
  | _ => none }
def CoverBackwardWrongFalsely : Prop := coverBackwardRow.holds Tryz.pinned (OpenSpec.ofChange coverBackwardWrong)

/-- 'familychecklaw05.CoverSolves': WHATEVER THE INPUT: true; the input reads as it did. -/
def coverSolvesSpec : ChangeSpec := { name := "coverSolves", fn := fun _ => fun
  | [d1, d2, d3] => { results := [.lit (.bool true)], args := [d1, d2, d3] }
  | _ => none }
def coverSolvesRow : OpenClaim := { program := "ytkmldgihhaooaaagreatdoor", sum := "74cc51bbaaab7c81d897bdb2cf47b9954dbd7609d9b84086cdfa021ac1867107", func := "familycheck/familychecklaw05.CoverSolves", spec := "coverSolves", unfollowed := true, recurses := true, named := ["strings.asciiSpace", "unicode.White_Space"], apart := false, laid := [("unicode.White_Space", laid_unicode_White_Space), ("strings.asciiSpace", laid_strings_asciiSpace)] }
def CoverSolvesSaid : Prop := coverSolvesRow.holds Tryz.pinned (OpenSpec.ofChange coverSolvesSpec)

/-- ITS FALSE NEIGHBOUR: 'it returns false'. Refute it at one input. -/
def coverSolvesWrong : ChangeSpec := { name := "coverSolves", fn := fun _ => fun
  | [d1, d2, d3] => { results := [.lit (.bool false)], args := [d1, d2, d3] }
  | _ => none }
def CoverSolvesWrongFalsely : Prop := coverSolvesRow.holds Tryz.pinned (OpenSpec.ofChange coverSolvesWrong)

/-- 'familychecklaw05.CoverClosed': WHATEVER THE INPUT: true; the input reads as it did. -/
def coverClosedSpec : ChangeSpec := { name := "coverClosed", fn := fun _ => fun
  | [d1, d2, d3] => { results := [.lit (.bool true)], args := [d1, d2, d3] }
  | _ => none }
def coverClosedRow : OpenClaim := { program := "ytkmldgihhaooaaagreatdoor", sum := "74cc51bbaaab7c81d897bdb2cf47b9954dbd7609d9b84086cdfa021ac1867107", func := "familycheck/familychecklaw05.CoverClosed", spec := "coverClosed", unfollowed := true, recurses := true, named := ["strings.asciiSpace", "unicode.White_Space"], apart := false, laid := [("unicode.White_Space", laid_unicode_White_Space), ("strings.asciiSpace", laid_strings_asciiSpace)] }
def CoverClosedSaid : Prop := coverClosedRow.holds Tryz.pinned (OpenSpec.ofChange coverClosedSpec)

/-- ITS FALSE NEIGHBOUR: 'it returns false'. Refute it at one input. -/
def coverClosedWrong : ChangeSpec := { name := "coverClosed", fn := fun _ => fun
  | [d1, d2, d3] => { results := [.lit (.bool false)], args := [d1, d2, d3] }
  | _ => none }
def CoverClosedWrongFalsely : Prop := coverClosedRow.holds Tryz.pinned (OpenSpec.ofChange coverClosedWrong)

/-- 'familychecklaw05.CoverAdjoint': WHATEVER THE INPUT: true; the input reads as it did. -/
def coverAdjointSpec : ChangeSpec := { name := "coverAdjoint", fn := fun _ => fun
  | [d1, d2, d3] => { results := [.lit (.bool true)], args := [d1, d2, d3] }
  | _ => none }
def coverAdjointRow : OpenClaim := { program := "ytkmldgihhaooaaagreatdoor", sum := "74cc51bbaaab7c81d897bdb2cf47b9954dbd7609d9b84086cdfa021ac1867107", func := "familycheck/familychecklaw05.CoverAdjoint", spec := "coverAdjoint", unfollowed := true, recurses := true, named := ["strings.asciiSpace", "unicode.White_Space"], apart := false, laid := [("unicode.White_Space", laid_unicode_White_Space), ("strings.asciiSpace", laid_strings_asciiSpace)] }
def CoverAdjointSaid : Prop := coverAdjointRow.holds Tryz.pinned (OpenSpec.ofChange coverAdjointSpec)

/-- ITS FALSE NEIGHBOUR: 'it returns false'. Refute it at one input. -/
def coverAdjointWrong : ChangeSpec := { name := "coverAdjoint", fn := fun _ => fun
  | [d1, d2, d3] => { results := [.lit (.bool false)], args := [d1, d2, d3] }
  | _ => none }
def CoverAdjointWrongFalsely : Prop := coverAdjointRow.holds Tryz.pinned (OpenSpec.ofChange coverAdjointWrong)

/- THE SECOND FORM. 'bulk': how many values and letters a reading holds, each counted each time it is reached (what is shared counts as often as it is met; a slice's spare places count too). A statement '..UptoSaid' is the law's where the arguments, and the package variables that the reading takes, are together of bulk at most 1048576: NARROWER than '..Said'. Prove '..Said' where nothing that the law and all that it calls make is longer than what came in: it says more and counts as full. Else prove '..UptoSaid'. A law counts once. -/
mutual
def uptoBulk {H : Type} : DataW H → Nat
  | .lit (.string bytes) => bytes.length + 1
  | .lit _ => 1
  | .nil => 1
  | .ptr d => uptoBulk d + 1
  | .slice elems spare => uptoBulkAll elems + uptoBulkAll spare + 1
  | .agg parts => uptoBulkAll parts + 1
  | .iface _ d => uptoBulk d + 1
  | .map entries => uptoBulkEntries entries + 1
  | .held _ => 1
def uptoBulkAll {H : Type} : List (DataW H) → Nat
  | [] => 0
  | d :: r => uptoBulk d + uptoBulkAll r
def uptoBulkEntries {H : Type} : List (Lit × DataW H) → Nat
  | [] => 0
  | x :: r => uptoBulkEntry x + uptoBulkEntries r
def uptoBulkEntry {H : Type} : Lit × DataW H → Nat
  | (.string bytes, d) => bytes.length + uptoBulk d + 1
  | (_, d) => uptoBulk d + 1
 end
def uptoSmall : (H : Type) → List (DataW H) → Bool := fun _ ds => decide (uptoBulkAll ds ≤ 1048576)
def OpenSpec.upto (s : _root_.Go.ChangeSpec) : _root_.Go.OpenSpec := { _root_.Go.OpenSpec.ofChange s with cond := some uptoSmall }

/-- 'familychecklaw05.CoverChecks', WHERE WHAT IT READS IS OF BULK AT MOST 1048576: true; the input reads as it did. -/
def coverChecksUptoRow : OpenClaim := { program := "ytkmldgihhaooaaagreatdoor", sum := "74cc51bbaaab7c81d897bdb2cf47b9954dbd7609d9b84086cdfa021ac1867107", func := "familycheck/familychecklaw05.CoverChecks", spec := "coverChecks", unfollowed := true, recurses := true, named := ["strings.asciiSpace", "unicode.White_Space"], apart := false, laid := [("unicode.White_Space", laid_unicode_White_Space), ("strings.asciiSpace", laid_strings_asciiSpace)], narrowed := true }
def CoverChecksUptoSaid : Prop := coverChecksUptoRow.holds Tryz.pinned (OpenSpec.upto coverChecksSpec)

/-- 'familychecklaw05.CoverFewerRules', WHERE WHAT IT READS IS OF BULK AT MOST 1048576: true; the input reads as it did. -/
def coverFewerRulesUptoRow : OpenClaim := { program := "ytkmldgihhaooaaagreatdoor", sum := "74cc51bbaaab7c81d897bdb2cf47b9954dbd7609d9b84086cdfa021ac1867107", func := "familycheck/familychecklaw05.CoverFewerRules", spec := "coverFewerRules", unfollowed := true, recurses := true, named := ["strings.asciiSpace", "unicode.White_Space"], apart := false, laid := [("unicode.White_Space", laid_unicode_White_Space), ("strings.asciiSpace", laid_strings_asciiSpace)], narrowed := true }
def CoverFewerRulesUptoSaid : Prop := coverFewerRulesUptoRow.holds Tryz.pinned (OpenSpec.upto coverFewerRulesSpec)

/-- 'familychecklaw05.CoverFewerStarts', WHERE WHAT IT READS IS OF BULK AT MOST 1048576: true; the input reads as it did. -/
def coverFewerStartsUptoRow : OpenClaim := { program := "ytkmldgihhaooaaagreatdoor", sum := "74cc51bbaaab7c81d897bdb2cf47b9954dbd7609d9b84086cdfa021ac1867107", func := "familycheck/familychecklaw05.CoverFewerStarts", spec := "coverFewerStarts", unfollowed := true, recurses := true, named := ["strings.asciiSpace", "unicode.White_Space"], apart := false, laid := [("unicode.White_Space", laid_unicode_White_Space), ("strings.asciiSpace", laid_strings_asciiSpace)], narrowed := true }
def CoverFewerStartsUptoSaid : Prop := coverFewerStartsUptoRow.holds Tryz.pinned (OpenSpec.upto coverFewerStartsSpec)

/-- 'familychecklaw05.CoverPres', WHERE WHAT IT READS IS OF BULK AT MOST 1048576: true; the input reads as it did. -/
def coverPresUptoRow : OpenClaim := { program := "ytkmldgihhaooaaagreatdoor", sum := "74cc51bbaaab7c81d897bdb2cf47b9954dbd7609d9b84086cdfa021ac1867107", func := "familycheck/familychecklaw05.CoverPres", spec := "coverPres", unfollowed := true, recurses := true, named := ["strings.asciiSpace", "unicode.White_Space"], apart := false, laid := [("unicode.White_Space", laid_unicode_White_Space), ("strings.asciiSpace", laid_strings_asciiSpace)], narrowed := true }
def CoverPresUptoSaid : Prop := coverPresUptoRow.holds Tryz.pinned (OpenSpec.upto coverPresSpec)

/-- 'familychecklaw05.CoverBackward', WHERE WHAT IT READS IS OF BULK AT MOST 1048576: true; the input reads as it did. -/
def coverBackwardUptoRow : OpenClaim := { program := "ytkmldgihhaooaaagreatdoor", sum := "74cc51bbaaab7c81d897bdb2cf47b9954dbd7609d9b84086cdfa021ac1867107", func := "familycheck/familychecklaw05.CoverBackward", spec := "coverBackward", unfollowed := true, recurses := true, named := ["strings.asciiSpace", "unicode.White_Space"], apart := false, laid := [("unicode.White_Space", laid_unicode_White_Space), ("strings.asciiSpace", laid_strings_asciiSpace)], narrowed := true }
def CoverBackwardUptoSaid : Prop := coverBackwardUptoRow.holds Tryz.pinned (OpenSpec.upto coverBackwardSpec)

/-- 'familychecklaw05.CoverSolves', WHERE WHAT IT READS IS OF BULK AT MOST 1048576: true; the input reads as it did. -/
def coverSolvesUptoRow : OpenClaim := { program := "ytkmldgihhaooaaagreatdoor", sum := "74cc51bbaaab7c81d897bdb2cf47b9954dbd7609d9b84086cdfa021ac1867107", func := "familycheck/familychecklaw05.CoverSolves", spec := "coverSolves", unfollowed := true, recurses := true, named := ["strings.asciiSpace", "unicode.White_Space"], apart := false, laid := [("unicode.White_Space", laid_unicode_White_Space), ("strings.asciiSpace", laid_strings_asciiSpace)], narrowed := true }
def CoverSolvesUptoSaid : Prop := coverSolvesUptoRow.holds Tryz.pinned (OpenSpec.upto coverSolvesSpec)

/-- 'familychecklaw05.CoverClosed', WHERE WHAT IT READS IS OF BULK AT MOST 1048576: true; the input reads as it did. -/
def coverClosedUptoRow : OpenClaim := { program := "ytkmldgihhaooaaagreatdoor", sum := "74cc51bbaaab7c81d897bdb2cf47b9954dbd7609d9b84086cdfa021ac1867107", func := "familycheck/familychecklaw05.CoverClosed", spec := "coverClosed", unfollowed := true, recurses := true, named := ["strings.asciiSpace", "unicode.White_Space"], apart := false, laid := [("unicode.White_Space", laid_unicode_White_Space), ("strings.asciiSpace", laid_strings_asciiSpace)], narrowed := true }
def CoverClosedUptoSaid : Prop := coverClosedUptoRow.holds Tryz.pinned (OpenSpec.upto coverClosedSpec)

/-- 'familychecklaw05.CoverAdjoint', WHERE WHAT IT READS IS OF BULK AT MOST 1048576: true; the input reads as it did. -/
def coverAdjointUptoRow : OpenClaim := { program := "ytkmldgihhaooaaagreatdoor", sum := "74cc51bbaaab7c81d897bdb2cf47b9954dbd7609d9b84086cdfa021ac1867107", func := "familycheck/familychecklaw05.CoverAdjoint", spec := "coverAdjoint", unfollowed := true, recurses := true, named := ["strings.asciiSpace", "unicode.White_Space"], apart := false, laid := [("unicode.White_Space", laid_unicode_White_Space), ("strings.asciiSpace", laid_strings_asciiSpace)], narrowed := true }
def CoverAdjointUptoSaid : Prop := coverAdjointUptoRow.holds Tryz.pinned (OpenSpec.upto coverAdjointSpec)

end Rows
end Go.Proofs.YtkmldgihhaooaaaGreatDoor
