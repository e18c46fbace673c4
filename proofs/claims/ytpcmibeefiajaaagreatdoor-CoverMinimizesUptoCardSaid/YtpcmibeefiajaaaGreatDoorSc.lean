/-
  The codes of the program's functions, in the form that the layer reads, and that they are these. No condition.
-/
import Derived.Shelf.SlGeneric
import Derived.Shelf.LaysM
import Derived.Shelf.Strings.SplitShaped
import Derived.Shelf.SlSortCmp.WholeK
import Derived.Shelf.Spec.SlicesGrow
import Derived.Ground.NamesProg
import Derived.Ground.SlsfProg
import Derived.Test.YtpcmibeefiajaaaGreatDoorProg
import Derived.Test.YtpcmibeefiajaaaGreatDoorSb
import Derived.Test.YtpcmibeefiajaaaGreatDoorLg
namespace Go.Proofs.YtpcmibeefiajaaaGreatDoor
open Go.Ab Go.Proofs
set_option maxRecDepth 100000
def xtab (f : Nat) : Option FnX :=
  (bif Nat.blt f 47 then (bif Nat.blt f 25 then (bif Nat.blt f 14 then (bif Nat.blt f 8 then (bif Nat.blt f 5 then (bif Nat.blt f 4 then (bif Nat.beq f 3 then some ⟨C.law05_CoverMinimizes, [.slot 4], 47⟩ else none) else (bif Nat.beq f 4 then some ⟨C.law05_wide, [.slot 2], 20⟩ else none)) else (bif Nat.blt f 6 then (bif Nat.beq f 5 then some ⟨C.law05_sane, [.slot 0], 43⟩ else none) else (bif Nat.blt f 7 then (bif Nat.beq f 6 then some ⟨C.cover_Minimize, [.slot 2], 33⟩ else none) else (bif Nat.beq f 7 then some ⟨C.r05_Same, [.slot 4], 27⟩ else none)))) else (bif Nat.blt f 11 then (bif Nat.blt f 9 then (bif Nat.beq f 8 then some ⟨C.r05_Minimize, [.slot 2], 40⟩ else none) else (bif Nat.blt f 10 then (bif Nat.beq f 9 then some ⟨C.cover_Contains, [.slot 4], 17⟩ else none) else (bif Nat.beq f 10 then some ⟨C.r05_Contains, [.slot 4], 18⟩ else none))) else (bif Nat.blt f 12 then (bif Nat.beq f 11 then some ⟨C.cover_Solve, [.cell 6 5, .slot 7], 75⟩ else none) else (bif Nat.blt f 13 then (bif Nat.beq f 12 then some ⟨C.familycheckplay_Mutex, [.cell 0 11], 9⟩ else none) else (bif Nat.beq f 13 then some ⟨C.familycheckplay_Exclusion, [.cell 0 7], 5⟩ else none))))) else (bif Nat.blt f 19 then (bif Nat.blt f 16 then (bif Nat.blt f 15 then (bif Nat.beq f 14 then some ⟨C.cover_CheckBasis, [.slot 6], 64⟩ else none) else (bif Nat.beq f 15 then some ⟨C.cover_item_above, [.slot 4], 16⟩ else none)) else (bif Nat.blt f 17 then (bif Nat.beq f 16 then some ⟨C.slices_ContainsFunc_Lapi_Element_api_Element, [.slot 4], 9⟩ else none) else (bif Nat.blt f 18 then (bif Nat.beq f 17 then some ⟨C.cover_item_copied, [.cell 2 3], 11⟩ else none) else (bif Nat.beq f 18 then some ⟨C.cover_tidy, [.slot 2], 7⟩ else none)))) else (bif Nat.blt f 22 then (bif Nat.blt f 20 then (bif Nat.beq f 19 then some ⟨C.r05_Compare, [.slot 4], 20⟩ else none) else (bif Nat.blt f 21 then (bif Nat.beq f 20 then some ⟨C.r05_Insert, [.slot 4], 62⟩ else none) else (bif Nat.beq f 21 then some ⟨C.cover_Leq, [.slot 4], 37⟩ else none))) else (bif Nat.blt f 23 then (bif Nat.beq f 22 then some ⟨C.r05_Leq, [.slot 4], 38⟩ else none) else (bif Nat.blt f 24 then (bif Nat.beq f 23 then some ⟨C.cover_Check, [.slot 4], 27⟩ else none) else (bif Nat.beq f 24 then some ⟨C.cover_backward, [.slot 6, .slot 7, .slot 8, .slot 9], 62⟩ else none)))))) else (bif Nat.blt f 36 then (bif Nat.blt f 30 then (bif Nat.blt f 27 then (bif Nat.blt f 26 then (bif Nat.beq f 25 then some ⟨C.cover_Total, [.slot 2], 28⟩ else none) else (bif Nat.beq f 26 then some ⟨C.cover_initial, [.slot 6], 37⟩ else none)) else (bif Nat.blt f 28 then (bif Nat.beq f 27 then some ⟨C.cover_validElement, [.slot 4], 32⟩ else none) else (bif Nat.blt f 29 then (bif Nat.beq f 28 then some ⟨C.cover_badElements, [.slot 4], 58⟩ else none) else (bif Nat.beq f 29 then some ⟨C.cover_CheckRule, [.slot 8], 55⟩ else none)))) else (bif Nat.blt f 33 then (bif Nat.blt f 31 then (bif Nat.beq f 30 then some ⟨C.cover_Compare, [.slot 4], 17⟩ else none) else (bif Nat.blt f 32 then (bif Nat.beq f 31 then some ⟨C.slices_IndexFunc_Lapi_Element_api_Element, [.slot 4], 19⟩ else none) else (bif Nat.beq f 32 then some ⟨C.slices_SortFunc_Lapi_Element_api_Element, [], 14⟩ else none))) else (bif Nat.blt f 34 then (bif Nat.beq f 33 then some ⟨C.slices_CompactFunc_Lapi_Element_api_Element, [.slot 4], 66⟩ else none) else (bif Nat.blt f 35 then (bif Nat.beq f 34 then some ⟨C.cover_tidy_c1, [.slot 4], 9⟩ else none) else (bif Nat.beq f 35 then some ⟨C.r05_Lists, [.slot 4], 46⟩ else none))))) else (bif Nat.blt f 41 then (bif Nat.blt f 38 then (bif Nat.blt f 37 then (bif Nat.beq f 36 then some ⟨C.r05_Copy, [.cell 2 3], 10⟩ else none) else (bif Nat.beq f 37 then some ⟨C.protocol_ValidateProperty, [.slot 4], 116⟩ else none)) else (bif Nat.blt f 39 then (bif Nat.beq f 38 then some ⟨C.protocol_Classify, [.cell 2 6, .slot 3], 112⟩ else none) else (bif Nat.blt f 40 then (bif Nat.beq f 39 then some ⟨C.slices_Clone_Lapi_Element_api_Element, [.slot 2], 8⟩ else none) else (bif Nat.beq f 40 then some ⟨C.cover_pre, [.slot 4, .slot 5], 39⟩ else none)))) else (bif Nat.blt f 44 then (bif Nat.blt f 42 then (bif Nat.beq f 41 then some ⟨C.cover_minimalOf, [.slot 2], 25⟩ else none) else (bif Nat.blt f 43 then (bif Nat.beq f 42 then some ⟨C.n42, [.slot 6], 32⟩ else none) else (bif Nat.beq f 43 then some ⟨C.cover_backward_c1, [.slot 4], 9⟩ else none))) else (bif Nat.blt f 45 then (bif Nat.beq f 44 then some ⟨C.cover_inRange, [.slot 2], 18⟩ else none) else (bif Nat.blt f 46 then (bif Nat.beq f 45 then some ⟨C.protocol_Starts, [.slot 4, .slot 5], 23⟩ else none) else (bif Nat.beq f 46 then some ⟨C.slices_Contains_Lint_int, [.slot 4], 9⟩ else none))))))) else (bif Nat.blt f 78 then (bif Nat.blt f 59 then (bif Nat.blt f 52 then (bif Nat.blt f 49 then (bif Nat.blt f 48 then (bif Nat.beq f 47 then some ⟨C.cover_badCounts, [.slot 4], 36⟩ else none) else (bif Nat.beq f 48 then some ⟨C.cover_PreRule, [.slot 6, .slot 7], 40⟩ else none)) else (bif Nat.blt f 50 then (bif Nat.beq f 49 then some ⟨C.cmp_Or_int, [.slot 2], 18⟩ else none) else (bif Nat.blt f 51 then (bif Nat.beq f 50 then some ⟨C.cmp_Compare_int, [.slot 4], 20⟩ else none) else (bif Nat.beq f 51 then some ⟨C.slices_Compare_Lint_int, [.slot 4], 36⟩ else none)))) else (bif Nat.blt f 56 then (bif Nat.blt f 53 then (bif Nat.beq f 52 then some ⟨C.slices_pdqsortCmpFunc_api_Element, [], 148⟩ else none) else (bif Nat.blt f 54 then (bif Nat.beq f 53 then some ⟨C.math_bits_Len, [.slot 2], 8⟩ else none) else (bif Nat.beq f 54 then some ⟨C.protocol_Validate, [.slot 2], 157⟩ else none))) else (bif Nat.blt f 57 then (bif Nat.beq f 56 then some ⟨C.protocol_set, [.slot 4], 38⟩ else none) else (bif Nat.blt f 58 then (bif Nat.beq f 57 then some ⟨C.protocol_first, [.slot 2], 15⟩ else none) else (bif Nat.beq f 58 then some ⟨C.protocol_when, [.slot 4], 7⟩ else none))))) else (bif Nat.blt f 64 then (bif Nat.blt f 61 then (bif Nat.blt f 60 then (bif Nat.beq f 59 then some ⟨C.protocol_counts, [.slot 4], 39⟩ else none) else (bif Nat.beq f 60 then some ⟨C.protocol_adjacent, [.slot 4], 30⟩ else none)) else (bif Nat.blt f 62 then (bif Nat.beq f 61 then some ⟨C.cover_before, [.slot 6, .slot 7], 67⟩ else none) else (bif Nat.blt f 63 then (bif Nat.beq f 62 then some ⟨C.slices_SortStableFunc_Lapi_Element_api_Element, [], 9⟩ else none) else (bif Nat.beq f 63 then some ⟨C.cover_minimalOf_c1, [.slot 4], 10⟩ else none)))) else (bif Nat.blt f 67 then (bif Nat.blt f 65 then (bif Nat.beq f 64 then some ⟨C.slices_Clone_Lint_int, [.slot 2], 8⟩ else none) else (bif Nat.blt f 66 then (bif Nat.beq f 65 then some ⟨C.slices_Index_Lint_int, [.slot 4], 19⟩ else none) else (bif Nat.beq f 66 then some ⟨C.cover_checkCover, [.slot 2], 18⟩ else none))) else (bif Nat.blt f 68 then (bif Nat.beq f 67 then some ⟨C.cmp_isNaN_int, [.slot 2], 6⟩ else none) else (bif Nat.blt f 77 then (bif Nat.beq f 68 then some ⟨C.slices_insertionSortCmpFunc_api_Element, [], 53⟩ else none) else (bif Nat.beq f 77 then some ⟨C.math_bits_Len64, [.slot 2], 25⟩ else none)))))) else (bif Nat.blt f 96 then (bif Nat.blt f 84 then (bif Nat.blt f 81 then (bif Nat.blt f 80 then (bif Nat.beq f 78 then some ⟨C.protocol_names, [.slot 2], 32⟩ else none) else (bif Nat.beq f 80 then some ⟨C.protocol_ruleError, [.slot 4], 188⟩ else none)) else (bif Nat.blt f 82 then (bif Nat.beq f 81 then some ⟨C.protocol_thresholds, [.slot 2], 33⟩ else none) else (bif Nat.blt f 83 then (bif Nat.beq f 82 then some ⟨C.protocol_isReserved, [.slot 2], 6⟩ else none) else (bif Nat.beq f 83 then some ⟨C.protocol_index, [.slot 4], 13⟩ else none)))) else (bif Nat.blt f 92 then (bif Nat.blt f 85 then (bif Nat.beq f 84 then some ⟨C.cover_valuesBefore, [.slot 6], 56⟩ else none) else (bif Nat.blt f 86 then (bif Nat.beq f 85 then some ⟨C.cover_countsBefore, [.slot 4, .slot 5], 79⟩ else none) else (bif Nat.beq f 86 then some ⟨C.slices_stableCmpFunc_api_Element, [], 63⟩ else none))) else (bif Nat.blt f 93 then (bif Nat.beq f 92 then some ⟨C.slices_Concat_Lstring_string, [.slot 2], 36⟩ else none) else (bif Nat.blt f 95 then (bif Nat.beq f 93 then some ⟨C.slices_Contains_Lstring_string, [.slot 4], 9⟩ else none) else (bif Nat.beq f 95 then some ⟨C.slices_ContainsFunc_Lapi_Rule_api_Rule, [.slot 4], 9⟩ else none))))) else (bif Nat.blt f 106 then (bif Nat.blt f 99 then (bif Nat.blt f 97 then (bif Nat.beq f 96 then some ⟨C.protocol_ruleError_c1, [.slot 3], 9⟩ else none) else (bif Nat.blt f 98 then (bif Nat.beq f 97 then some ⟨C.protocol_fits, [.slot 4], 17⟩ else none) else (bif Nat.beq f 98 then some ⟨C.protocol_surplus, [.slot 4], 105⟩ else none))) else (bif Nat.blt f 100 then (bif Nat.beq f 99 then some ⟨C.protocol_guards, [.slot 4], 44⟩ else none) else (bif Nat.blt f 104 then (bif Nat.beq f 100 then some ⟨C.protocol_value, [.slot 4], 15⟩ else none) else (bif Nat.beq f 104 then some ⟨C.cover_withWitness, [.slot 4], 35⟩ else none)))) else (bif Nat.blt f 114 then (bif Nat.blt f 109 then (bif Nat.beq f 106 then some ⟨C.slices_symMergeCmpFunc_api_Element, [], 220⟩ else none) else (bif Nat.blt f 110 then (bif Nat.beq f 109 then some ⟨C.slices_Index_Lstring_string, [.slot 4], 19⟩ else none) else (bif Nat.beq f 110 then some ⟨C.slices_IndexFunc_Lapi_Rule_api_Rule, [.slot 4], 19⟩ else none))) else (bif Nat.blt f 116 then (bif Nat.beq f 114 then some ⟨C.cover_allowed, [.slot 4], 41⟩ else none) else (bif Nat.blt f 118 then (bif Nat.beq f 116 then some ⟨C.slices_rotateCmpFunc_api_Element, [], 58⟩ else none) else (bif Nat.beq f 118 then some ⟨C.slices_swapRangeCmpFunc_api_Element, [], 38⟩ else none))))))))
theorem xtab_ok : TabOk Tryz.prog xtab := fun f b h => TabAt.use (.node (.node (.node (.node (.node (.node (.leaf Bd.law05_CoverMinimizes) (.leaf Bd.law05_wide)) (.node (.leaf Bd.law05_sane) (.node (.leaf Bd.cover_Minimize) (.leaf Bd.r05_Same)))) (.node (.node (.leaf Bd.r05_Minimize) (.node (.leaf Bd.cover_Contains) (.leaf Bd.r05_Contains))) (.node (.leaf Bd.cover_Solve) (.node (.leaf Bd.familycheckplay_Mutex) (.leaf Bd.familycheckplay_Exclusion))))) (.node (.node (.node (.leaf Bd.cover_CheckBasis) (.leaf Bd.cover_item_above)) (.node (.leaf Bd.slices_ContainsFunc_Lapi_Element_api_Element) (.node (.leaf Bd.cover_item_copied) (.leaf Bd.cover_tidy)))) (.node (.node (.leaf Bd.r05_Compare) (.node (.leaf Bd.r05_Insert) (.leaf Bd.cover_Leq))) (.node (.leaf Bd.r05_Leq) (.node (.leaf Bd.cover_Check) (.leaf Bd.cover_backward)))))) (.node (.node (.node (.node (.leaf Bd.cover_Total) (.leaf Bd.cover_initial)) (.node (.leaf Bd.cover_validElement) (.node (.leaf Bd.cover_badElements) (.leaf Bd.cover_CheckRule)))) (.node (.node (.leaf Bd.cover_Compare) (.node (.leaf Bd.slices_IndexFunc_Lapi_Element_api_Element) (.leaf Bd.slices_SortFunc_Lapi_Element_api_Element))) (.node (.leaf Bd.slices_CompactFunc_Lapi_Element_api_Element) (.node (.leaf Bd.cover_tidy_c1) (.leaf Bd.r05_Lists))))) (.node (.node (.node (.leaf Bd.r05_Copy) (.leaf Bd.protocol_ValidateProperty)) (.node (.leaf Bd.protocol_Classify) (.node (.leaf Bd.slices_Clone_Lapi_Element_api_Element) (.leaf Bd.cover_pre)))) (.node (.node (.leaf Bd.cover_minimalOf) (.node (.leaf Bd.n42) (.leaf Bd.cover_backward_c1))) (.node (.leaf Bd.cover_inRange) (.node (.leaf Bd.protocol_Starts) (.leaf Bd.slices_Contains_Lint_int))))))) (.node (.node (.node (.node (.node (.leaf Bd.cover_badCounts) (.leaf Bd.cover_PreRule)) (.node (.leaf Bd.cmp_Or_int) (.node (.leaf Bd.cmp_Compare_int) (.leaf Bd.slices_Compare_Lint_int)))) (.node (.node (.leaf Bd.slices_pdqsortCmpFunc_api_Element) (.node (.leaf Bd.math_bits_Len) (.leaf Bd.protocol_Validate))) (.node (.leaf Bd.protocol_set) (.node (.leaf Bd.protocol_first) (.leaf Bd.protocol_when))))) (.node (.node (.node (.leaf Bd.protocol_counts) (.leaf Bd.protocol_adjacent)) (.node (.leaf Bd.cover_before) (.node (.leaf Bd.slices_SortStableFunc_Lapi_Element_api_Element) (.leaf Bd.cover_minimalOf_c1)))) (.node (.node (.leaf Bd.slices_Clone_Lint_int) (.node (.leaf Bd.slices_Index_Lint_int) (.leaf Bd.cover_checkCover))) (.node (.leaf Bd.cmp_isNaN_int) (.node (.leaf Bd.slices_insertionSortCmpFunc_api_Element) (.leaf Bd.math_bits_Len64)))))) (.node (.node (.node (.node (.leaf Bd.protocol_names) (.leaf Bd.protocol_ruleError)) (.node (.leaf Bd.protocol_thresholds) (.node (.leaf Bd.protocol_isReserved) (.leaf Bd.protocol_index)))) (.node (.node (.leaf Bd.cover_valuesBefore) (.node (.leaf Bd.cover_countsBefore) (.leaf Bd.slices_stableCmpFunc_api_Element))) (.node (.leaf Bd.slices_Concat_Lstring_string) (.node (.leaf Bd.slices_Contains_Lstring_string) (.leaf Bd.slices_ContainsFunc_Lapi_Rule_api_Rule))))) (.node (.node (.node (.leaf Bd.protocol_ruleError_c1) (.node (.leaf Bd.protocol_fits) (.leaf Bd.protocol_surplus))) (.node (.leaf Bd.protocol_guards) (.node (.leaf Bd.protocol_value) (.leaf Bd.cover_withWitness)))) (.node (.node (.leaf Bd.slices_symMergeCmpFunc_api_Element) (.node (.leaf Bd.slices_Index_Lstring_string) (.leaf Bd.slices_IndexFunc_Lapi_Rule_api_Rule))) (.node (.leaf Bd.cover_allowed) (.node (.leaf Bd.slices_rotateCmpFunc_api_Element) (.leaf Bd.slices_swapRangeCmpFunc_api_Element)))))))) h
end Go.Proofs.YtpcmibeefiajaaaGreatDoor
/-
  DERIVED: THE SHELF's CONTRACTS AT THIS DUMP, IN PLAIN WORDS (tools/lay-plain.mjs out of 'TryzSh.lean', which tools/lay-shelf.mjs wrote): THE SAME DECLARATIONS UNDER THE SAME NAMES: 'import', 'namespace', 'open', 'def', 'theorem' AND NOTHING ELSE: no command of the shelf's: FOR A HAND-IN. Each laying: the table of numbers ('.._ren') and one theorem, a field a fact of the dump's own or the kernel's comparison; each contract: ONE APPLICATION.
-/
namespace Go.Proofs
open Go.Shelf
def Tryz.laysM157_ren : Go.Shelf.Ren := ⟨fun | 157 => 103 | 229 => 112 | 199 => 113 | 261 => 117 | 311 => 119 | 312 => 120 | n => n, fun | 9 => 9 | 31 => 36 | 3 => 3 | 5 => 5 | 4 => 4 | 119 => 153 | 0 => 0 | 40 => 155 | 152 => 158 | 21 => 21 | 154 => 160 | 51 => 111 | 141 => 162 | 196 => 166 | 193 => 163 | 198 => 169 | 49 => 167 | 194 => 164 | 201 => 172 | 226 => 174 | 46 => 90 | 227 => 175 | n => n, fun | 0 => 0 | 6 => 1 | n => n⟩
theorem Tryz.laysM157 : Go.Proofs.LaysM.n157 Tryz.prog Tryz.laysM157_ren := {
  mixed := by kernel_rfl
  f157 := Tryz.func103.trans (congrArg some (by kernel_rfl))
  f199 := Tryz.func113.trans (congrArg some (by kernel_rfl))
  f229 := Tryz.func112.trans (congrArg some (by kernel_rfl))
  f261 := Tryz.func117.trans (congrArg some (by kernel_rfl))
  f311 := Tryz.func119.trans (congrArg some (by kernel_rfl))
  f312 := Tryz.func120.trans (congrArg some (by kernel_rfl))
  t0 := Tryz.underlying0
  a0 := Tryz.isAgg0
  z0 := Tryz.sizeOf0
  v0 := Tryz.zeroValue0
  t3 := Tryz.underlying3
  a3 := Tryz.isAgg3
  z3 := Tryz.sizeOf3
  v3 := Tryz.zeroValue3
  t4 := Tryz.underlying4
  a4 := Tryz.isAgg4
  z4 := Tryz.sizeOf4
  v4 := Tryz.zeroValue4
  t5 := Tryz.underlying5
  a5 := Tryz.isAgg5
  z5 := Tryz.sizeOf5
  v5 := Tryz.zeroValue5
  t9 := Tryz.underlying9
  a9 := Tryz.isAgg9
  z9 := Tryz.sizeOf9
  v9 := Tryz.zeroValue9
  t21 := Tryz.underlying21
  a21 := Tryz.isAgg21
  z21 := Tryz.sizeOf21
  v21 := Tryz.zeroValue21
  t31 := Tryz.underlying36
  a31 := Tryz.isAgg36
  z31 := Tryz.sizeOf36
  v31 := Tryz.zeroValue36
  t40 := Tryz.underlying155
  a40 := Tryz.isAgg155
  z40 := Tryz.sizeOf155
  v40 := Tryz.zeroValue155
  t46 := Tryz.underlying90
  a46 := Tryz.isAgg90
  z46 := Tryz.sizeOf90
  v46 := Tryz.zeroValue90
  t49 := Tryz.underlying167
  a49 := Tryz.isAgg167
  z49 := Tryz.sizeOf167
  v49 := Tryz.zeroValue167
  t51 := Tryz.underlying111
  a51 := Tryz.isAgg111
  z51 := Tryz.sizeOf111
  v51 := Tryz.zeroValue111
  t119 := Tryz.underlying153
  a119 := Tryz.isAgg153
  z119 := Tryz.sizeOf153
  t141 := Tryz.underlying162
  a141 := Tryz.isAgg162
  z141 := Tryz.sizeOf162
  v141 := Tryz.zeroValue162
  t152 := Tryz.underlying158
  a152 := Tryz.isAgg158
  z152 := Tryz.sizeOf158
  v152 := Tryz.zeroValue158
  t154 := Tryz.underlying160
  a154 := Tryz.isAgg160
  z154 := Tryz.sizeOf160
  v154 := Tryz.zeroValue160
  t193 := Tryz.underlying163
  a193 := Tryz.isAgg163
  z193 := Tryz.sizeOf163
  v193 := Tryz.zeroValue163
  t194 := Tryz.underlying164
  a194 := Tryz.isAgg164
  z194 := Tryz.sizeOf164
  v194 := Tryz.zeroValue164
  t196 := Tryz.underlying166
  a196 := Tryz.isAgg166
  z196 := Tryz.sizeOf166
  v196 := Tryz.zeroValue166
  t198 := Tryz.underlying169
  a198 := Tryz.isAgg169
  z198 := Tryz.sizeOf169
  v198 := Tryz.zeroValue169
  t201 := Tryz.underlying172
  a201 := Tryz.isAgg172
  z201 := Tryz.sizeOf172
  v201 := Tryz.zeroValue172
  t226 := Tryz.underlying174
  a226 := Tryz.isAgg174
  z226 := Tryz.sizeOf174
  v226 := Tryz.zeroValue174
  t227 := Tryz.underlying175
  a227 := Tryz.isAgg175
  z227 := Tryz.sizeOf175
  v227 := Tryz.zeroValue175
  g0 := by kernel_rfl
  g6 := by kernel_rfl
  i0 := by kernel_rfl
  i3 := by kernel_rfl
  i4 := by kernel_rfl
  i5 := by kernel_rfl
  i9 := by kernel_rfl
  i21 := by kernel_rfl
  i31 := by kernel_rfl
  i40 := by kernel_rfl
  i46 := by kernel_rfl
  i49 := by kernel_rfl
  i51 := by kernel_rfl
  i141 := by kernel_rfl
  i152 := by kernel_rfl
  i154 := by kernel_rfl
  i193 := by kernel_rfl
  i194 := by kernel_rfl
  i196 := by kernel_rfl
  i198 := by kernel_rfl
  i201 := by kernel_rfl
  i226 := by kernel_rfl
  i227 := by kernel_rfl
  m0 := by kernel_rfl
  m6 := by kernel_rfl }
def Tryz.laySort_ren : Go.Shelf.Ren := ⟨fun | 6 => 32 | 15 => 53 | 14 => 52 | 28 => 76 | 29 => 77 | 20 => 68 | 21 => 69 | 22 => 70 | 23 => 71 | 24 => 72 | 25 => 73 | 26 => 74 | 27 => 75 | 46 => 87 | 47 => 88 | 48 => 89 | 49 => 90 | 50 => 91 | 57 => 107 | n => n, fun | 22 => 22 | 24 => 25 | 25 => 52 | 3 => 3 | 39 => 90 | 0 => 0 | 53 => 111 | 55 => 113 | 4 => 4 | 46 => 104 | 45 => 103 | 50 => 108 | 5 => 5 | 9 => 9 | 66 => 126 | 70 => 130 | 76 => 145 | 77 => 146 | n => n, fun | n => n⟩
theorem Tryz.laySort : Go.Proofs.SlLaysF0.n6 Tryz.prog Tryz.laySort_ren := {
  mixed := by kernel_rfl
  f6 := ⟨Tryz.f32.name, by decide, Tryz.func32.trans (congrArg some (by kernel_rfl))⟩
  f14 := ⟨Tryz.f52.name, by decide, Tryz.func52.trans (congrArg some (by kernel_rfl))⟩
  f15 := Tryz.func53.trans (congrArg some (by kernel_rfl))
  f20 := ⟨Tryz.f68.name, by decide, Tryz.func68.trans (congrArg some (by kernel_rfl))⟩
  f21 := ⟨Tryz.f69.name, by decide, Tryz.func69.trans (congrArg some (by kernel_rfl))⟩
  f22 := ⟨Tryz.f70.name, by decide, Tryz.func70.trans (congrArg some (by kernel_rfl))⟩
  f23 := ⟨Tryz.f71.name, by decide, Tryz.func71.trans (congrArg some (by kernel_rfl))⟩
  f24 := ⟨Tryz.f72.name, by decide, Tryz.func72.trans (congrArg some (by kernel_rfl))⟩
  f25 := ⟨Tryz.f73.name, by decide, Tryz.func73.trans (congrArg some (by kernel_rfl))⟩
  f26 := ⟨Tryz.f74.name, by decide, Tryz.func74.trans (congrArg some (by kernel_rfl))⟩
  f27 := ⟨Tryz.f75.name, by decide, Tryz.func75.trans (congrArg some (by kernel_rfl))⟩
  f28 := Tryz.func76.trans (congrArg some (by kernel_rfl))
  f29 := Tryz.func77.trans (congrArg some (by kernel_rfl))
  f46 := ⟨Tryz.f87.name, by decide, Tryz.func87.trans (congrArg some (by kernel_rfl))⟩
  f47 := Tryz.func88.trans (congrArg some (by kernel_rfl))
  f48 := Tryz.func89.trans (congrArg some (by kernel_rfl))
  f49 := ⟨Tryz.f90.name, by decide, Tryz.func90.trans (congrArg some (by kernel_rfl))⟩
  f50 := ⟨Tryz.f91.name, by decide, Tryz.func91.trans (congrArg some (by kernel_rfl))⟩
  f57 := ⟨Tryz.f107.name, by decide, Tryz.func107.trans (congrArg some (by kernel_rfl))⟩
  t0 := Tryz.underlying0
  a0 := Tryz.isAgg0
  z0 := Tryz.sizeOf0
  v0 := Tryz.zeroValue0
  t3 := Tryz.underlying3
  a3 := Tryz.isAgg3
  z3 := Tryz.sizeOf3
  v3 := Tryz.zeroValue3
  t4 := Tryz.underlying4
  a4 := Tryz.isAgg4
  z4 := Tryz.sizeOf4
  v4 := Tryz.zeroValue4
  t5 := Tryz.underlying5
  a5 := Tryz.isAgg5
  z5 := Tryz.sizeOf5
  v5 := Tryz.zeroValue5
  t9 := Tryz.underlying9
  a9 := Tryz.isAgg9
  z9 := Tryz.sizeOf9
  v9 := Tryz.zeroValue9
  t22 := Tryz.underlying22
  a22 := Tryz.isAgg22
  z22 := Tryz.sizeOf22
  v22 := Tryz.zeroValue22
  t25 := Tryz.underlying52
  a25 := Tryz.isAgg52
  z25 := Tryz.sizeOf52
  v25 := Tryz.zeroValue52
  t39 := Tryz.underlying90
  a39 := Tryz.isAgg90
  z39 := Tryz.sizeOf90
  v39 := Tryz.zeroValue90
  t45 := Tryz.underlying103
  a45 := Tryz.isAgg103
  z45 := Tryz.sizeOf103
  v45 := Tryz.zeroValue103
  t46 := Tryz.underlying104
  a46 := Tryz.isAgg104
  z46 := Tryz.sizeOf104
  v46 := Tryz.zeroValue104
  t50 := Tryz.underlying108
  a50 := Tryz.isAgg108
  z50 := Tryz.sizeOf108
  v50 := Tryz.zeroValue108
  t53 := Tryz.underlying111
  a53 := Tryz.isAgg111
  z53 := Tryz.sizeOf111
  v53 := Tryz.zeroValue111
  t55 := Tryz.underlying113
  a55 := Tryz.isAgg113
  z55 := Tryz.sizeOf113
  v55 := Tryz.zeroValue113
  t66 := Tryz.underlying126
  a66 := Tryz.isAgg126
  z66 := Tryz.sizeOf126
  v66 := Tryz.zeroValue126
  t70 := Tryz.underlying130
  a70 := Tryz.isAgg130
  z70 := Tryz.sizeOf130
  v70 := Tryz.zeroValue130
  t76 := Tryz.underlying145
  a76 := Tryz.isAgg145
  z76 := Tryz.sizeOf145
  v76 := Tryz.zeroValue145
  t77 := Tryz.underlying146
  a77 := Tryz.isAgg146
  z77 := Tryz.sizeOf146
  v77 := Tryz.zeroValue146 }
def Tryz.layGrow_ren : Go.Shelf.Ren := ⟨fun | 4 => 108 | n => n, fun | 22 => 36 | 25 => 9 | 3 => 3 | 4 => 4 | 9 => 9 | 20 => 20 | 0 => 0 | n => n, fun | n => n⟩
theorem Tryz.layGrow : Go.Proofs.Lays8.n4 Tryz.prog Tryz.layGrow_ren := {
  mixed := by kernel_rfl
  f4 := ⟨Tryz.f108.name, by decide, Tryz.func108.trans (congrArg some (by kernel_rfl))⟩
  t0 := Tryz.underlying0
  a0 := Tryz.isAgg0
  z0 := Tryz.sizeOf0
  v0 := Tryz.zeroValue0
  t3 := Tryz.underlying3
  a3 := Tryz.isAgg3
  z3 := Tryz.sizeOf3
  v3 := Tryz.zeroValue3
  t4 := Tryz.underlying4
  a4 := Tryz.isAgg4
  z4 := Tryz.sizeOf4
  v4 := Tryz.zeroValue4
  t9 := Tryz.underlying9
  a9 := Tryz.isAgg9
  z9 := Tryz.sizeOf9
  v9 := Tryz.zeroValue9
  t20 := Tryz.underlying20
  a20 := Tryz.isAgg20
  z20 := Tryz.sizeOf20
  v20 := Tryz.zeroValue20
  t22 := Tryz.underlying36
  a22 := Tryz.isAgg36
  z22 := Tryz.sizeOf36
  v22 := Tryz.zeroValue36 }
end Go.Proofs
