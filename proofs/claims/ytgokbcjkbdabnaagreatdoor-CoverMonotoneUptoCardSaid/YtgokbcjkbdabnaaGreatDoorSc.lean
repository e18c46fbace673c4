/-
  The codes of the program's functions, in the form that the layer reads, and that they are these. No condition.
-/
import Derived.Shelf.SlGeneric
import Derived.Shelf.LaysM
import Derived.Shelf.Strings.SplitShaped
import Derived.Shelf.SlSortCmp.WholeK
import Derived.Shelf.Spec.SlicesGrow
import Derived.Ground.NamesProg
import Derived.Ground.SlsfProg
import Derived.Test.YtgokbcjkbdabnaaGreatDoorProg
import Derived.Test.YtgokbcjkbdabnaaGreatDoorSb
import Derived.Test.YtgokbcjkbdabnaaGreatDoorLg
namespace Go.Proofs.YtgokbcjkbdabnaaGreatDoor
open Go.Ab Go.Proofs
set_option maxRecDepth 100000
def xtab (f : Nat) : Option FnX :=
  (bif Nat.blt f 81 then (bif Nat.blt f 44 then (bif Nat.blt f 26 then (bif Nat.blt f 13 then (bif Nat.blt f 9 then (bif Nat.blt f 7 then (bif Nat.beq f 5 then some ⟨C.law05_CoverMonotone, [.slot 6], 92⟩ else none) else (bif Nat.blt f 8 then (bif Nat.beq f 7 then some ⟨C.law05_wide, [.slot 2], 20⟩ else none) else (bif Nat.beq f 8 then some ⟨C.law05_sane, [.slot 0], 43⟩ else none))) else (bif Nat.blt f 11 then (bif Nat.beq f 9 then some ⟨C.cover_ValidElement, [.slot 4], 14⟩ else none) else (bif Nat.blt f 12 then (bif Nat.beq f 11 then some ⟨C.cover_Leq, [.slot 4], 37⟩ else none) else (bif Nat.beq f 12 then some ⟨C.r05_Leq, [.slot 4], 38⟩ else none)))) else (bif Nat.blt f 17 then (bif Nat.blt f 14 then (bif Nat.beq f 13 then some ⟨C.cover_Compare, [.slot 4], 17⟩ else none) else (bif Nat.blt f 15 then (bif Nat.beq f 14 then some ⟨C.r05_Compare, [.slot 4], 20⟩ else none) else (bif Nat.beq f 15 then some ⟨C.cover_Total, [.slot 2], 28⟩ else none))) else (bif Nat.blt f 20 then (bif Nat.blt f 19 then (bif Nat.beq f 17 then some ⟨C.cover_Post, [.slot 4, .slot 5], 39⟩ else none) else (bif Nat.beq f 19 then some ⟨C.r05_Same, [.slot 4], 27⟩ else none)) else (bif Nat.blt f 21 then (bif Nat.beq f 20 then some ⟨C.r02_Classify, [.cell 2 6, .slot 3], 105⟩ else none) else (bif Nat.beq f 21 then some ⟨C.r05_Fits, [.slot 4], 48⟩ else none))))) else (bif Nat.blt f 35 then (bif Nat.blt f 30 then (bif Nat.blt f 28 then (bif Nat.beq f 26 then some ⟨C.cover_Check, [.slot 4], 27⟩ else none) else (bif Nat.blt f 29 then (bif Nat.beq f 28 then some ⟨C.cover_Solve, [.cell 6 5, .slot 7], 75⟩ else none) else (bif Nat.beq f 29 then some ⟨C.familycheckplay_Mutex, [.cell 0 11], 9⟩ else none))) else (bif Nat.blt f 32 then (bif Nat.blt f 31 then (bif Nat.beq f 30 then some ⟨C.familycheckplay_Exclusion, [.cell 0 7], 5⟩ else none) else (bif Nat.beq f 31 then some ⟨C.cover_CheckBasis, [.slot 6], 64⟩ else none)) else (bif Nat.blt f 33 then (bif Nat.beq f 32 then some ⟨C.cover_checkFamily, [.slot 2], 23⟩ else none) else (bif Nat.beq f 33 then some ⟨C.cover_validElement, [.slot 4], 32⟩ else none)))) else (bif Nat.blt f 38 then (bif Nat.blt f 36 then (bif Nat.beq f 35 then some ⟨C.cmp_Or_int, [.slot 2], 18⟩ else none) else (bif Nat.blt f 37 then (bif Nat.beq f 36 then some ⟨C.cmp_Compare_int, [.slot 4], 20⟩ else none) else (bif Nat.beq f 37 then some ⟨C.slices_Compare_Lint_int, [.slot 4], 36⟩ else none))) else (bif Nat.blt f 40 then (bif Nat.blt f 39 then (bif Nat.beq f 38 then some ⟨C.r05_Lists, [.slot 4], 46⟩ else none) else (bif Nat.beq f 39 then some ⟨C.cover_inRange, [.slot 2], 18⟩ else none)) else (bif Nat.blt f 41 then (bif Nat.beq f 40 then some ⟨C.cover_after, [.cell 4 3, .slot 5], 115⟩ else none) else (bif Nat.beq f 41 then some ⟨C.cover_tidy, [.slot 2], 7⟩ else none)))))) else (bif Nat.blt f 63 then (bif Nat.blt f 53 then (bif Nat.blt f 49 then (bif Nat.blt f 45 then (bif Nat.beq f 44 then some ⟨C.r02_Validate, [.slot 2], 178⟩ else none) else (bif Nat.blt f 47 then (bif Nat.beq f 45 then some ⟨C.cover_badElements, [.slot 4], 58⟩ else none) else (bif Nat.beq f 47 then some ⟨C.cover_initial, [.slot 6], 37⟩ else none))) else (bif Nat.blt f 50 then (bif Nat.beq f 49 then some ⟨C.protocol_ValidateProperty, [.slot 4], 116⟩ else none) else (bif Nat.blt f 52 then (bif Nat.beq f 50 then some ⟨C.protocol_Classify, [.cell 2 6, .slot 3], 112⟩ else none) else (bif Nat.beq f 52 then some ⟨C.cover_backward, [.slot 6, .slot 7, .slot 8, .slot 9], 62⟩ else none)))) else (bif Nat.blt f 56 then (bif Nat.blt f 54 then (bif Nat.beq f 53 then some ⟨C.cover_Contains, [.slot 4], 17⟩ else none) else (bif Nat.blt f 55 then (bif Nat.beq f 54 then some ⟨C.cover_CheckRule, [.slot 8], 55⟩ else none) else (bif Nat.beq f 55 then some ⟨C.cmp_isNaN_int, [.slot 2], 6⟩ else none))) else (bif Nat.blt f 58 then (bif Nat.blt f 57 then (bif Nat.beq f 56 then some ⟨C.cover_allowed, [.slot 4], 41⟩ else none) else (bif Nat.beq f 57 then some ⟨C.slices_SortFunc_Lapi_Element_api_Element, [], 14⟩ else none)) else (bif Nat.blt f 59 then (bif Nat.beq f 58 then some ⟨C.slices_CompactFunc_Lapi_Element_api_Element, [.slot 4], 66⟩ else none) else (bif Nat.beq f 59 then some ⟨C.cover_tidy_c1, [.slot 4], 9⟩ else none))))) else (bif Nat.blt f 70 then (bif Nat.blt f 66 then (bif Nat.blt f 64 then (bif Nat.beq f 63 then some ⟨C.r02_ValidName, [.slot 2], 58⟩ else none) else (bif Nat.blt f 65 then (bif Nat.beq f 64 then some ⟨C.r02_within, [.slot 6], 15⟩ else none) else (bif Nat.beq f 65 then some ⟨C.r02_HasText, [.slot 4], 18⟩ else none))) else (bif Nat.blt f 68 then (bif Nat.blt f 67 then (bif Nat.beq f 66 then some ⟨C.r02_few, [.slot 2], 21⟩ else none) else (bif Nat.beq f 67 then some ⟨C.r02_Set, [.slot 4], 37⟩ else none)) else (bif Nat.blt f 69 then (bif Nat.beq f 68 then some ⟨C.r02_rule, [.slot 4], 276⟩ else none) else (bif Nat.beq f 69 then some ⟨C.r02_distinct, [.slot 2], 43⟩ else none)))) else (bif Nat.blt f 75 then (bif Nat.blt f 71 then (bif Nat.beq f 70 then some ⟨C.cover_badCounts, [.slot 4], 36⟩ else none) else (bif Nat.blt f 74 then (bif Nat.beq f 71 then some ⟨C.cover_minimalOf, [.slot 2], 25⟩ else none) else (bif Nat.beq f 74 then some ⟨C.protocol_Starts, [.slot 4, .slot 5], 23⟩ else none))) else (bif Nat.blt f 79 then (bif Nat.blt f 78 then (bif Nat.beq f 75 then some ⟨C.slices_Contains_Lint_int, [.slot 4], 9⟩ else none) else (bif Nat.beq f 78 then some ⟨C.protocol_Validate, [.slot 2], 157⟩ else none)) else (bif Nat.blt f 80 then (bif Nat.beq f 79 then some ⟨C.protocol_ValidName, [.slot 2], 46⟩ else none) else (bif Nat.beq f 80 then some ⟨C.protocol_set, [.slot 4], 38⟩ else none))))))) else (bif Nat.blt f 111 then (bif Nat.blt f 95 then (bif Nat.blt f 88 then (bif Nat.blt f 84 then (bif Nat.blt f 82 then (bif Nat.beq f 81 then some ⟨C.protocol_first, [.slot 2], 15⟩ else none) else (bif Nat.blt f 83 then (bif Nat.beq f 82 then some ⟨C.protocol_when, [.slot 4], 7⟩ else none) else (bif Nat.beq f 83 then some ⟨C.protocol_counts, [.slot 4], 39⟩ else none))) else (bif Nat.blt f 86 then (bif Nat.beq f 84 then some ⟨C.protocol_adjacent, [.slot 4], 30⟩ else none) else (bif Nat.blt f 87 then (bif Nat.beq f 86 then some ⟨C.slices_Clone_Lapi_Element_api_Element, [.slot 2], 8⟩ else none) else (bif Nat.beq f 87 then some ⟨C.cover_pre, [.slot 4, .slot 5], 39⟩ else none)))) else (bif Nat.blt f 91 then (bif Nat.blt f 89 then (bif Nat.beq f 88 then some ⟨C.n88, [.slot 6], 32⟩ else none) else (bif Nat.blt f 90 then (bif Nat.beq f 89 then some ⟨C.cover_backward_c1, [.slot 4], 9⟩ else none) else (bif Nat.beq f 90 then some ⟨C.cover_PreRule, [.slot 6, .slot 7], 40⟩ else none))) else (bif Nat.blt f 93 then (bif Nat.blt f 92 then (bif Nat.beq f 91 then some ⟨C.slices_pdqsortCmpFunc_api_Element, [], 148⟩ else none) else (bif Nat.beq f 92 then some ⟨C.math_bits_Len, [.slot 2], 8⟩ else none)) else (bif Nat.blt f 94 then (bif Nat.beq f 93 then some ⟨C.r02_reserved, [.slot 0], 2⟩ else none) else (bif Nat.beq f 94 then some ⟨C.r02_unused, [.slot 4], 136⟩ else none))))) else (bif Nat.blt f 104 then (bif Nat.blt f 99 then (bif Nat.blt f 96 then (bif Nat.beq f 95 then some ⟨C.r02_ThresholdIndex, [.slot 4], 19⟩ else none) else (bif Nat.blt f 97 then (bif Nat.beq f 96 then some ⟨C.slices_SortStableFunc_Lapi_Element_api_Element, [], 9⟩ else none) else (bif Nat.beq f 97 then some ⟨C.cover_minimalOf_c1, [.slot 4], 10⟩ else none))) else (bif Nat.blt f 102 then (bif Nat.blt f 100 then (bif Nat.beq f 99 then some ⟨C.slices_Clone_Lint_int, [.slot 2], 8⟩ else none) else (bif Nat.beq f 100 then some ⟨C.slices_Index_Lint_int, [.slot 4], 19⟩ else none)) else (bif Nat.blt f 103 then (bif Nat.beq f 102 then some ⟨C.protocol_names, [.slot 2], 32⟩ else none) else (bif Nat.beq f 103 then some ⟨C.protocol_bounded, [.slot 2], 21⟩ else none)))) else (bif Nat.blt f 107 then (bif Nat.blt f 105 then (bif Nat.beq f 104 then some ⟨C.protocol_ruleError, [.slot 4], 188⟩ else none) else (bif Nat.blt f 106 then (bif Nat.beq f 105 then some ⟨C.protocol_thresholds, [.slot 2], 33⟩ else none) else (bif Nat.beq f 106 then some ⟨C.protocol_isReserved, [.slot 2], 6⟩ else none))) else (bif Nat.blt f 109 then (bif Nat.blt f 108 then (bif Nat.beq f 107 then some ⟨C.protocol_index, [.slot 4], 13⟩ else none) else (bif Nat.beq f 108 then some ⟨C.cover_before, [.slot 6, .slot 7], 67⟩ else none)) else (bif Nat.blt f 110 then (bif Nat.beq f 109 then some ⟨C.cover_Minimize, [.slot 2], 33⟩ else none) else (bif Nat.beq f 110 then some ⟨C.cover_checkCover, [.slot 2], 18⟩ else none)))))) else (bif Nat.blt f 134 then (bif Nat.blt f 127 then (bif Nat.blt f 122 then (bif Nat.blt f 120 then (bif Nat.beq f 111 then some ⟨C.slices_insertionSortCmpFunc_api_Element, [], 53⟩ else none) else (bif Nat.blt f 121 then (bif Nat.beq f 120 then some ⟨C.math_bits_Len64, [.slot 2], 25⟩ else none) else (bif Nat.beq f 121 then some ⟨C.r02_SameThreshold, [.slot 4], 24⟩ else none))) else (bif Nat.blt f 125 then (bif Nat.blt f 124 then (bif Nat.beq f 122 then some ⟨C.slices_stableCmpFunc_api_Element, [], 63⟩ else none) else (bif Nat.beq f 124 then some ⟨C.slices_Concat_Lstring_string, [.slot 2], 36⟩ else none)) else (bif Nat.blt f 126 then (bif Nat.beq f 125 then some ⟨C.slices_Contains_Lstring_string, [.slot 4], 9⟩ else none) else (bif Nat.beq f 126 then some ⟨C.protocol_factor, [.slot 2], 9⟩ else none)))) else (bif Nat.blt f 130 then (bif Nat.blt f 128 then (bif Nat.beq f 127 then some ⟨C.slices_ContainsFunc_Lapi_Rule_api_Rule, [.slot 4], 9⟩ else none) else (bif Nat.blt f 129 then (bif Nat.beq f 128 then some ⟨C.protocol_ruleError_c1, [.slot 3], 9⟩ else none) else (bif Nat.beq f 129 then some ⟨C.protocol_fits, [.slot 4], 17⟩ else none))) else (bif Nat.blt f 132 then (bif Nat.blt f 131 then (bif Nat.beq f 130 then some ⟨C.protocol_surplus, [.slot 4], 105⟩ else none) else (bif Nat.beq f 131 then some ⟨C.protocol_guards, [.slot 4], 44⟩ else none)) else (bif Nat.blt f 133 then (bif Nat.beq f 132 then some ⟨C.protocol_value, [.slot 4], 15⟩ else none) else (bif Nat.beq f 133 then some ⟨C.protocol_responses, [.slot 4], 25⟩ else none))))) else (bif Nat.blt f 148 then (bif Nat.blt f 138 then (bif Nat.blt f 136 then (bif Nat.beq f 134 then some ⟨C.slices_Contains_Lapi_Threshold_api_Threshold, [.slot 4], 9⟩ else none) else (bif Nat.blt f 137 then (bif Nat.beq f 136 then some ⟨C.cover_valuesBefore, [.slot 6], 56⟩ else none) else (bif Nat.beq f 137 then some ⟨C.cover_countsBefore, [.slot 4, .slot 5], 79⟩ else none))) else (bif Nat.blt f 140 then (bif Nat.blt f 139 then (bif Nat.beq f 138 then some ⟨C.cover_item_above, [.slot 4], 16⟩ else none) else (bif Nat.beq f 139 then some ⟨C.slices_ContainsFunc_Lapi_Element_api_Element, [.slot 4], 9⟩ else none)) else (bif Nat.blt f 146 then (bif Nat.beq f 140 then some ⟨C.cover_item_copied, [.cell 2 3], 11⟩ else none) else (bif Nat.beq f 146 then some ⟨C.slices_symMergeCmpFunc_api_Element, [], 220⟩ else none)))) else (bif Nat.blt f 153 then (bif Nat.blt f 149 then (bif Nat.beq f 148 then some ⟨C.slices_Index_Lstring_string, [.slot 4], 19⟩ else none) else (bif Nat.blt f 150 then (bif Nat.beq f 149 then some ⟨C.slices_IndexFunc_Lapi_Rule_api_Rule, [.slot 4], 19⟩ else none) else (bif Nat.beq f 150 then some ⟨C.slices_Index_Lapi_Threshold_api_Threshold, [.slot 4], 19⟩ else none))) else (bif Nat.blt f 157 then (bif Nat.blt f 155 then (bif Nat.beq f 153 then some ⟨C.cover_withWitness, [.slot 4], 35⟩ else none) else (bif Nat.beq f 155 then some ⟨C.slices_IndexFunc_Lapi_Element_api_Element, [.slot 4], 19⟩ else none)) else (bif Nat.blt f 160 then (bif Nat.beq f 157 then some ⟨C.slices_rotateCmpFunc_api_Element, [], 58⟩ else none) else (bif Nat.beq f 160 then some ⟨C.slices_swapRangeCmpFunc_api_Element, [], 38⟩ else none))))))))
theorem xtab_ok : TabOk Tryz.prog xtab := fun f b h => TabAt.use (.node (.node (.node (.node (.node (.node (.leaf Bd.law05_CoverMonotone) (.node (.leaf Bd.law05_wide) (.leaf Bd.law05_sane))) (.node (.leaf Bd.cover_ValidElement) (.node (.leaf Bd.cover_Leq) (.leaf Bd.r05_Leq)))) (.node (.node (.leaf Bd.cover_Compare) (.node (.leaf Bd.r05_Compare) (.leaf Bd.cover_Total))) (.node (.node (.leaf Bd.cover_Post) (.leaf Bd.r05_Same)) (.node (.leaf Bd.r02_Classify) (.leaf Bd.r05_Fits))))) (.node (.node (.node (.leaf Bd.cover_Check) (.node (.leaf Bd.cover_Solve) (.leaf Bd.familycheckplay_Mutex))) (.node (.node (.leaf Bd.familycheckplay_Exclusion) (.leaf Bd.cover_CheckBasis)) (.node (.leaf Bd.cover_checkFamily) (.leaf Bd.cover_validElement)))) (.node (.node (.leaf Bd.cmp_Or_int) (.node (.leaf Bd.cmp_Compare_int) (.leaf Bd.slices_Compare_Lint_int))) (.node (.node (.leaf Bd.r05_Lists) (.leaf Bd.cover_inRange)) (.node (.leaf Bd.cover_after) (.leaf Bd.cover_tidy)))))) (.node (.node (.node (.node (.leaf Bd.r02_Validate) (.node (.leaf Bd.cover_badElements) (.leaf Bd.cover_initial))) (.node (.leaf Bd.protocol_ValidateProperty) (.node (.leaf Bd.protocol_Classify) (.leaf Bd.cover_backward)))) (.node (.node (.leaf Bd.cover_Contains) (.node (.leaf Bd.cover_CheckRule) (.leaf Bd.cmp_isNaN_int))) (.node (.node (.leaf Bd.cover_allowed) (.leaf Bd.slices_SortFunc_Lapi_Element_api_Element)) (.node (.leaf Bd.slices_CompactFunc_Lapi_Element_api_Element) (.leaf Bd.cover_tidy_c1))))) (.node (.node (.node (.leaf Bd.r02_ValidName) (.node (.leaf Bd.r02_within) (.leaf Bd.r02_HasText))) (.node (.node (.leaf Bd.r02_few) (.leaf Bd.r02_Set)) (.node (.leaf Bd.r02_rule) (.leaf Bd.r02_distinct)))) (.node (.node (.leaf Bd.cover_badCounts) (.node (.leaf Bd.cover_minimalOf) (.leaf Bd.protocol_Starts))) (.node (.node (.leaf Bd.slices_Contains_Lint_int) (.leaf Bd.protocol_Validate)) (.node (.leaf Bd.protocol_ValidName) (.leaf Bd.protocol_set))))))) (.node (.node (.node (.node (.node (.leaf Bd.protocol_first) (.node (.leaf Bd.protocol_when) (.leaf Bd.protocol_counts))) (.node (.leaf Bd.protocol_adjacent) (.node (.leaf Bd.slices_Clone_Lapi_Element_api_Element) (.leaf Bd.cover_pre)))) (.node (.node (.leaf Bd.n88) (.node (.leaf Bd.cover_backward_c1) (.leaf Bd.cover_PreRule))) (.node (.node (.leaf Bd.slices_pdqsortCmpFunc_api_Element) (.leaf Bd.math_bits_Len)) (.node (.leaf Bd.r02_reserved) (.leaf Bd.r02_unused))))) (.node (.node (.node (.leaf Bd.r02_ThresholdIndex) (.node (.leaf Bd.slices_SortStableFunc_Lapi_Element_api_Element) (.leaf Bd.cover_minimalOf_c1))) (.node (.node (.leaf Bd.slices_Clone_Lint_int) (.leaf Bd.slices_Index_Lint_int)) (.node (.leaf Bd.protocol_names) (.leaf Bd.protocol_bounded)))) (.node (.node (.leaf Bd.protocol_ruleError) (.node (.leaf Bd.protocol_thresholds) (.leaf Bd.protocol_isReserved))) (.node (.node (.leaf Bd.protocol_index) (.leaf Bd.cover_before)) (.node (.leaf Bd.cover_Minimize) (.leaf Bd.cover_checkCover)))))) (.node (.node (.node (.node (.leaf Bd.slices_insertionSortCmpFunc_api_Element) (.node (.leaf Bd.math_bits_Len64) (.leaf Bd.r02_SameThreshold))) (.node (.node (.leaf Bd.slices_stableCmpFunc_api_Element) (.leaf Bd.slices_Concat_Lstring_string)) (.node (.leaf Bd.slices_Contains_Lstring_string) (.leaf Bd.protocol_factor)))) (.node (.node (.leaf Bd.slices_ContainsFunc_Lapi_Rule_api_Rule) (.node (.leaf Bd.protocol_ruleError_c1) (.leaf Bd.protocol_fits))) (.node (.node (.leaf Bd.protocol_surplus) (.leaf Bd.protocol_guards)) (.node (.leaf Bd.protocol_value) (.leaf Bd.protocol_responses))))) (.node (.node (.node (.leaf Bd.slices_Contains_Lapi_Threshold_api_Threshold) (.node (.leaf Bd.cover_valuesBefore) (.leaf Bd.cover_countsBefore))) (.node (.node (.leaf Bd.cover_item_above) (.leaf Bd.slices_ContainsFunc_Lapi_Element_api_Element)) (.node (.leaf Bd.cover_item_copied) (.leaf Bd.slices_symMergeCmpFunc_api_Element)))) (.node (.node (.leaf Bd.slices_Index_Lstring_string) (.node (.leaf Bd.slices_IndexFunc_Lapi_Rule_api_Rule) (.leaf Bd.slices_Index_Lapi_Threshold_api_Threshold))) (.node (.node (.leaf Bd.cover_withWitness) (.leaf Bd.slices_IndexFunc_Lapi_Element_api_Element)) (.node (.leaf Bd.slices_rotateCmpFunc_api_Element) (.leaf Bd.slices_swapRangeCmpFunc_api_Element)))))))) h
end Go.Proofs.YtgokbcjkbdabnaaGreatDoor
/-
  DERIVED: THE SHELF's CONTRACTS AT THIS DUMP, IN PLAIN WORDS (tools/lay-plain.mjs out of 'TryzSh2.lean', which tools/lay-shelf.mjs wrote): THE SAME DECLARATIONS UNDER THE SAME NAMES: 'import', 'namespace', 'open', 'def', 'theorem' AND NOTHING ELSE: no command of the shelf's: FOR A HAND-IN. Each laying: the table of numbers ('.._ren') and one theorem, a field a fact of the dump's own or the kernel's comparison; each contract: ONE APPLICATION.
-/
namespace Go.Proofs
open Go.Shelf
def Tryz.laysM157_ren : Go.Shelf.Ren := ⟨fun | 157 => 135 | 229 => 151 | 199 => 152 | 261 => 158 | 311 => 161 | 312 => 162 | n => n, fun | 9 => 9 | 31 => 22 | 3 => 3 | 5 => 5 | 4 => 4 | 119 => 165 | 0 => 0 | 40 => 167 | 152 => 174 | 21 => 21 | 154 => 176 | 51 => 134 | 141 => 178 | 196 => 183 | 193 => 180 | 198 => 186 | 49 => 184 | 194 => 181 | 201 => 189 | 226 => 191 | 46 => 113 | 227 => 192 | n => n, fun | 0 => 0 | 6 => 1 | n => n⟩
theorem Tryz.laysM157 : Go.Proofs.LaysM.n157 Tryz.prog Tryz.laysM157_ren := {
  mixed := by kernel_rfl
  f157 := Tryz.func135.trans (congrArg some (by kernel_rfl))
  f199 := Tryz.func152.trans (congrArg some (by kernel_rfl))
  f229 := Tryz.func151.trans (congrArg some (by kernel_rfl))
  f261 := Tryz.func158.trans (congrArg some (by kernel_rfl))
  f311 := Tryz.func161.trans (congrArg some (by kernel_rfl))
  f312 := Tryz.func162.trans (congrArg some (by kernel_rfl))
  t0 := Tryz.underlying0
  a0 := Tryz.isAgg0
  z0 := Tryz.sizeOf0
  v0 := Tryz.zeroValue0
  t3 := Tryz.underlying3
  a3 := Tryz.isAgg3
  z3 := Tryz.sizeOf3
  v3 := Tryz.zeroValue3
  t4 := Tryz.underlying4
  a4 := Tryz.isAgg4
  z4 := Tryz.sizeOf4
  v4 := Tryz.zeroValue4
  t5 := Tryz.underlying5
  a5 := Tryz.isAgg5
  z5 := Tryz.sizeOf5
  v5 := Tryz.zeroValue5
  t9 := Tryz.underlying9
  a9 := Tryz.isAgg9
  z9 := Tryz.sizeOf9
  v9 := Tryz.zeroValue9
  t21 := Tryz.underlying21
  a21 := Tryz.isAgg21
  z21 := Tryz.sizeOf21
  v21 := Tryz.zeroValue21
  t31 := Tryz.underlying22
  a31 := Tryz.isAgg22
  z31 := Tryz.sizeOf22
  v31 := Tryz.zeroValue22
  t40 := Tryz.underlying167
  a40 := Tryz.isAgg167
  z40 := Tryz.sizeOf167
  v40 := Tryz.zeroValue167
  t46 := Tryz.underlying113
  a46 := Tryz.isAgg113
  z46 := Tryz.sizeOf113
  v46 := Tryz.zeroValue113
  t49 := Tryz.underlying184
  a49 := Tryz.isAgg184
  z49 := Tryz.sizeOf184
  v49 := Tryz.zeroValue184
  t51 := Tryz.underlying134
  a51 := Tryz.isAgg134
  z51 := Tryz.sizeOf134
  v51 := Tryz.zeroValue134
  t119 := Tryz.underlying165
  a119 := Tryz.isAgg165
  z119 := Tryz.sizeOf165
  t141 := Tryz.underlying178
  a141 := Tryz.isAgg178
  z141 := Tryz.sizeOf178
  v141 := Tryz.zeroValue178
  t152 := Tryz.underlying174
  a152 := Tryz.isAgg174
  z152 := Tryz.sizeOf174
  v152 := Tryz.zeroValue174
  t154 := Tryz.underlying176
  a154 := Tryz.isAgg176
  z154 := Tryz.sizeOf176
  v154 := Tryz.zeroValue176
  t193 := Tryz.underlying180
  a193 := Tryz.isAgg180
  z193 := Tryz.sizeOf180
  v193 := Tryz.zeroValue180
  t194 := Tryz.underlying181
  a194 := Tryz.isAgg181
  z194 := Tryz.sizeOf181
  v194 := Tryz.zeroValue181
  t196 := Tryz.underlying183
  a196 := Tryz.isAgg183
  z196 := Tryz.sizeOf183
  v196 := Tryz.zeroValue183
  t198 := Tryz.underlying186
  a198 := Tryz.isAgg186
  z198 := Tryz.sizeOf186
  v198 := Tryz.zeroValue186
  t201 := Tryz.underlying189
  a201 := Tryz.isAgg189
  z201 := Tryz.sizeOf189
  v201 := Tryz.zeroValue189
  t226 := Tryz.underlying191
  a226 := Tryz.isAgg191
  z226 := Tryz.sizeOf191
  v226 := Tryz.zeroValue191
  t227 := Tryz.underlying192
  a227 := Tryz.isAgg192
  z227 := Tryz.sizeOf192
  v227 := Tryz.zeroValue192
  g0 := by kernel_rfl
  g6 := by kernel_rfl
  i0 := by kernel_rfl
  i3 := by kernel_rfl
  i4 := by kernel_rfl
  i5 := by kernel_rfl
  i9 := by kernel_rfl
  i21 := by kernel_rfl
  i31 := by kernel_rfl
  i40 := by kernel_rfl
  i46 := by kernel_rfl
  i49 := by kernel_rfl
  i51 := by kernel_rfl
  i141 := by kernel_rfl
  i152 := by kernel_rfl
  i154 := by kernel_rfl
  i193 := by kernel_rfl
  i194 := by kernel_rfl
  i196 := by kernel_rfl
  i198 := by kernel_rfl
  i201 := by kernel_rfl
  i226 := by kernel_rfl
  i227 := by kernel_rfl
  m0 := by kernel_rfl
  m6 := by kernel_rfl }
def Tryz.laySort_ren : Go.Shelf.Ren := ⟨fun | 6 => 57 | 15 => 92 | 14 => 91 | 28 => 119 | 29 => 120 | 20 => 111 | 21 => 112 | 22 => 113 | 23 => 114 | 24 => 115 | 25 => 116 | 26 => 117 | 27 => 118 | 46 => 141 | 47 => 142 | 48 => 143 | 49 => 144 | 50 => 145 | 57 => 156 | n => n, fun | 22 => 31 | 24 => 29 | 25 => 36 | 3 => 3 | 39 => 113 | 0 => 0 | 53 => 134 | 55 => 136 | 4 => 4 | 46 => 127 | 45 => 126 | 50 => 131 | 5 => 5 | 9 => 9 | 66 => 155 | 70 => 159 | 76 => 171 | 77 => 172 | n => n, fun | n => n⟩
theorem Tryz.laySort : Go.Proofs.SlLaysF0.n6 Tryz.prog Tryz.laySort_ren := {
  mixed := by kernel_rfl
  f6 := ⟨Tryz.f57.name, by decide, Tryz.func57.trans (congrArg some (by kernel_rfl))⟩
  f14 := ⟨Tryz.f91.name, by decide, Tryz.func91.trans (congrArg some (by kernel_rfl))⟩
  f15 := Tryz.func92.trans (congrArg some (by kernel_rfl))
  f20 := ⟨Tryz.f111.name, by decide, Tryz.func111.trans (congrArg some (by kernel_rfl))⟩
  f21 := ⟨Tryz.f112.name, by decide, Tryz.func112.trans (congrArg some (by kernel_rfl))⟩
  f22 := ⟨Tryz.f113.name, by decide, Tryz.func113.trans (congrArg some (by kernel_rfl))⟩
  f23 := ⟨Tryz.f114.name, by decide, Tryz.func114.trans (congrArg some (by kernel_rfl))⟩
  f24 := ⟨Tryz.f115.name, by decide, Tryz.func115.trans (congrArg some (by kernel_rfl))⟩
  f25 := ⟨Tryz.f116.name, by decide, Tryz.func116.trans (congrArg some (by kernel_rfl))⟩
  f26 := ⟨Tryz.f117.name, by decide, Tryz.func117.trans (congrArg some (by kernel_rfl))⟩
  f27 := ⟨Tryz.f118.name, by decide, Tryz.func118.trans (congrArg some (by kernel_rfl))⟩
  f28 := Tryz.func119.trans (congrArg some (by kernel_rfl))
  f29 := Tryz.func120.trans (congrArg some (by kernel_rfl))
  f46 := ⟨Tryz.f141.name, by decide, Tryz.func141.trans (congrArg some (by kernel_rfl))⟩
  f47 := Tryz.func142.trans (congrArg some (by kernel_rfl))
  f48 := Tryz.func143.trans (congrArg some (by kernel_rfl))
  f49 := ⟨Tryz.f144.name, by decide, Tryz.func144.trans (congrArg some (by kernel_rfl))⟩
  f50 := ⟨Tryz.f145.name, by decide, Tryz.func145.trans (congrArg some (by kernel_rfl))⟩
  f57 := ⟨Tryz.f156.name, by decide, Tryz.func156.trans (congrArg some (by kernel_rfl))⟩
  t0 := Tryz.underlying0
  a0 := Tryz.isAgg0
  z0 := Tryz.sizeOf0
  v0 := Tryz.zeroValue0
  t3 := Tryz.underlying3
  a3 := Tryz.isAgg3
  z3 := Tryz.sizeOf3
  v3 := Tryz.zeroValue3
  t4 := Tryz.underlying4
  a4 := Tryz.isAgg4
  z4 := Tryz.sizeOf4
  v4 := Tryz.zeroValue4
  t5 := Tryz.underlying5
  a5 := Tryz.isAgg5
  z5 := Tryz.sizeOf5
  v5 := Tryz.zeroValue5
  t9 := Tryz.underlying9
  a9 := Tryz.isAgg9
  z9 := Tryz.sizeOf9
  v9 := Tryz.zeroValue9
  t22 := Tryz.underlying31
  a22 := Tryz.isAgg31
  z22 := Tryz.sizeOf31
  v22 := Tryz.zeroValue31
  t25 := Tryz.underlying36
  a25 := Tryz.isAgg36
  z25 := Tryz.sizeOf36
  v25 := Tryz.zeroValue36
  t39 := Tryz.underlying113
  a39 := Tryz.isAgg113
  z39 := Tryz.sizeOf113
  v39 := Tryz.zeroValue113
  t45 := Tryz.underlying126
  a45 := Tryz.isAgg126
  z45 := Tryz.sizeOf126
  v45 := Tryz.zeroValue126
  t46 := Tryz.underlying127
  a46 := Tryz.isAgg127
  z46 := Tryz.sizeOf127
  v46 := Tryz.zeroValue127
  t50 := Tryz.underlying131
  a50 := Tryz.isAgg131
  z50 := Tryz.sizeOf131
  v50 := Tryz.zeroValue131
  t53 := Tryz.underlying134
  a53 := Tryz.isAgg134
  z53 := Tryz.sizeOf134
  v53 := Tryz.zeroValue134
  t55 := Tryz.underlying136
  a55 := Tryz.isAgg136
  z55 := Tryz.sizeOf136
  v55 := Tryz.zeroValue136
  t66 := Tryz.underlying155
  a66 := Tryz.isAgg155
  z66 := Tryz.sizeOf155
  v66 := Tryz.zeroValue155
  t70 := Tryz.underlying159
  a70 := Tryz.isAgg159
  z70 := Tryz.sizeOf159
  v70 := Tryz.zeroValue159
  t76 := Tryz.underlying171
  a76 := Tryz.isAgg171
  z76 := Tryz.sizeOf171
  v76 := Tryz.zeroValue171
  t77 := Tryz.underlying172
  a77 := Tryz.isAgg172
  z77 := Tryz.sizeOf172
  v77 := Tryz.zeroValue172 }
def Tryz.layGrow_ren : Go.Shelf.Ren := ⟨fun | 4 => 147 | n => n, fun | 22 => 22 | 25 => 9 | 3 => 3 | 4 => 4 | 9 => 9 | 20 => 20 | 0 => 0 | n => n, fun | n => n⟩
theorem Tryz.layGrow : Go.Proofs.Lays8.n4 Tryz.prog Tryz.layGrow_ren := {
  mixed := by kernel_rfl
  f4 := ⟨Tryz.f147.name, by decide, Tryz.func147.trans (congrArg some (by kernel_rfl))⟩
  t0 := Tryz.underlying0
  a0 := Tryz.isAgg0
  z0 := Tryz.sizeOf0
  v0 := Tryz.zeroValue0
  t3 := Tryz.underlying3
  a3 := Tryz.isAgg3
  z3 := Tryz.sizeOf3
  v3 := Tryz.zeroValue3
  t4 := Tryz.underlying4
  a4 := Tryz.isAgg4
  z4 := Tryz.sizeOf4
  v4 := Tryz.zeroValue4
  t9 := Tryz.underlying9
  a9 := Tryz.isAgg9
  z9 := Tryz.sizeOf9
  v9 := Tryz.zeroValue9
  t20 := Tryz.underlying20
  a20 := Tryz.isAgg20
  z20 := Tryz.sizeOf20
  v20 := Tryz.zeroValue20
  t22 := Tryz.underlying22
  a22 := Tryz.isAgg22
  z22 := Tryz.sizeOf22
  v22 := Tryz.zeroValue22 }
end Go.Proofs
