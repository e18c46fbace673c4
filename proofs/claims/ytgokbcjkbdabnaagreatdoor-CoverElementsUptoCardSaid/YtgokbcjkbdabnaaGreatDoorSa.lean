/-
  The codes of the program's functions, in the form that the layer reads, and that they are these. No condition.
-/
import Derived.Test.YtgokbcjkbdabnaaGreatDoorProg
import Derived.KernelRfl
import Derived.Test.YtgokbcjkbdabnaaGreatDoorLg
namespace Go.Proofs.YtgokbcjkbdabnaaGreatDoor
open Go.Ab Go.Proofs
set_option maxRecDepth 100000
@[reducible] def F.main_main : Nat := 0
@[reducible] def F.gosem_cut : Nat := 1
@[reducible] def F.gosem_cut_init : Nat := 2
@[reducible] def F.law05_CoverElements : Nat := 3
@[reducible] def F.law05_CoverPosts : Nat := 4
@[reducible] def F.law05_CoverMonotone : Nat := 5
@[reducible] def F.law05_CoverBad : Nat := 6
@[reducible] def F.law05_wide : Nat := 7
@[reducible] def F.law05_sane : Nat := 8
@[reducible] def F.cover_ValidElement : Nat := 9
@[reducible] def F.r05_ValidElement : Nat := 10
@[reducible] def F.cover_Leq : Nat := 11
@[reducible] def F.r05_Leq : Nat := 12
@[reducible] def F.cover_Compare : Nat := 13
@[reducible] def F.r05_Compare : Nat := 14
@[reducible] def F.cover_Total : Nat := 15
@[reducible] def F.r05_Total : Nat := 16
@[reducible] def F.cover_Post : Nat := 17
@[reducible] def F.r05_Post : Nat := 18
@[reducible] def F.r05_Same : Nat := 19
@[reducible] def F.r02_Classify : Nat := 20
@[reducible] def F.r05_Fits : Nat := 21
@[reducible] def F.cover_BadElements : Nat := 22
@[reducible] def F.r05_BadElements : Nat := 23
@[reducible] def F.cover_Initial : Nat := 24
@[reducible] def F.r05_Initial : Nat := 25
@[reducible] def F.cover_Check : Nat := 26
@[reducible] def F.r05_Check : Nat := 27
@[reducible] def F.cover_Solve : Nat := 28
@[reducible] def F.familycheckplay_Mutex : Nat := 29
@[reducible] def F.familycheckplay_Exclusion : Nat := 30
@[reducible] def F.cover_CheckBasis : Nat := 31
@[reducible] def F.cover_checkFamily : Nat := 32
@[reducible] def F.cover_validElement : Nat := 33
@[reducible] def F.r05_family : Nat := 34
@[reducible] def F.cmp_Or_int : Nat := 35
@[reducible] def F.cmp_Compare_int : Nat := 36
@[reducible] def F.slices_Compare_Lint_int : Nat := 37
@[reducible] def F.r05_Lists : Nat := 38
@[reducible] def F.cover_inRange : Nat := 39
@[reducible] def F.cover_after : Nat := 40
@[reducible] def F.cover_tidy : Nat := 41
@[reducible] def F.r05_Fire : Nat := 42
@[reducible] def F.r05_Insert : Nat := 43
@[reducible] def F.r02_Validate : Nat := 44
@[reducible] def F.cover_badElements : Nat := 45
@[reducible] def F.r05_bad : Nat := 46
@[reducible] def F.cover_initial : Nat := 47
@[reducible] def F.r05_initial : Nat := 48
@[reducible] def F.protocol_ValidateProperty : Nat := 49
@[reducible] def F.protocol_Classify : Nat := 50
@[reducible] def F.r02_ValidateProperty : Nat := 51
@[reducible] def F.cover_backward : Nat := 52
@[reducible] def F.cover_Contains : Nat := 53
@[reducible] def F.cover_CheckRule : Nat := 54
@[reducible] def F.cmp_isNaN_int : Nat := 55
@[reducible] def F.cover_allowed : Nat := 56
@[reducible] def F.slices_SortFunc_Lapi_Element_api_Element : Nat := 57
@[reducible] def F.slices_CompactFunc_Lapi_Element_api_Element : Nat := 58
@[reducible] def F.cover_tidy_c1 : Nat := 59
@[reducible] def F.r05_Copy : Nat := 60
@[reducible] def F.r05_some : Nat := 61
@[reducible] def F.r05_outside : Nat := 62
@[reducible] def F.r02_ValidName : Nat := 63
@[reducible] def F.r02_within : Nat := 64
@[reducible] def F.r02_HasText : Nat := 65
@[reducible] def F.r02_few : Nat := 66
@[reducible] def F.r02_Set : Nat := 67
@[reducible] def F.r02_rule : Nat := 68
@[reducible] def F.r02_distinct : Nat := 69
@[reducible] def F.cover_badCounts : Nat := 70
@[reducible] def F.cover_minimalOf : Nat := 71
@[reducible] def F.r05_All : Nat := 72
@[reducible] def F.r05_smallest : Nat := 73
@[reducible] def F.protocol_Starts : Nat := 74
@[reducible] def F.slices_Contains_Lint_int : Nat := 75
@[reducible] def F.r02_Starts : Nat := 76
@[reducible] def F.r05_in : Nat := 77
@[reducible] def F.protocol_Validate : Nat := 78
@[reducible] def F.protocol_ValidName : Nat := 79
@[reducible] def F.protocol_set : Nat := 80
@[reducible] def F.protocol_first : Nat := 81
@[reducible] def F.protocol_when : Nat := 82
@[reducible] def F.protocol_counts : Nat := 83
@[reducible] def F.protocol_adjacent : Nat := 84
@[reducible] def F.r02_Has : Nat := 85
@[reducible] def F.slices_Clone_Lapi_Element_api_Element : Nat := 86
@[reducible] def F.cover_pre : Nat := 87
@[reducible] def F.n88 : Nat := 88
@[reducible] def F.cover_backward_c1 : Nat := 89
@[reducible] def F.cover_PreRule : Nat := 90
@[reducible] def F.slices_pdqsortCmpFunc_api_Element : Nat := 91
@[reducible] def F.math_bits_Len : Nat := 92
@[reducible] def F.r02_reserved : Nat := 93
@[reducible] def F.r02_unused : Nat := 94
@[reducible] def F.r02_ThresholdIndex : Nat := 95
@[reducible] def F.slices_SortStableFunc_Lapi_Element_api_Element : Nat := 96
@[reducible] def F.cover_minimalOf_c1 : Nat := 97
@[reducible] def F.r05_Demanded : Nat := 98
@[reducible] def F.slices_Clone_Lint_int : Nat := 99
@[reducible] def F.slices_Index_Lint_int : Nat := 100
@[reducible] def F.r02_StartStates : Nat := 101
@[reducible] def F.protocol_names : Nat := 102
@[reducible] def F.protocol_bounded : Nat := 103
@[reducible] def F.protocol_ruleError : Nat := 104
@[reducible] def F.protocol_thresholds : Nat := 105
@[reducible] def F.protocol_isReserved : Nat := 106
@[reducible] def F.protocol_index : Nat := 107
@[reducible] def F.cover_before : Nat := 108
@[reducible] def F.cover_Minimize : Nat := 109
@[reducible] def F.cover_checkCover : Nat := 110
@[reducible] def F.slices_insertionSortCmpFunc_api_Element : Nat := 111
@[reducible] def F.slices_heapSortCmpFunc_api_Element : Nat := 112
@[reducible] def F.slices_breakPatternsCmpFunc_api_Element : Nat := 113
@[reducible] def F.slices_choosePivotCmpFunc_api_Element : Nat := 114
@[reducible] def F.slices_reverseRangeCmpFunc_api_Element : Nat := 115
@[reducible] def F.slices_partialInsertionSortCmpFunc_api_Element : Nat := 116
@[reducible] def F.slices_partitionEqualCmpFunc_api_Element : Nat := 117
@[reducible] def F.slices_partitionCmpFunc_api_Element : Nat := 118
@[reducible] def F.math_bits_Len32 : Nat := 119
@[reducible] def F.math_bits_Len64 : Nat := 120
@[reducible] def F.r02_SameThreshold : Nat := 121
@[reducible] def F.slices_stableCmpFunc_api_Element : Nat := 122
@[reducible] def F.r01_CopyInts : Nat := 123
@[reducible] def F.slices_Concat_Lstring_string : Nat := 124
@[reducible] def F.slices_Contains_Lstring_string : Nat := 125
@[reducible] def F.protocol_factor : Nat := 126
@[reducible] def F.slices_ContainsFunc_Lapi_Rule_api_Rule : Nat := 127
@[reducible] def F.protocol_ruleError_c1 : Nat := 128
@[reducible] def F.protocol_fits : Nat := 129
@[reducible] def F.protocol_surplus : Nat := 130
@[reducible] def F.protocol_guards : Nat := 131
@[reducible] def F.protocol_value : Nat := 132
@[reducible] def F.protocol_responses : Nat := 133
@[reducible] def F.slices_Contains_Lapi_Threshold_api_Threshold : Nat := 134
@[reducible] def F.strings_Fields : Nat := 135
@[reducible] def F.cover_valuesBefore : Nat := 136
@[reducible] def F.cover_countsBefore : Nat := 137
@[reducible] def F.cover_item_above : Nat := 138
@[reducible] def F.slices_ContainsFunc_Lapi_Element_api_Element : Nat := 139
@[reducible] def F.cover_item_copied : Nat := 140
@[reducible] def F.slices_siftDownCmpFunc_api_Element : Nat := 141
@[reducible] def F.slices_nextPowerOfTwo : Nat := 142
@[reducible] def F.pslices_xorshift_Next : Nat := 143
@[reducible] def F.slices_medianAdjacentCmpFunc_api_Element : Nat := 144
@[reducible] def F.slices_medianCmpFunc_api_Element : Nat := 145
@[reducible] def F.slices_symMergeCmpFunc_api_Element : Nat := 146
@[reducible] def F.slices_Grow_Lstring_string : Nat := 147
@[reducible] def F.slices_Index_Lstring_string : Nat := 148
@[reducible] def F.slices_IndexFunc_Lapi_Rule_api_Rule : Nat := 149
@[reducible] def F.slices_Index_Lapi_Threshold_api_Threshold : Nat := 150
@[reducible] def F.strings_FieldsFunc : Nat := 151
@[reducible] def F.unicode_IsSpace : Nat := 152
@[reducible] def F.cover_withWitness : Nat := 153
@[reducible] def F.cover_sources : Nat := 154
@[reducible] def F.slices_IndexFunc_Lapi_Element_api_Element : Nat := 155
@[reducible] def F.slices_order2CmpFunc_api_Element : Nat := 156
@[reducible] def F.slices_rotateCmpFunc_api_Element : Nat := 157
@[reducible] def F.unicode_isExcludingLatin : Nat := 158
@[reducible] def F.cover_divide : Nat := 159
@[reducible] def F.slices_swapRangeCmpFunc_api_Element : Nat := 160
@[reducible] def F.unicode_is16 : Nat := 161
@[reducible] def F.unicode_is32 : Nat := 162
@[reducible] def F.runtime_boundsError_Error : Nat := 163
@[reducible] def F.runtime_boundsError_RuntimeError : Nat := 164
@[reducible] def F.runtime_errorString_Error : Nat := 165
@[reducible] def F.runtime_errorString_RuntimeError : Nat := 166
@[reducible] def F.runtime_plainError_Error : Nat := 167
@[reducible] def F.runtime_plainError_RuntimeError : Nat := 168
@[reducible] def F.runtime_errorAddressString_Error : Nat := 169
@[reducible] def F.runtime_errorAddressString_RuntimeError : Nat := 170
@[reducible] def F.pruntime_TypeAssertionError_Error : Nat := 171
@[reducible] def F.pruntime_TypeAssertionError_RuntimeError : Nat := 172
@[reducible] def F.pruntime_PanicNilError_Error : Nat := 173
@[reducible] def F.pruntime_PanicNilError_RuntimeError : Nat := 174
@[reducible] def F.pinternal_abi_Type_Align : Nat := 175
@[reducible] def F.internal_runtime_maps_unhashableTypeError_Error : Nat := 176
@[reducible] def F.internal_runtime_maps_unhashableTypeError_RuntimeError : Nat := 177
@[reducible] def F.internal_abi_Kind_String : Nat := 178
@[reducible] def F.n179 : Nat := 179
@[reducible] def F.n180 : Nat := 180
@[reducible] def F.n181 : Nat := 181
@[reducible] def F.n182 : Nat := 182
@[reducible] def F.n183 : Nat := 183
@[reducible] def F.n184 : Nat := 184
@[reducible] def F.n185 : Nat := 185
@[reducible] def F.gosem_cut_vars : Nat := 186
@[reducible] def Y.int : Nat := 3
@[reducible] def Y.string : Nat := 9
@[reducible] def Y.Lstring : Nat := 22
@[reducible] def Y.Lint : Nat := 24
@[reducible] def Y.api_Protocol : Nat := 27
@[reducible] def Y.api_Element : Nat := 29
@[reducible] def Y.api_Errno : Nat := 33
@[reducible] def Y.familycheckref02_Classes : Nat := 44
@[reducible] def Y.api_Property : Nat := 49
@[reducible] def Y.cover_Result : Nat := 56
@[reducible] def Y.api_Rule : Nat := 69
@[reducible] def Y.protocol_Classes : Nat := 75
@[reducible] def Y.api_Count : Nat := 81
@[reducible] def Y.api_Linear : Nat := 95
@[reducible] def Y.api_Threshold : Nat := 117
@[reducible] def Y.cover_item : Nat := 151
@[reducible] def Y.slices_xorshift : Nat := 155
@[reducible] def Y.strings_span : Nat := 176
@[reducible] def Y.unicode_RangeTable : Nat := 183
@[reducible] def Y.unicode_Range16 : Nat := 186
@[reducible] def Y.unicode_Range32 : Nat := 189
def C.law05_CoverElements_2 : ACode := .seq (.reg false [o 11 (.call F.law05_sane []), o 6 (.mv (.t 11))]) .ret
def C.law05_CoverElements_1 : ACode := .seq (.reg false [o 7 (.ld 3 (.t 4)), o 8 (.ld 3 (.t 5)), o 9 (.mso Y.api_Element 3 (.agg [(.int 0), .nil]) 2 [(0, (.t 7)), (1, (.t 8))]), o
  10 (.call F.law05_wide [(.t 9)])]) (.cond (.t 10) C.law05_CoverElements_2 .skip)
def C.law05_CoverElements_3 : ACode := .seq (.reg true [o 12 (.ld 11 (.t 3)), o 13 (.ld 3 (.t 4)), o 15 (.ld 11 (.t 3)), o 16 (.ld 3 (.t 4)), o 14 (.call F.cover_ValidElement [(.t
  12), (.t 13)]), o 17 (.call F.r05_ValidElement [(.t 15), (.t 16)]), o 18 (.bin .eql (.t 14) (.t 17)), o 19 (.mv (.t 18)), og 20 19 true (.ld 3 (.t 4)), og 21 19 true (.ld 3 (.t
  5)), og 23 19 true (.ld 3 (.t 4)), og 24 19 true (.ld 3 (.t 5)), og 22 19 true (.call F.cover_Leq [(.t 20), (.t 21)]), og 25 19 true (.call F.r05_Leq [(.t 23), (.t 24)]), og 26
  19 true (.bb false (.t 22) (.t 25)), o 27 (.pick (.t 19) (.t 26) (.c (.bool false))), o 28 (.mv (.t 27)), og 29 28 true (.ld 3 (.t 4)), og 30 28 true (.ld 3 (.t 5)), og 32 28
  true (.ld 3 (.t 4)), og 33 28 true (.ld 3 (.t 5)), og 31 28 true (.call F.cover_Compare [(.t 29), (.t 30)]), og 34 28 true (.call F.r05_Compare [(.t 32), (.t 33)]), og 35 28 true
  (.bin .eql (.t 31) (.t 34)), o 36 (.pick (.t 28) (.t 35) (.c (.bool false))), o 37 (.mv (.t 36)), og 38 37 true (.ld 3 (.t 4)), og 40 37 true (.ld 3 (.t 4)), og 39 37 true (.call
  F.cover_Total [(.t 38)]), og 41 37 true (.call F.r05_Total [(.t 40)]), og 42 37 true (.bin .eql (.t 39) (.t 41)), o 43 (.pick (.t 37) (.t 42) (.c (.bool false))), o 44 (.mv (.t
  43)), og 45 44 true (.call F.law05_sane []), o 46 (.pick (.t 44) (.t 45) (.c (.bool false))), o 6 (.mv (.t 46))]) .ret
def C.law05_CoverElements_0 : ACode := .seq (.reg false [o 3 (.box Y.api_Protocol 11 (.t 0)), o 4 (.box Y.api_Element 3 (.t 1)), o 5 (.box Y.api_Element 3 (.t 2)), o 6 (.mv (.c
  (.bool false)))]) (.seq C.law05_CoverElements_1 C.law05_CoverElements_3)
def C.law05_CoverElements : ACode := C.law05_CoverElements_0
theorem C.law05_CoverElements_eq : comp Tryz.prog (Tryz.f3.body.getD .skip) = some C.law05_CoverElements := by kernel_rfl
theorem Bd.law05_CoverElements : Body Tryz.prog F.law05_CoverElements C.law05_CoverElements [.slot 6] 47 := ⟨⟨_, _, Tryz.func3, by kernel_rfl, C.law05_CoverElements_eq, by kernel_rfl, by kernel_rfl⟩, Tryz.call3, by kernel_rfl⟩
def C.law05_wide_2 : ACode := .seq (.reg false [o 2 (.mv (.c (.bool true)))]) .ret
def C.law05_wide_1 : ACode := .seq (.reg false [o 4 (.mv (.t 0)), o 5 (.len false (.t 4)), o 6 (.bin .gtr (.t 5) (.c (.int 60)))]) (.cond (.t 6) C.law05_wide_2 .skip)
def C.law05_wide_4 : ACode := .seq (.reg false [o 7 (.mv (.t 3)), o 8 (.mv (.t 0)), o 9 (.len false (.t 8)), o 10 (.bin .lss (.t 7) (.t 9))]) (.cond (.t 10) .skip (.exit 0))
def C.law05_wide_6 : ACode := .seq (.reg false [o 2 (.mv (.c (.bool true)))]) .ret
def C.law05_wide_5 : ACode := .seq (.reg false [o 13 (.mv (.t 0)), o 14 (.mv (.t 3)), o 15 (.ia 3 (.t 13) (.t 14)), o 16 (.fa 1 0 (.t 15)), o 17 (.ld 0 (.t 16)), o 18 (.len false
  (.t 17)), o 19 (.bin .gtr (.t 18) (.c (.int 8)))]) (.cond (.t 19) C.law05_wide_6 .skip)
def C.law05_wide_3 : ACode := .seq (.reg false [o 3 (.mv (.c (.int 0)))]) (.blk 0 (.loop (.seq C.law05_wide_4 (.seq (.blk 1 C.law05_wide_5) (.reg false [o 11 (.mv (.t 3)), o 12
  (.bin .add (.t 11) (.c (.int 1))), o 3 (.mv (.t 12))])))))
def C.law05_wide_7 : ACode := .seq (.reg false [o 2 (.mv (.c (.bool false)))]) .ret
def C.law05_wide_0 : ACode := .seq (.reg false [o 2 (.mv (.c (.bool false)))]) (.seq C.law05_wide_1 (.seq C.law05_wide_3 C.law05_wide_7))
def C.law05_wide : ACode := C.law05_wide_0
theorem C.law05_wide_eq : comp Tryz.prog (Tryz.f7.body.getD .skip) = some C.law05_wide := by kernel_rfl
theorem Bd.law05_wide : Body Tryz.prog F.law05_wide C.law05_wide [.slot 2] 20 := ⟨⟨_, _, Tryz.func7, by kernel_rfl, C.law05_wide_eq, by kernel_rfl, by kernel_rfl⟩, Tryz.call7, by kernel_rfl⟩
def C.law05_sane_2 : ACode := .seq (.reg true [o 9 (.mv (.t 2)), o 10 (.bin .eql (.t 9) (.c (.int 0))), o 11 (.mv (.t 10)), og 12 11 true (.fa 0 0 (.t 1)), og 13 11 true (.ld 0 (.t
  12)), og 14 11 true (.bin .eql (.t 13) (.c (.int 1))), o 15 (.pick (.t 11) (.t 14) (.c (.bool false))), o 16 (.mv (.t 15)), og 17 16 true (.fa 1 0 (.t 1)), og 18 16 true (.ld 0
  (.t 17)), og 19 16 true (.len false (.t 18)), og 20 16 true (.bin .eql (.t 19) (.c (.int 4))), o 21 (.pick (.t 16) (.t 20) (.c (.bool false))), o 22 (.mv (.t 21)), og 23 22 true
  (.fa 1 0 (.t 1)), og 24 22 true (.ld 0 (.t 23)), og 25 22 true (.ms Y.int 0 (.int 0) 3 [(0, (.c (.int 0))), (1, (.c (.int 0))), (2, (.c (.int 2)))]), og 26 22 true (.mk [(.int
  0), .nil] [(1, 1, (.t 25))]), og 27 22 true (.ms Y.int 0 (.int 0) 3 [(0, (.c (.int 0))), (1, (.c (.int 1))), (2, (.c (.int 1)))]), og 28 22 true (.mk [(.int 0), .nil] [(1, 1, (.t
  27))]), og 29 22 true (.ms Y.int 0 (.int 0) 3 [(0, (.c (.int 1))), (1, (.c (.int 0))), (2, (.c (.int 1)))]), og 30 22 true (.mk [(.int 0), .nil] [(1, 1, (.t 29))]), og 31 22 true
  (.ms Y.int 0 (.int 0) 3 [(0, (.c (.int 0))), (1, (.c (.int 0))), (2, (.c (.int 2)))]), og 32 22 true (.mk [(.int 0), .nil] [(0, 1, (.c (.int 1))), (1, 1, (.t 31))]), og 33 22
  true (.ms Y.api_Element 3 (.agg [(.int 0), .nil]) 4 [(0, (.t 26)), (1, (.t 28)), (2, (.t 30)), (3, (.t 32))]), og 34 22 true (.call F.r05_Same [(.t 24), (.t 33)]), o 35 (.pick
  (.t 22) (.t 34) (.c (.bool false))), o 36 (.mv (.t 35)), og 39 36 true (.fa 1 0 (.t 1)), og 40 36 true (.ld 0 (.t 39)), og 37 36 true (.call F.familycheckplay_Mutex []), og 38 36
  true (.call F.familycheckplay_Exclusion []), og 41 36 true (.call F.cover_CheckBasis [(.t 37), (.t 38), (.t 40)]), o 42 (.pick (.t 36) (.t 41) (.c (.bool false))), o 0 (.mv (.t
  42))]) .ret
def C.law05_sane_1 : ACode := .seq (.reg false [o 4 (.call F.familycheckplay_Mutex []), o 5 (.call F.familycheckplay_Exclusion []), o 6 (.call F.cover_Solve [(.t 4), (.t 5), (.c
  (.int 9))]), o 3 (.mv (.t 6)), o 7 (.ex (.t 3) 0), o 8 (.ex (.t 3) 1), o 1 (.al Y.cover_Result 5 (.agg [(.int 0), .nil, (.int 0), (.int 0)])), ov (.st 5 (.t 1) (.t 7)), o 2 (.mv
  (.t 8))]) C.law05_sane_2
def C.law05_sane_0 : ACode := .seq (.reg false [o 0 (.mv (.c (.bool false)))]) C.law05_sane_1
def C.law05_sane : ACode := C.law05_sane_0
theorem C.law05_sane_eq : comp Tryz.prog (Tryz.f8.body.getD .skip) = some C.law05_sane := by kernel_rfl
theorem Bd.law05_sane : Body Tryz.prog F.law05_sane C.law05_sane [.slot 0] 43 := ⟨⟨_, _, Tryz.func8, by kernel_rfl, C.law05_sane_eq, by kernel_rfl, by kernel_rfl⟩, Tryz.call8, by kernel_rfl⟩
def C.cover_ValidElement_3 : ACode := .seq (.reg false [o 10 (.mv (.t 5)), o 4 (.mv (.t 10))]) .ret
def C.cover_ValidElement_2 : ACode := .seq (.reg false [o 8 (.mv (.t 5)), o 9 (.bin .neq (.t 8) (.c (.int 0)))]) (.cond (.t 9) C.cover_ValidElement_3 .skip)
def C.cover_ValidElement_1 : ACode := .seq (.reg false [o 6 (.ld 11 (.t 2)), o 7 (.call F.cover_checkFamily [(.t 6)]), o 5 (.mv (.t 7))]) C.cover_ValidElement_2
def C.cover_ValidElement_4 : ACode := .seq (.reg false [o 11 (.ld 11 (.t 2)), o 12 (.ld 3 (.t 3)), o 13 (.call F.cover_validElement [(.t 11), (.t 12)]), o 4 (.mv (.t 13))]) .ret
def C.cover_ValidElement_0 : ACode := .seq (.reg false [o 2 (.box Y.api_Protocol 11 (.t 0)), o 3 (.box Y.api_Element 3 (.t 1)), o 4 (.mv (.c (.int 0)))]) (.seq
  C.cover_ValidElement_1 C.cover_ValidElement_4)
def C.cover_ValidElement : ACode := C.cover_ValidElement_0
theorem C.cover_ValidElement_eq : comp Tryz.prog (Tryz.f9.body.getD .skip) = some C.cover_ValidElement := by kernel_rfl
theorem Bd.cover_ValidElement : Body Tryz.prog F.cover_ValidElement C.cover_ValidElement [.slot 4] 14 := ⟨⟨_, _, Tryz.func9, by kernel_rfl, C.cover_ValidElement_eq, by kernel_rfl, by kernel_rfl⟩, Tryz.call9, by kernel_rfl⟩
def C.r05_ValidElement_3 : ACode := .seq (.reg false [o 10 (.mv (.t 5)), o 4 (.mv (.t 10))]) .ret
def C.r05_ValidElement_2 : ACode := .seq (.reg false [o 8 (.mv (.t 5)), o 9 (.bin .neq (.t 8) (.c (.int 0)))]) (.cond (.t 9) C.r05_ValidElement_3 .skip)
def C.r05_ValidElement_5 : ACode := .seq (.reg false [o 4 (.mv (.c (.int 1)))]) .ret
def C.r05_ValidElement_4 : ACode := .seq (.reg false [o 11 (.ld 11 (.t 2)), o 12 (.ld 3 (.t 3)), o 13 (.call F.r05_Fits [(.t 11), (.t 12)]), o 14 (.not (.t 13))]) (.cond (.t 14)
  C.r05_ValidElement_5 .skip)
def C.r05_ValidElement_6 : ACode := .seq (.reg false [o 4 (.mv (.c (.int 0)))]) .ret
def C.r05_ValidElement_1 : ACode := .seq (.reg false [o 6 (.ld 11 (.t 2)), o 7 (.call F.r05_family [(.t 6)]), o 5 (.mv (.t 7))]) (.seq C.r05_ValidElement_2 (.seq
  C.r05_ValidElement_4 C.r05_ValidElement_6))
def C.r05_ValidElement_0 : ACode := .seq (.reg false [o 2 (.box Y.api_Protocol 11 (.t 0)), o 3 (.box Y.api_Element 3 (.t 1)), o 4 (.mv (.c (.int 0)))]) C.r05_ValidElement_1
def C.r05_ValidElement : ACode := C.r05_ValidElement_0
theorem C.r05_ValidElement_eq : comp Tryz.prog (Tryz.f10.body.getD .skip) = some C.r05_ValidElement := by kernel_rfl
theorem Bd.r05_ValidElement : Body Tryz.prog F.r05_ValidElement C.r05_ValidElement [.slot 4] 15 := ⟨⟨_, _, Tryz.func10, by kernel_rfl, C.r05_ValidElement_eq, by kernel_rfl, by kernel_rfl⟩, Tryz.call10, by kernel_rfl⟩
def C.cover_Leq_2 : ACode := .seq (.reg false [o 4 (.mv (.c (.bool false)))]) .ret
def C.cover_Leq_1 : ACode := .seq (.reg false [o 7 (.fa 0 0 (.t 2)), o 8 (.ld 0 (.t 7)), o 9 (.fa 0 0 (.t 3)), o 10 (.ld 0 (.t 9)), o 11 (.bin .neq (.t 8) (.t 10)), o 12 (.mv (.t
  11)), og 13 12 false (.fa 1 0 (.t 2)), og 14 12 false (.ld 0 (.t 13)), og 15 12 false (.len false (.t 14)), og 16 12 false (.fa 1 0 (.t 3)), og 17 12 false (.ld 0 (.t 16)), og 18
  12 false (.len false (.t 17)), og 19 12 false (.bin .neq (.t 15) (.t 18)), o 20 (.pick (.t 12) (.c (.bool true)) (.t 19))]) (.cond (.t 20) C.cover_Leq_2 .skip)
def C.cover_Leq_7 : ACode := .seq (.reg false [o 4 (.mv (.c (.bool false)))]) .ret
def C.cover_Leq_6 : ACode := .seq (.reg false [o 29 (.mv (.t 6)), o 30 (.fa 1 0 (.t 3)), o 31 (.ld 0 (.t 30)), o 32 (.mv (.t 5)), o 33 (.ia 0 (.t 31) (.t 32)), o 34 (.ld 0 (.t
  33)), o 35 (.bin .gtr (.t 29) (.t 34))]) (.cond (.t 35) C.cover_Leq_7 .skip)
def C.cover_Leq_5 : ACode := .seq (.reg false [o 26 (.mv (.t 24)), o 27 (.ia 0 (.t 22) (.t 24)), o 28 (.ld 0 (.t 27)), o 5 (.mv (.t 26)), o 6 (.mv (.t 28))]) C.cover_Leq_6
def C.cover_Leq_4 : ACode := .seq (.reg false [o 25 (.bin .lss (.t 24) (.t 23))]) (.seq (.cond (.t 25) .skip (.exit 0)) (.seq (.blk 1 C.cover_Leq_5) (.reg false [o 36 (.bin .add
  (.t 24) (.c (.int 1))), o 24 (.mv (.t 36))])))
def C.cover_Leq_3 : ACode := .seq (.reg false [o 21 (.fa 1 0 (.t 2)), o 22 (.ld 0 (.t 21)), o 23 (.len false (.t 22)), o 24 (.mv (.c (.int 0)))]) (.blk 0 (.loop C.cover_Leq_4))
def C.cover_Leq_8 : ACode := .seq (.reg false [o 4 (.mv (.c (.bool true)))]) .ret
def C.cover_Leq_0 : ACode := .seq (.reg false [o 2 (.box Y.api_Element 3 (.t 0)), o 3 (.box Y.api_Element 3 (.t 1)), o 4 (.mv (.c (.bool false)))]) (.seq C.cover_Leq_1 (.seq
  C.cover_Leq_3 C.cover_Leq_8))
def C.cover_Leq : ACode := C.cover_Leq_0
theorem C.cover_Leq_eq : comp Tryz.prog (Tryz.f11.body.getD .skip) = some C.cover_Leq := by kernel_rfl
theorem Bd.cover_Leq : Body Tryz.prog F.cover_Leq C.cover_Leq [.slot 4] 37 := ⟨⟨_, _, Tryz.func11, by kernel_rfl, C.cover_Leq_eq, by kernel_rfl, by kernel_rfl⟩, Tryz.call11, by kernel_rfl⟩
def C.r05_Leq_2 : ACode := .seq (.reg false [o 4 (.mv (.c (.bool false)))]) .ret
def C.r05_Leq_1 : ACode := .seq (.reg false [o 6 (.fa 0 0 (.t 2)), o 7 (.ld 0 (.t 6)), o 8 (.fa 0 0 (.t 3)), o 9 (.ld 0 (.t 8)), o 10 (.bin .neq (.t 7) (.t 9)), o 11 (.mv (.t 10)),
  og 12 11 false (.fa 1 0 (.t 2)), og 13 11 false (.ld 0 (.t 12)), og 14 11 false (.len false (.t 13)), og 15 11 false (.fa 1 0 (.t 3)), og 16 11 false (.ld 0 (.t 15)), og 17 11
  false (.len false (.t 16)), og 18 11 false (.bin .neq (.t 14) (.t 17)), o 19 (.pick (.t 11) (.c (.bool true)) (.t 18))]) (.cond (.t 19) C.r05_Leq_2 .skip)
def C.r05_Leq_4 : ACode := .seq (.reg false [o 20 (.mv (.t 5)), o 21 (.fa 1 0 (.t 2)), o 22 (.ld 0 (.t 21)), o 23 (.len false (.t 22)), o 24 (.bin .lss (.t 20) (.t 23))]) (.cond
  (.t 24) .skip (.exit 0))
def C.r05_Leq_6 : ACode := .seq (.reg false [o 4 (.mv (.c (.bool false)))]) .ret
def C.r05_Leq_5 : ACode := .seq (.reg true [o 27 (.fa 1 0 (.t 2)), o 28 (.ld 0 (.t 27)), o 29 (.mv (.t 5)), o 30 (.ia 0 (.t 28) (.t 29)), o 31 (.ld 0 (.t 30)), o 32 (.fa 1 0 (.t
  3)), o 33 (.ld 0 (.t 32)), o 34 (.mv (.t 5)), o 35 (.ia 0 (.t 33) (.t 34)), o 36 (.ld 0 (.t 35)), o 37 (.bin .gtr (.t 31) (.t 36))]) (.cond (.t 37) C.r05_Leq_6 .skip)
def C.r05_Leq_3 : ACode := .seq (.reg false [o 5 (.mv (.c (.int 0)))]) (.blk 0 (.loop (.seq C.r05_Leq_4 (.seq (.blk 1 C.r05_Leq_5) (.reg false [o 25 (.mv (.t 5)), o 26 (.bin .add
  (.t 25) (.c (.int 1))), o 5 (.mv (.t 26))])))))
def C.r05_Leq_7 : ACode := .seq (.reg false [o 4 (.mv (.c (.bool true)))]) .ret
def C.r05_Leq_0 : ACode := .seq (.reg false [o 2 (.box Y.api_Element 3 (.t 0)), o 3 (.box Y.api_Element 3 (.t 1)), o 4 (.mv (.c (.bool false)))]) (.seq C.r05_Leq_1 (.seq
  C.r05_Leq_3 C.r05_Leq_7))
def C.r05_Leq : ACode := C.r05_Leq_0
theorem C.r05_Leq_eq : comp Tryz.prog (Tryz.f12.body.getD .skip) = some C.r05_Leq := by kernel_rfl
theorem Bd.r05_Leq : Body Tryz.prog F.r05_Leq C.r05_Leq [.slot 4] 38 := ⟨⟨_, _, Tryz.func12, by kernel_rfl, C.r05_Leq_eq, by kernel_rfl, by kernel_rfl⟩, Tryz.call12, by kernel_rfl⟩
def C.cover_Compare_1 : ACode := .seq (.reg true [o 5 (.fa 0 0 (.t 2)), o 6 (.ld 0 (.t 5)), o 7 (.fa 0 0 (.t 3)), o 8 (.ld 0 (.t 7)), o 10 (.fa 1 0 (.t 2)), o 11 (.ld 0 (.t 10)), o
  12 (.fa 1 0 (.t 3)), o 13 (.ld 0 (.t 12)), o 9 (.call F.cmp_Compare_int [(.t 6), (.t 8)]), o 14 (.call F.slices_Compare_Lint_int [(.t 11), (.t 13)]), o 15 (.ms Y.int 0 (.int 0) 2
  [(0, (.t 9)), (1, (.t 14))]), o 16 (.call F.cmp_Or_int [(.t 15)]), o 4 (.mv (.t 16))]) .ret
def C.cover_Compare_0 : ACode := .seq (.reg false [o 2 (.box Y.api_Element 3 (.t 0)), o 3 (.box Y.api_Element 3 (.t 1)), o 4 (.mv (.c (.int 0)))]) C.cover_Compare_1
def C.cover_Compare : ACode := C.cover_Compare_0
theorem C.cover_Compare_eq : comp Tryz.prog (Tryz.f13.body.getD .skip) = some C.cover_Compare := by kernel_rfl
theorem Bd.cover_Compare : Body Tryz.prog F.cover_Compare C.cover_Compare [.slot 4] 17 := ⟨⟨_, _, Tryz.func13, by kernel_rfl, C.cover_Compare_eq, by kernel_rfl, by kernel_rfl⟩, Tryz.call13, by kernel_rfl⟩
def C.r05_Compare_2 : ACode := .seq (.reg false [o 4 (.mv (.c (.int (-1))))]) .ret
def C.r05_Compare_1 : ACode := .seq (.reg false [o 5 (.fa 0 0 (.t 2)), o 6 (.ld 0 (.t 5)), o 7 (.fa 0 0 (.t 3)), o 8 (.ld 0 (.t 7)), o 9 (.bin .lss (.t 6) (.t 8))]) (.cond (.t 9)
  C.r05_Compare_2 .skip)
def C.r05_Compare_4 : ACode := .seq (.reg false [o 4 (.mv (.c (.int 1)))]) .ret
def C.r05_Compare_3 : ACode := .seq (.reg false [o 10 (.fa 0 0 (.t 2)), o 11 (.ld 0 (.t 10)), o 12 (.fa 0 0 (.t 3)), o 13 (.ld 0 (.t 12)), o 14 (.bin .gtr (.t 11) (.t 13))]) (.cond
  (.t 14) C.r05_Compare_4 .skip)
def C.r05_Compare_5 : ACode := .seq (.reg false [o 15 (.fa 1 0 (.t 2)), o 16 (.ld 0 (.t 15)), o 17 (.fa 1 0 (.t 3)), o 18 (.ld 0 (.t 17)), o 19 (.call F.r05_Lists [(.t 16), (.t
  18)]), o 4 (.mv (.t 19))]) .ret
def C.r05_Compare_0 : ACode := .seq (.reg false [o 2 (.box Y.api_Element 3 (.t 0)), o 3 (.box Y.api_Element 3 (.t 1)), o 4 (.mv (.c (.int 0)))]) (.seq C.r05_Compare_1 (.seq
  C.r05_Compare_3 C.r05_Compare_5))
def C.r05_Compare : ACode := C.r05_Compare_0
theorem C.r05_Compare_eq : comp Tryz.prog (Tryz.f14.body.getD .skip) = some C.r05_Compare := by kernel_rfl
theorem Bd.r05_Compare : Body Tryz.prog F.r05_Compare C.r05_Compare [.slot 4] 20 := ⟨⟨_, _, Tryz.func14, by kernel_rfl, C.r05_Compare_eq, by kernel_rfl, by kernel_rfl⟩, Tryz.call14, by kernel_rfl⟩
def C.cover_Total_2 : ACode := .seq (.reg false [o 2 (.mv (.c (.int 0)))]) .ret
def C.cover_Total_1 : ACode := .seq (.reg false [o 6 (.fa 1 0 (.t 1)), o 7 (.ld 0 (.t 6)), o 8 (.len false (.t 7)), o 9 (.bin .gtr (.t 8) (.c (.int 6))), o 10 (.mv (.t 9)), og 11
  10 false (.fa 1 0 (.t 1)), og 12 10 false (.ld 0 (.t 11)), og 13 10 false (.call F.cover_inRange [(.t 12)]), og 14 10 false (.not (.t 13)), o 15 (.pick (.t 10) (.c (.bool true))
  (.t 14))]) (.cond (.t 15) C.cover_Total_2 .skip)
def C.cover_Total_6 : ACode := .seq (.reg false [o 21 (.ia 0 (.t 17) (.t 19)), o 22 (.ld 0 (.t 21)), o 5 (.mv (.t 22))]) (.reg false [o 23 (.mv (.t 3)), o 24 (.mv (.t 5)), o 25
  (.bin .add (.t 23) (.t 24)), o 3 (.mv (.t 25))])
def C.cover_Total_5 : ACode := .seq (.reg false [o 20 (.bin .lss (.t 19) (.t 18))]) (.seq (.cond (.t 20) .skip (.exit 0)) (.seq (.blk 1 C.cover_Total_6) (.reg false [o 26 (.bin
  .add (.t 19) (.c (.int 1))), o 19 (.mv (.t 26))])))
def C.cover_Total_4 : ACode := .seq (.reg false [o 16 (.fa 1 0 (.t 1)), o 17 (.ld 0 (.t 16)), o 18 (.len false (.t 17)), o 19 (.mv (.c (.int 0)))]) (.blk 0 (.loop C.cover_Total_5))
def C.cover_Total_7 : ACode := .seq (.reg false [o 27 (.mv (.t 3)), o 2 (.mv (.t 27))]) .ret
def C.cover_Total_3 : ACode := .seq (.reg false [o 3 (.mv (.c (.int 0)))]) (.seq C.cover_Total_4 C.cover_Total_7)
def C.cover_Total_0 : ACode := .seq (.reg false [o 1 (.box Y.api_Element 3 (.t 0)), o 2 (.mv (.c (.int 0)))]) (.seq C.cover_Total_1 C.cover_Total_3)
def C.cover_Total : ACode := C.cover_Total_0
theorem C.cover_Total_eq : comp Tryz.prog (Tryz.f15.body.getD .skip) = some C.cover_Total := by kernel_rfl
theorem Bd.cover_Total : Body Tryz.prog F.cover_Total C.cover_Total [.slot 2] 28 := ⟨⟨_, _, Tryz.func15, by kernel_rfl, C.cover_Total_eq, by kernel_rfl, by kernel_rfl⟩, Tryz.call15, by kernel_rfl⟩
def C.r05_Total_2 : ACode := .seq (.reg false [o 2 (.mv (.c (.int 0)))]) .ret
def C.r05_Total_1 : ACode := .seq (.reg false [o 5 (.fa 1 0 (.t 1)), o 6 (.ld 0 (.t 5)), o 7 (.len false (.t 6)), o 8 (.bin .gtr (.t 7) (.c (.int 6)))]) (.cond (.t 8) C.r05_Total_2
  .skip)
def C.r05_Total_5 : ACode := .seq (.reg false [o 9 (.mv (.t 4)), o 10 (.fa 1 0 (.t 1)), o 11 (.ld 0 (.t 10)), o 12 (.len false (.t 11)), o 13 (.bin .lss (.t 9) (.t 12))]) (.cond
  (.t 13) .skip (.exit 0))
def C.r05_Total_7 : ACode := .seq (.reg false [o 2 (.mv (.c (.int 0)))]) .ret
def C.r05_Total_6 : ACode := .seq (.reg false [o 16 (.fa 1 0 (.t 1)), o 17 (.ld 0 (.t 16)), o 18 (.mv (.t 4)), o 19 (.ia 0 (.t 17) (.t 18)), o 20 (.ld 0 (.t 19)), o 21 (.bin .lss
  (.t 20) (.c (.int 0))), o 22 (.mv (.t 21)), og 23 22 false (.fa 1 0 (.t 1)), og 24 22 false (.ld 0 (.t 23)), og 25 22 false (.mv (.t 4)), og 26 22 false (.ia 0 (.t 24) (.t 25)),
  og 27 22 false (.ld 0 (.t 26)), og 28 22 false (.bin .gtr (.t 27) (.c (.int 1048576))), o 29 (.pick (.t 22) (.c (.bool true)) (.t 28))]) (.cond (.t 29) C.r05_Total_7 .skip)
def C.r05_Total_4 : ACode := .seq (.reg false [o 4 (.mv (.c (.int 0)))]) (.blk 0 (.loop (.seq C.r05_Total_5 (.seq (.blk 1 (.seq C.r05_Total_6 (.reg false [o 30 (.mv (.t 3)), o 31
  (.fa 1 0 (.t 1)), o 32 (.ld 0 (.t 31)), o 33 (.mv (.t 4)), o 34 (.ia 0 (.t 32) (.t 33)), o 35 (.ld 0 (.t 34)), o 36 (.bin .add (.t 30) (.t 35)), o 3 (.mv (.t 36))]))) (.reg false
  [o 14 (.mv (.t 4)), o 15 (.bin .add (.t 14) (.c (.int 1))), o 4 (.mv (.t 15))])))))
def C.r05_Total_8 : ACode := .seq (.reg false [o 37 (.mv (.t 3)), o 2 (.mv (.t 37))]) .ret
def C.r05_Total_3 : ACode := .seq (.reg false [o 3 (.mv (.c (.int 0)))]) (.seq C.r05_Total_4 C.r05_Total_8)
def C.r05_Total_0 : ACode := .seq (.reg false [o 1 (.box Y.api_Element 3 (.t 0)), o 2 (.mv (.c (.int 0)))]) (.seq C.r05_Total_1 C.r05_Total_3)
def C.r05_Total : ACode := C.r05_Total_0
theorem C.r05_Total_eq : comp Tryz.prog (Tryz.f16.body.getD .skip) = some C.r05_Total := by kernel_rfl
theorem Bd.r05_Total : Body Tryz.prog F.r05_Total C.r05_Total [.slot 2] 38 := ⟨⟨_, _, Tryz.func16, by kernel_rfl, C.r05_Total_eq, by kernel_rfl, by kernel_rfl⟩, Tryz.call16, by kernel_rfl⟩
def C.r05_Same_2 : ACode := .seq (.reg false [o 4 (.mv (.c (.bool false)))]) .ret
def C.r05_Same_1 : ACode := .seq (.reg false [o 6 (.mv (.t 0)), o 7 (.len false (.t 6)), o 8 (.mv (.t 1)), o 9 (.len false (.t 8)), o 10 (.bin .neq (.t 7) (.t 9))]) (.cond (.t 10)
  C.r05_Same_2 .skip)
def C.r05_Same_4 : ACode := .seq (.reg false [o 11 (.mv (.t 5)), o 12 (.mv (.t 0)), o 13 (.len false (.t 12)), o 14 (.bin .lss (.t 11) (.t 13))]) (.cond (.t 14) .skip (.exit 0))
def C.r05_Same_6 : ACode := .seq (.reg false [o 4 (.mv (.c (.bool false)))]) .ret
def C.r05_Same_5 : ACode := .seq (.reg true [o 17 (.mv (.t 0)), o 18 (.mv (.t 5)), o 19 (.ia 3 (.t 17) (.t 18)), o 20 (.ld 3 (.t 19)), o 21 (.mv (.t 1)), o 22 (.mv (.t 5)), o 23
  (.ia 3 (.t 21) (.t 22)), o 24 (.ld 3 (.t 23)), o 25 (.call F.r05_Compare [(.t 20), (.t 24)]), o 26 (.bin .neq (.t 25) (.c (.int 0)))]) (.cond (.t 26) C.r05_Same_6 .skip)
def C.r05_Same_3 : ACode := .seq (.reg false [o 5 (.mv (.c (.int 0)))]) (.blk 0 (.loop (.seq C.r05_Same_4 (.seq (.blk 1 C.r05_Same_5) (.reg false [o 15 (.mv (.t 5)), o 16 (.bin
  .add (.t 15) (.c (.int 1))), o 5 (.mv (.t 16))])))))
def C.r05_Same_7 : ACode := .seq (.reg false [o 4 (.mv (.c (.bool true)))]) .ret
def C.r05_Same_0 : ACode := .seq (.reg false [o 4 (.mv (.c (.bool false)))]) (.seq C.r05_Same_1 (.seq C.r05_Same_3 C.r05_Same_7))
def C.r05_Same : ACode := C.r05_Same_0
theorem C.r05_Same_eq : comp Tryz.prog (Tryz.f19.body.getD .skip) = some C.r05_Same := by kernel_rfl
theorem Bd.r05_Same : Body Tryz.prog F.r05_Same C.r05_Same [.slot 4] 27 := ⟨⟨_, _, Tryz.func19, by kernel_rfl, C.r05_Same_eq, by kernel_rfl, by kernel_rfl⟩, Tryz.call19, by kernel_rfl⟩
def C.r02_Classify_3 : ACode := .seq (.reg false [o 14 (.mk [(.bool false), (.bool false), (.bool false), (.bool false), (.bool false)] []), o 15 (.mv (.t 4)), ov (.st 6 (.t 2) (.t
  14)), o 3 (.mv (.t 15))]) .ret
def C.r02_Classify_2 : ACode := .seq (.reg false [o 12 (.mv (.t 4)), o 13 (.bin .neq (.t 12) (.c (.int 0)))]) (.cond (.t 13) C.r02_Classify_3 .skip)
def C.r02_Classify_1 : ACode := .seq (.reg false [o 10 (.ld 11 (.t 1)), o 11 (.call F.r02_Validate [(.t 10)]), o 4 (.mv (.t 11))]) C.r02_Classify_2
def C.r02_Classify_8 : ACode := .seq (.reg false [o 64 (.mv (.t 8)), o 65 (.fa 9 0 (.t 1)), o 66 (.ld 0 (.t 65)), o 67 (.len false (.t 66)), o 68 (.bin .lss (.t 64) (.t 67))])
  (.cond (.t 68) .skip (.exit 0))
def C.r02_Classify_10 : ACode := .seq (.reg false [o 76 (.fa 1 0 (.t 9)), o 77 (.ld 0 (.t 76)), o 78 (.bin .neq (.t 77) (.c (.int 1))), o 79 (.mv (.t 78)), og 80 79 false (.fa 2 0
  (.t 9)), og 81 79 false (.ld 0 (.t 80)), og 82 79 false (.fa 3 0 (.t 9)), og 83 79 false (.ld 0 (.t 82)), og 84 79 false (.bin .geq (.t 81) (.t 83)), o 85 (.pick (.t 79) (.c
  (.bool true)) (.t 84)), o 86 (.mv (.t 85)), og 87 86 false (.fa 8 0 (.t 9)), og 88 86 false (.ld 0 (.t 87)), og 89 86 false (.len false (.t 88)), og 90 86 false (.bin .gtr (.t
  89) (.c (.int 0))), o 91 (.pick (.t 86) (.c (.bool true)) (.t 90)), o 92 (.mv (.t 91)), og 93 92 false (.fa 9 0 (.t 9)), og 94 92 false (.ld 0 (.t 93)), og 95 92 false (.len
  false (.t 94)), og 96 92 false (.bin .gtr (.t 95) (.c (.int 0))), o 97 (.pick (.t 92) (.c (.bool true)) (.t 96))]) (.cond (.t 97) (.reg false [o 98 (.fa 0 0 (.t 7)), ov (.st 0
  (.t 98) (.c (.bool false)))]) .skip)
def C.r02_Classify_11 : ACode := .seq (.reg false [o 99 (.fa 9 0 (.t 9)), o 100 (.ld 0 (.t 99)), o 101 (.len false (.t 100)), o 102 (.bin .gtr (.t 101) (.c (.int 0)))]) (.cond (.t
  102) (.reg false [o 103 (.fa 1 0 (.t 7)), ov (.st 0 (.t 103) (.c (.bool false)))]) .skip)
def C.r02_Classify_9 : ACode := .seq (.reg false [o 71 (.fa 9 0 (.t 1)), o 72 (.ld 0 (.t 71)), o 73 (.mv (.t 8)), o 74 (.ia 19 (.t 72) (.t 73)), o 75 (.ld 19 (.t 74)), o 9 (.al
  Y.api_Rule 19 (.agg [(.lit (.string (bs []))), (.int 0), (.int 0), (.int 0), (.int 0), (.int 0), .nil, .nil, .nil, .nil, (.int 0), (.int 0), .nil, (.int 0), .nil, .nil, .nil,
  (.int 0)])), ov (.st 19 (.t 9) (.t 75))]) (.seq C.r02_Classify_10 C.r02_Classify_11)
def C.r02_Classify_7 : ACode := .seq (.reg false [o 8 (.mv (.c (.int 0)))]) (.blk 0 (.loop (.seq C.r02_Classify_8 (.seq (.blk 1 C.r02_Classify_9) (.reg false [o 69 (.mv (.t 8)), o
  70 (.bin .add (.t 69) (.c (.int 1))), o 8 (.mv (.t 70))])))))
def C.r02_Classify_12 : ACode := .seq (.reg false [o 104 (.ld 6 (.t 7)), ov (.st 6 (.t 2) (.t 104)), o 3 (.mv (.c (.int 0)))]) .ret
def C.r02_Classify_6 : ACode := .seq (.reg false [o 37 (.mv (.t 5)), o 38 (.mv (.t 37)), og 39 38 true (.fa 4 0 (.t 1)), og 40 38 true (.ld 0 (.t 39)), og 41 38 true (.len false
  (.t 40)), og 42 38 true (.bin .eql (.t 41) (.c (.int 0))), o 43 (.pick (.t 38) (.t 42) (.c (.bool false))), o 44 (.mv (.t 6)), o 45 (.mv (.t 6)), o 46 (.mv (.t 45)), og 47 46
  true (.fa 2 0 (.t 1)), og 48 46 true (.ld 0 (.t 47)), og 49 46 true (.len false (.t 48)), og 50 46 true (.bin .leq (.t 49) (.c (.int 4))), o 51 (.pick (.t 46) (.t 50) (.c (.bool
  false))), o 52 (.fa 1 0 (.t 1)), o 53 (.ld 0 (.t 52)), o 54 (.bin .eql (.t 53) (.c (.int 2))), o 55 (.mv (.t 54)), og 56 55 false (.fa 1 0 (.t 1)), og 57 55 false (.ld 0 (.t
  56)), og 58 55 false (.bin .eql (.t 57) (.c (.int 3))), o 59 (.pick (.t 55) (.c (.bool true)) (.t 58)), o 60 (.fa 1 0 (.t 1)), o 61 (.ld 0 (.t 60)), o 62 (.bin .eql (.t 61) (.c
  (.int 4))), o 63 (.mk [(.bool false), (.bool false), (.bool false), (.bool false), (.bool false)] [(0, 1, (.t 43)), (1, 1, (.t 44)), (4, 1, (.t 51)), (2, 1, (.t 59)), (3, 1, (.t
  62))]), o 7 (.al Y.familycheckref02_Classes 6 (.agg [(.bool false), (.bool false), (.bool false), (.bool false), (.bool false)])), ov (.st 6 (.t 7) (.t 63))]) (.seq
  C.r02_Classify_7 C.r02_Classify_12)
def C.r02_Classify_5 : ACode := .seq (.reg false [o 19 (.mv (.t 5)), o 20 (.mv (.t 19)), og 21 20 true (.fa 5 0 (.t 1)), og 22 20 true (.ld 0 (.t 21)), og 23 20 true (.bin .eql (.t
  22) (.c (.int 0))), o 24 (.pick (.t 20) (.t 23) (.c (.bool false))), o 25 (.mv (.t 24)), og 26 25 true (.fa 3 0 (.t 1)), og 27 25 true (.ld 0 (.t 26)), og 28 25 true (.len false
  (.t 27)), og 29 25 true (.bin .eql (.t 28) (.c (.int 0))), o 30 (.pick (.t 25) (.t 29) (.c (.bool false))), o 31 (.mv (.t 30)), og 32 31 true (.fa 6 0 (.t 1)), og 33 31 true (.ld
  0 (.t 32)), og 34 31 true (.len false (.t 33)), og 35 31 true (.bin .eql (.t 34) (.c (.int 0))), o 36 (.pick (.t 31) (.t 35) (.c (.bool false))), o 6 (.mv (.t 36))])
  C.r02_Classify_6
def C.r02_Classify_4 : ACode := .seq (.reg false [o 16 (.fa 1 0 (.t 1)), o 17 (.ld 0 (.t 16)), o 18 (.bin .eql (.t 17) (.c (.int 1))), o 5 (.mv (.t 18))]) C.r02_Classify_5
def C.r02_Classify_0 : ACode := .seq (.reg false [o 1 (.box Y.api_Protocol 11 (.t 0)), o 2 (.al Y.familycheckref02_Classes 6 (.agg [(.bool false), (.bool false), (.bool false),
  (.bool false), (.bool false)])), o 3 (.mv (.c (.int 0)))]) (.seq C.r02_Classify_1 C.r02_Classify_4)
def C.r02_Classify : ACode := C.r02_Classify_0
theorem C.r02_Classify_eq : comp Tryz.prog (Tryz.f20.body.getD .skip) = some C.r02_Classify := by kernel_rfl
theorem Bd.r02_Classify : Body Tryz.prog F.r02_Classify C.r02_Classify [.cell 2 6, .slot 3] 105 := ⟨⟨_, _, Tryz.func20, by kernel_rfl, C.r02_Classify_eq, by kernel_rfl, by kernel_rfl⟩, Tryz.call20, by kernel_rfl⟩
def C.r05_Fits_2 : ACode := .seq (.reg false [o 4 (.mv (.c (.bool false)))]) .ret
def C.r05_Fits_1 : ACode := .seq (.reg false [o 6 (.fa 1 0 (.t 3)), o 7 (.ld 0 (.t 6)), o 8 (.len false (.t 7)), o 9 (.fa 2 0 (.t 2)), o 10 (.ld 0 (.t 9)), o 11 (.len false (.t
  10)), o 12 (.bin .neq (.t 8) (.t 11)), o 13 (.mv (.t 12)), og 14 13 false (.fa 0 0 (.t 3)), og 15 13 false (.ld 0 (.t 14)), og 16 13 false (.bin .lss (.t 15) (.c (.int 0))), o 17
  (.pick (.t 13) (.c (.bool true)) (.t 16)), o 18 (.mv (.t 17)), og 19 18 false (.fa 0 0 (.t 3)), og 20 18 false (.ld 0 (.t 19)), og 21 18 false (.fa 4 0 (.t 2)), og 22 18 false
  (.ld 0 (.t 21)), og 23 18 false (.len false (.t 22)), og 24 18 false (.mx (.c (.int 1)) (.t 23)), og 25 18 false (.bin .geq (.t 20) (.t 24)), o 26 (.pick (.t 18) (.c (.bool
  true)) (.t 25))]) (.cond (.t 26) C.r05_Fits_2 .skip)
def C.r05_Fits_4 : ACode := .seq (.reg false [o 27 (.mv (.t 5)), o 28 (.fa 1 0 (.t 3)), o 29 (.ld 0 (.t 28)), o 30 (.len false (.t 29)), o 31 (.bin .lss (.t 27) (.t 30))]) (.cond
  (.t 31) .skip (.exit 0))
def C.r05_Fits_6 : ACode := .seq (.reg false [o 4 (.mv (.c (.bool false)))]) .ret
def C.r05_Fits_5 : ACode := .seq (.reg false [o 34 (.fa 1 0 (.t 3)), o 35 (.ld 0 (.t 34)), o 36 (.mv (.t 5)), o 37 (.ia 0 (.t 35) (.t 36)), o 38 (.ld 0 (.t 37)), o 39 (.bin .lss
  (.t 38) (.c (.int 0))), o 40 (.mv (.t 39)), og 41 40 false (.fa 1 0 (.t 3)), og 42 40 false (.ld 0 (.t 41)), og 43 40 false (.mv (.t 5)), og 44 40 false (.ia 0 (.t 42) (.t 43)),
  og 45 40 false (.ld 0 (.t 44)), og 46 40 false (.bin .gtr (.t 45) (.c (.int 1048576))), o 47 (.pick (.t 40) (.c (.bool true)) (.t 46))]) (.cond (.t 47) C.r05_Fits_6 .skip)
def C.r05_Fits_3 : ACode := .seq (.reg false [o 5 (.mv (.c (.int 0)))]) (.blk 0 (.loop (.seq C.r05_Fits_4 (.seq (.blk 1 C.r05_Fits_5) (.reg false [o 32 (.mv (.t 5)), o 33 (.bin
  .add (.t 32) (.c (.int 1))), o 5 (.mv (.t 33))])))))
def C.r05_Fits_7 : ACode := .seq (.reg false [o 4 (.mv (.c (.bool true)))]) .ret
def C.r05_Fits_0 : ACode := .seq (.reg false [o 2 (.box Y.api_Protocol 11 (.t 0)), o 3 (.box Y.api_Element 3 (.t 1)), o 4 (.mv (.c (.bool false)))]) (.seq C.r05_Fits_1 (.seq
  C.r05_Fits_3 C.r05_Fits_7))
def C.r05_Fits : ACode := C.r05_Fits_0
theorem C.r05_Fits_eq : comp Tryz.prog (Tryz.f21.body.getD .skip) = some C.r05_Fits := by kernel_rfl
theorem Bd.r05_Fits : Body Tryz.prog F.r05_Fits C.r05_Fits [.slot 4] 48 := ⟨⟨_, _, Tryz.func21, by kernel_rfl, C.r05_Fits_eq, by kernel_rfl, by kernel_rfl⟩, Tryz.call21, by kernel_rfl⟩
def C.cover_Check_3 : ACode := .seq (.reg false [o 13 (.mv (.t 5)), o 4 (.mv (.t 13))]) .ret
def C.cover_Check_2 : ACode := .seq (.reg false [o 11 (.mv (.t 5)), o 12 (.bin .neq (.t 11) (.c (.int 0)))]) (.cond (.t 12) C.cover_Check_3 .skip)
def C.cover_Check_1 : ACode := .seq (.reg false [o 8 (.ld 11 (.t 2)), o 9 (.ld 7 (.t 3)), o 10 (.call F.protocol_ValidateProperty [(.t 8), (.t 9)]), o 5 (.mv (.t 10))])
  C.cover_Check_2
def C.cover_Check_6 : ACode := .seq (.reg false [o 4 (.mv (.c (.int 7)))]) .ret
def C.cover_Check_5 : ACode := .seq (.reg false [o 19 (.fa 1 0 (.t 6)), o 20 (.ld 0 (.t 19)), o 21 (.not (.t 20)), o 22 (.mv (.t 21)), og 23 22 false (.fa 1 0 (.t 3)), og 24 22
  false (.ld 0 (.t 23)), og 25 22 false (.bin .neq (.t 24) (.c (.int 1))), o 26 (.pick (.t 22) (.c (.bool true)) (.t 25))]) (.cond (.t 26) C.cover_Check_6 .skip)
def C.cover_Check_4 : ACode := .seq (.reg false [o 15 (.ld 11 (.t 2)), o 16 (.call F.protocol_Classify [(.t 15)]), o 14 (.mv (.t 16)), o 17 (.ex (.t 14) 0), o 18 (.ex (.t 14) 1), o
  6 (.al Y.protocol_Classes 6 (.agg [(.bool false), (.bool false), (.bool false), (.bool false), (.bool false)])), ov (.st 6 (.t 6) (.t 17)), o 7 (.mv (.t 18))]) C.cover_Check_5
def C.cover_Check_7 : ACode := .seq (.reg false [o 4 (.mv (.c (.int 0)))]) .ret
def C.cover_Check_0 : ACode := .seq (.reg false [o 2 (.box Y.api_Protocol 11 (.t 0)), o 3 (.box Y.api_Property 7 (.t 1)), o 4 (.mv (.c (.int 0)))]) (.seq C.cover_Check_1 (.seq
  C.cover_Check_4 C.cover_Check_7))
def C.cover_Check : ACode := C.cover_Check_0
theorem C.cover_Check_eq : comp Tryz.prog (Tryz.f26.body.getD .skip) = some C.cover_Check := by kernel_rfl
theorem Bd.cover_Check : Body Tryz.prog F.cover_Check C.cover_Check [.slot 4] 27 := ⟨⟨_, _, Tryz.func26, by kernel_rfl, C.cover_Check_eq, by kernel_rfl, by kernel_rfl⟩, Tryz.call26, by kernel_rfl⟩
def C.cover_Solve_3 : ACode := .seq (.reg false [o 22 (.mk [(.int 0), .nil, (.int 0), (.int 0)] []), o 23 (.mv (.t 8)), ov (.st 5 (.t 6) (.t 22)), o 7 (.mv (.t 23))]) .ret
def C.cover_Solve_2 : ACode := .seq (.reg false [o 20 (.mv (.t 8)), o 21 (.bin .neq (.t 20) (.c (.int 0)))]) (.cond (.t 21) C.cover_Solve_3 .skip)
def C.cover_Solve_1 : ACode := .seq (.reg false [o 17 (.ld 11 (.t 3)), o 18 (.ld 7 (.t 4)), o 19 (.call F.cover_Check [(.t 17), (.t 18)]), o 8 (.mv (.t 19))]) C.cover_Solve_2
def C.cover_Solve_5 : ACode := .seq (.reg false [o 26 (.mk [(.int 0), .nil, (.int 0), (.int 0)] []), ov (.st 5 (.t 6) (.t 26)), o 7 (.mv (.c (.int 1)))]) .ret
def C.cover_Solve_4 : ACode := .seq (.reg false [o 24 (.mv (.t 2)), o 25 (.bin .gtr (.t 24) (.c (.int 100)))]) (.cond (.t 25) C.cover_Solve_5 .skip)
def C.cover_Solve_8 : ACode := .seq (.reg false [o 38 (.mk [(.int 0), .nil, (.int 0), (.int 0)] []), o 39 (.mv (.t 12)), ov (.st 5 (.t 6) (.t 38)), o 7 (.mv (.t 39))]) .ret
def C.cover_Solve_7 : ACode := .seq (.reg false [o 36 (.mv (.t 12)), o 37 (.bin .neq (.t 36) (.c (.int 0)))]) (.cond (.t 37) C.cover_Solve_8 .skip)
def C.cover_Solve_10 : ACode := .seq (.reg false [o 42 (.mv (.t 10)), o 43 (.mk [(.int 0), .nil, (.int 0), (.int 0)] [(3, 1, (.t 42))]), ov (.st 5 (.t 6) (.t 43)), o 7 (.mv (.c
  (.int 0)))]) .ret
def C.cover_Solve_9 : ACode := .seq (.reg false [o 40 (.mv (.t 11)), o 41 (.not (.t 40))]) (.cond (.t 41) C.cover_Solve_10 .skip)
def C.cover_Solve_16 : ACode := .seq (.reg false [o 55 (.ld 11 (.t 3)), o 56 (.ld 7 (.t 4)), o 57 (.ld 3 (.t 15)), o 58 (.call F.cover_initial [(.t 55), (.t 56), (.t 57)]), o 59
  (.mv (.t 58)), og 60 59 true (.fa 0 0 (.t 13)), og 61 59 true (.ld 0 (.t 60)), og 62 59 true (.bin .eql (.t 61) (.c (.int 1))), og 63 59 true (.mv (.t 62)), og 64 63 false (.mv
  (.t 16)), og 65 63 false (.fa 2 0 (.t 13)), og 66 63 false (.ld 0 (.t 65)), og 67 63 false (.bin .lss (.t 64) (.t 66)), og 68 59 true (.pick (.t 63) (.c (.bool true)) (.t 67)), o
  69 (.pick (.t 59) (.t 68) (.c (.bool false)))]) (.cond (.t 69) (.reg false [o 70 (.mv (.t 16)), o 71 (.fa 0 0 (.t 13)), ov (.st 0 (.t 71) (.c (.int 2))), o 72 (.fa 2 0 (.t 13)),
  ov (.st 0 (.t 72) (.t 70))]) .skip)
def C.cover_Solve_15 : ACode := .seq (.reg false [o 53 (.ld 3 (.t 15)), o 54 (.call F.cover_Total [(.t 53)]), o 16 (.mv (.t 54))]) C.cover_Solve_16
def C.cover_Solve_14 : ACode := .seq (.reg false [o 51 (.ia 3 (.t 47) (.t 49)), o 52 (.ld 3 (.t 51)), o 15 (.al Y.api_Element 3 (.agg [(.int 0), .nil])), ov (.st 3 (.t 15) (.t
  52))]) C.cover_Solve_15
def C.cover_Solve_13 : ACode := .seq (.reg false [o 50 (.bin .lss (.t 49) (.t 48))]) (.seq (.cond (.t 50) .skip (.exit 0)) (.seq (.blk 1 C.cover_Solve_14) (.reg false [o 73 (.bin
  .add (.t 49) (.c (.int 1))), o 49 (.mv (.t 73))])))
def C.cover_Solve_12 : ACode := .seq (.reg false [o 47 (.mv (.t 9)), o 48 (.len false (.t 47)), o 49 (.mv (.c (.int 0)))]) (.blk 0 (.loop C.cover_Solve_13))
def C.cover_Solve_17 : ACode := .seq (.reg false [o 74 (.ld 5 (.t 13)), ov (.st 5 (.t 6) (.t 74)), o 7 (.mv (.c (.int 0)))]) .ret
def C.cover_Solve_11 : ACode := .seq (.reg false [o 44 (.mv (.t 9)), o 45 (.mv (.t 10)), o 46 (.mk [(.int 0), .nil, (.int 0), (.int 0)] [(0, 1, (.c (.int 1))), (1, 1, (.t 44)), (3,
  1, (.t 45))]), o 13 (.al Y.cover_Result 5 (.agg [(.int 0), .nil, (.int 0), (.int 0)])), ov (.st 5 (.t 13) (.t 46))]) (.seq C.cover_Solve_12 C.cover_Solve_17)
def C.cover_Solve_6 : ACode := .seq (.reg false [o 28 (.ld 11 (.t 3)), o 29 (.ld 7 (.t 4)), o 30 (.mv (.t 2)), o 31 (.call F.cover_backward [(.t 28), (.t 29), (.t 30)]), o 27 (.mv
  (.t 31)), o 32 (.ex (.t 27) 0), o 33 (.ex (.t 27) 1), o 34 (.ex (.t 27) 2), o 35 (.ex (.t 27) 3), o 9 (.mv (.t 32)), o 10 (.mv (.t 33)), o 11 (.mv (.t 34)), o 12 (.mv (.t 35))])
  (.seq C.cover_Solve_7 (.seq C.cover_Solve_9 C.cover_Solve_11))
def C.cover_Solve_0 : ACode := .seq (.reg false [o 3 (.box Y.api_Protocol 11 (.t 0)), o 4 (.box Y.api_Property 7 (.t 1)), o 6 (.al Y.cover_Result 5 (.agg [(.int 0), .nil, (.int 0),
  (.int 0)])), o 7 (.mv (.c (.int 0)))]) (.seq C.cover_Solve_1 (.seq C.cover_Solve_4 C.cover_Solve_6))
def C.cover_Solve : ACode := C.cover_Solve_0
theorem C.cover_Solve_eq : comp Tryz.prog (Tryz.f28.body.getD .skip) = some C.cover_Solve := by kernel_rfl
theorem Bd.cover_Solve : Body Tryz.prog F.cover_Solve C.cover_Solve [.cell 6 5, .slot 7] 75 := ⟨⟨_, _, Tryz.func28, by kernel_rfl, C.cover_Solve_eq, by kernel_rfl, by kernel_rfl⟩, Tryz.call28, by kernel_rfl⟩
def C.familycheckplay_Mutex_1 : ACode := .seq (.reg false [o 1 (.ms Y.string 0 (.lit (.string (bs []))) 3 [(0, (.c (.lit (.string (bs [105]))))), (1, (.c (.lit (.string (bs
  [119]))))), (2, (.c (.lit (.string (bs [99])))))]), o 2 (.ms Y.string 0 (.lit (.string (bs []))) 2 [(0, (.c (.lit (.string (bs [102, 114, 101, 101]))))), (1, (.c (.lit (.string
  (bs [104, 101, 108, 100])))))]), o 3 (.ms Y.int 0 (.int 0) 1 [(0, (.c (.int 0)))]), o 4 (.mk [(.lit (.string (bs []))), (.int 0), (.int 0), (.int 0), (.int 0), (.int 0), .nil,
  .nil, .nil, .nil, (.int 0), (.int 0), .nil, (.int 0), .nil, .nil, .nil, (.int 0)] [(0, 1, (.c (.lit (.string (bs [97, 115, 107]))))), (1, 1, (.c (.int 1))), (2, 1, (.c (.int
  0))), (3, 1, (.c (.int 1))), (10, 1, (.c (.int (-1)))), (11, 1, (.c (.int (-1))))]), o 5 (.mk [(.lit (.string (bs []))), (.int 0), (.int 0), (.int 0), (.int 0), (.int 0), .nil,
  .nil, .nil, .nil, (.int 0), (.int 0), .nil, (.int 0), .nil, .nil, .nil, (.int 0)] [(0, 1, (.c (.lit (.string (bs [116, 97, 107, 101]))))), (1, 1, (.c (.int 1))), (2, 1, (.c (.int
  1))), (3, 1, (.c (.int 2))), (10, 1, (.c (.int 0))), (11, 1, (.c (.int 1)))]), o 6 (.mk [(.lit (.string (bs []))), (.int 0), (.int 0), (.int 0), (.int 0), (.int 0), .nil, .nil,
  .nil, .nil, (.int 0), (.int 0), .nil, (.int 0), .nil, .nil, .nil, (.int 0)] [(0, 1, (.c (.lit (.string (bs [108, 101, 97, 118, 101]))))), (1, 1, (.c (.int 1))), (2, 1, (.c (.int
  2))), (3, 1, (.c (.int 0))), (10, 1, (.c (.int 1))), (11, 1, (.c (.int 0)))]), o 7 (.mso Y.api_Rule 19 (.agg [(.lit (.string (bs []))), (.int 0), (.int 0), (.int 0), (.int 0),
  (.int 0), .nil, .nil, .nil, .nil, (.int 0), (.int 0), .nil, (.int 0), .nil, .nil, .nil, (.int 0)]) 3 [(0, (.t 4)), (1, (.t 5)), (2, (.t 6))]), o 8 (.mk [(.lit (.string (bs []))),
  (.int 0), .nil, .nil, .nil, (.int 0), .nil, .nil, .nil, .nil] [(0, 1, (.c (.lit (.string (bs [109, 120]))))), (1, 1, (.c (.int 1))), (2, 1, (.t 1)), (4, 1, (.t 2)), (7, 1, (.t
  3)), (9, 1, (.t 7))]), ov (.st 11 (.t 0) (.t 8))]) .ret
def C.familycheckplay_Mutex_0 : ACode := .seq (.reg false [o 0 (.al Y.api_Protocol 11 (.agg [(.lit (.string (bs []))), (.int 0), .nil, .nil, .nil, (.int 0), .nil, .nil, .nil,
  .nil]))]) C.familycheckplay_Mutex_1
def C.familycheckplay_Mutex : ACode := C.familycheckplay_Mutex_0
theorem C.familycheckplay_Mutex_eq : comp Tryz.prog (Tryz.f29.body.getD .skip) = some C.familycheckplay_Mutex := by kernel_rfl
theorem Bd.familycheckplay_Mutex : Body Tryz.prog F.familycheckplay_Mutex C.familycheckplay_Mutex [.cell 0 11] 9 := ⟨⟨_, _, Tryz.func29, by kernel_rfl, C.familycheckplay_Mutex_eq, by kernel_rfl, by kernel_rfl⟩, Tryz.call29, by kernel_rfl⟩
def C.familycheckplay_Exclusion_1 : ACode := .seq (.reg false [o 1 (.ms Y.int 0 (.int 0) 1 [(0, (.c (.int 2)))]), o 2 (.mk [.nil, (.int 0)] [(0, 1, (.t 1)), (1, 1, (.c (.int
  2)))]), o 3 (.mso Y.api_Count 3 (.agg [.nil, (.int 0)]) 1 [(0, (.t 2))]), o 4 (.mk [(.lit (.string (bs []))), (.int 0), .nil, .nil, .nil, .nil] [(0, 1, (.c (.lit (.string (bs
  [101, 120]))))), (1, 1, (.c (.int 1))), (3, 1, (.t 3))]), ov (.st 7 (.t 0) (.t 4))]) .ret
def C.familycheckplay_Exclusion_0 : ACode := .seq (.reg false [o 0 (.al Y.api_Property 7 (.agg [(.lit (.string (bs []))), (.int 0), .nil, .nil, .nil, .nil]))])
  C.familycheckplay_Exclusion_1
def C.familycheckplay_Exclusion : ACode := C.familycheckplay_Exclusion_0
theorem C.familycheckplay_Exclusion_eq : comp Tryz.prog (Tryz.f30.body.getD .skip) = some C.familycheckplay_Exclusion := by kernel_rfl
theorem Bd.familycheckplay_Exclusion : Body Tryz.prog F.familycheckplay_Exclusion C.familycheckplay_Exclusion [.cell 0 7] 5 := ⟨⟨_, _, Tryz.func30, by kernel_rfl, C.familycheckplay_Exclusion_eq, by kernel_rfl, by kernel_rfl⟩, Tryz.call30, by kernel_rfl⟩
def C.cover_CheckBasis_2 : ACode := .seq (.reg false [o 6 (.mv (.c (.bool false)))]) .ret
def C.cover_CheckBasis_1 : ACode := .seq (.reg false [o 12 (.ld 11 (.t 3)), o 13 (.ld 7 (.t 4)), o 14 (.call F.cover_Check [(.t 12), (.t 13)]), o 15 (.bin .neq (.t 14) (.c (.int
  0))), o 16 (.mv (.t 15)), og 17 16 false (.mv (.t 2)), og 18 16 false (.len false (.t 17)), og 19 16 false (.bin .gtr (.t 18) (.c (.int 100))), o 20 (.pick (.t 16) (.c (.bool
  true)) (.t 19))]) (.cond (.t 20) C.cover_CheckBasis_2 .skip)
def C.cover_CheckBasis_7 : ACode := .seq (.reg false [o 6 (.mv (.c (.bool false)))]) .ret
def C.cover_CheckBasis_6 : ACode := .seq (.reg false [o 27 (.ld 11 (.t 3)), o 28 (.ld 3 (.t 8)), o 29 (.call F.cover_validElement [(.t 27), (.t 28)]), o 30 (.bin .neq (.t 29) (.c
  (.int 0))), o 31 (.mv (.t 30)), og 32 31 false (.ld 11 (.t 3)), og 33 31 false (.ld 7 (.t 4)), og 34 31 false (.ld 3 (.t 8)), og 35 31 false (.call F.cover_initial [(.t 32), (.t
  33), (.t 34)]), o 36 (.pick (.t 31) (.c (.bool true)) (.t 35))]) (.cond (.t 36) C.cover_CheckBasis_7 .skip)
def C.cover_CheckBasis_5 : ACode := .seq (.reg false [o 25 (.ia 3 (.t 21) (.t 23)), o 26 (.ld 3 (.t 25)), o 8 (.al Y.api_Element 3 (.agg [(.int 0), .nil])), ov (.st 3 (.t 8) (.t
  26))]) C.cover_CheckBasis_6
def C.cover_CheckBasis_4 : ACode := .seq (.reg false [o 24 (.bin .lss (.t 23) (.t 22))]) (.seq (.cond (.t 24) .skip (.exit 0)) (.seq (.blk 1 C.cover_CheckBasis_5) (.reg false [o 37
  (.bin .add (.t 23) (.c (.int 1))), o 23 (.mv (.t 37))])))
def C.cover_CheckBasis_3 : ACode := .seq (.reg false [o 21 (.mv (.t 2)), o 22 (.len false (.t 21)), o 23 (.mv (.c (.int 0)))]) (.blk 0 (.loop C.cover_CheckBasis_4))
def C.cover_CheckBasis_12 : ACode := .seq (.reg false [o 6 (.mv (.c (.bool false)))]) .ret
def C.cover_CheckBasis_11 : ACode := .seq (.reg false [o 46 (.mv (.t 2)), o 47 (.ld 3 (.t 10)), o 48 (.call F.cover_Contains [(.t 46), (.t 47)]), o 49 (.not (.t 48))]) (.cond (.t
  49) C.cover_CheckBasis_12 .skip)
def C.cover_CheckBasis_10 : ACode := .seq (.reg false [o 44 (.ia 3 (.t 40) (.t 42)), o 45 (.ld 3 (.t 44)), o 10 (.al Y.api_Element 3 (.agg [(.int 0), .nil])), ov (.st 3 (.t 10) (.t
  45))]) C.cover_CheckBasis_11
def C.cover_CheckBasis_9 : ACode := .seq (.reg false [o 43 (.bin .lss (.t 42) (.t 41))]) (.seq (.cond (.t 43) .skip (.exit 2)) (.seq (.blk 3 C.cover_CheckBasis_10) (.reg false [o
  50 (.bin .add (.t 42) (.c (.int 1))), o 42 (.mv (.t 50))])))
def C.cover_CheckBasis_8 : ACode := .seq (.reg false [o 38 (.ld 11 (.t 3)), o 39 (.ld 7 (.t 4)), o 40 (.call F.cover_badElements [(.t 38), (.t 39)]), o 41 (.len false (.t 40)), o
  42 (.mv (.c (.int 0)))]) (.blk 2 (.loop C.cover_CheckBasis_9))
def C.cover_CheckBasis_17 : ACode := .seq (.reg false [o 6 (.mv (.c (.bool false)))]) .ret
def C.cover_CheckBasis_16 : ACode := .seq (.reg false [o 57 (.ld 11 (.t 3)), o 58 (.ld 7 (.t 4)), o 59 (.mv (.t 2)), o 60 (.mv (.t 11)), o 61 (.call F.cover_CheckRule [(.t 57), (.t
  58), (.t 59), (.t 60)]), o 62 (.not (.t 61))]) (.cond (.t 62) C.cover_CheckBasis_17 .skip)
def C.cover_CheckBasis_15 : ACode := .seq (.reg false [o 56 (.mv (.t 54)), o 11 (.mv (.t 56))]) C.cover_CheckBasis_16
def C.cover_CheckBasis_14 : ACode := .seq (.reg false [o 55 (.bin .lss (.t 54) (.t 53))]) (.seq (.cond (.t 55) .skip (.exit 4)) (.seq (.blk 5 C.cover_CheckBasis_15) (.reg false [o
  63 (.bin .add (.t 54) (.c (.int 1))), o 54 (.mv (.t 63))])))
def C.cover_CheckBasis_13 : ACode := .seq (.reg false [o 51 (.fa 9 0 (.t 3)), o 52 (.ld 0 (.t 51)), o 53 (.len false (.t 52)), o 54 (.mv (.c (.int 0)))]) (.blk 4 (.loop
  C.cover_CheckBasis_14))
def C.cover_CheckBasis_18 : ACode := .seq (.reg false [o 6 (.mv (.c (.bool true)))]) .ret
def C.cover_CheckBasis_0 : ACode := .seq (.reg false [o 3 (.box Y.api_Protocol 11 (.t 0)), o 4 (.box Y.api_Property 7 (.t 1)), o 6 (.mv (.c (.bool false)))]) (.seq
  C.cover_CheckBasis_1 (.seq C.cover_CheckBasis_3 (.seq C.cover_CheckBasis_8 (.seq C.cover_CheckBasis_13 C.cover_CheckBasis_18))))
def C.cover_CheckBasis : ACode := C.cover_CheckBasis_0
theorem C.cover_CheckBasis_eq : comp Tryz.prog (Tryz.f31.body.getD .skip) = some C.cover_CheckBasis := by kernel_rfl
theorem Bd.cover_CheckBasis : Body Tryz.prog F.cover_CheckBasis C.cover_CheckBasis [.slot 6] 64 := ⟨⟨_, _, Tryz.func31, by kernel_rfl, C.cover_CheckBasis_eq, by kernel_rfl, by kernel_rfl⟩, Tryz.call31, by kernel_rfl⟩
def C.cover_checkFamily_3 : ACode := .seq (.reg false [o 2 (.mv (.c (.int 7)))]) .ret
def C.cover_checkFamily_2 : ACode := .seq (.reg false [o 10 (.mv (.t 4)), o 11 (.bin .eql (.t 10) (.c (.int 0))), o 12 (.mv (.t 11)), og 13 12 true (.fa 1 0 (.t 3)), og 14 12 true
  (.ld 0 (.t 13)), og 15 12 true (.not (.t 14)), o 16 (.pick (.t 12) (.t 15) (.c (.bool false))), o 17 (.mv (.t 16)), og 18 17 true (.fa 4 0 (.t 3)), og 19 17 true (.ld 0 (.t 18)),
  og 20 17 true (.not (.t 19)), o 21 (.pick (.t 17) (.t 20) (.c (.bool false)))]) (.cond (.t 21) C.cover_checkFamily_3 .skip)
def C.cover_checkFamily_4 : ACode := .seq (.reg false [o 22 (.mv (.t 4)), o 2 (.mv (.t 22))]) .ret
def C.cover_checkFamily_1 : ACode := .seq (.reg false [o 6 (.ld 11 (.t 1)), o 7 (.call F.protocol_Classify [(.t 6)]), o 5 (.mv (.t 7)), o 8 (.ex (.t 5) 0), o 9 (.ex (.t 5) 1), o 3
  (.al Y.protocol_Classes 6 (.agg [(.bool false), (.bool false), (.bool false), (.bool false), (.bool false)])), ov (.st 6 (.t 3) (.t 8)), o 4 (.mv (.t 9))]) (.seq
  C.cover_checkFamily_2 C.cover_checkFamily_4)
def C.cover_checkFamily_0 : ACode := .seq (.reg false [o 1 (.box Y.api_Protocol 11 (.t 0)), o 2 (.mv (.c (.int 0)))]) C.cover_checkFamily_1
def C.cover_checkFamily : ACode := C.cover_checkFamily_0
theorem C.cover_checkFamily_eq : comp Tryz.prog (Tryz.f32.body.getD .skip) = some C.cover_checkFamily := by kernel_rfl
theorem Bd.cover_checkFamily : Body Tryz.prog F.cover_checkFamily C.cover_checkFamily [.slot 2] 23 := ⟨⟨_, _, Tryz.func32, by kernel_rfl, C.cover_checkFamily_eq, by kernel_rfl, by kernel_rfl⟩, Tryz.call32, by kernel_rfl⟩
def C.cover_validElement_2 : ACode := .seq (.reg false [o 4 (.mv (.c (.int 1)))]) .ret
def C.cover_validElement_1 : ACode := .seq (.reg false [o 5 (.fa 1 0 (.t 3)), o 6 (.ld 0 (.t 5)), o 7 (.len false (.t 6)), o 8 (.fa 2 0 (.t 2)), o 9 (.ld 0 (.t 8)), o 10 (.len
  false (.t 9)), o 11 (.bin .neq (.t 7) (.t 10)), o 12 (.mv (.t 11)), og 13 12 false (.fa 1 0 (.t 3)), og 14 12 false (.ld 0 (.t 13)), og 15 12 false (.call F.cover_inRange [(.t
  14)]), og 16 12 false (.not (.t 15)), o 17 (.pick (.t 12) (.c (.bool true)) (.t 16)), o 18 (.mv (.t 17)), og 19 18 false (.fa 0 0 (.t 3)), og 20 18 false (.ld 0 (.t 19)), og 21
  18 false (.bin .lss (.t 20) (.c (.int 0))), o 22 (.pick (.t 18) (.c (.bool true)) (.t 21)), o 23 (.mv (.t 22)), og 24 23 false (.fa 0 0 (.t 3)), og 25 23 false (.ld 0 (.t 24)),
  og 26 23 false (.fa 4 0 (.t 2)), og 27 23 false (.ld 0 (.t 26)), og 28 23 false (.len false (.t 27)), og 29 23 false (.mx (.c (.int 1)) (.t 28)), og 30 23 false (.bin .geq (.t
  25) (.t 29)), o 31 (.pick (.t 23) (.c (.bool true)) (.t 30))]) (.cond (.t 31) C.cover_validElement_2 .skip)
def C.cover_validElement_3 : ACode := .seq (.reg false [o 4 (.mv (.c (.int 0)))]) .ret
def C.cover_validElement_0 : ACode := .seq (.reg false [o 2 (.box Y.api_Protocol 11 (.t 0)), o 3 (.box Y.api_Element 3 (.t 1)), o 4 (.mv (.c (.int 0)))]) (.seq
  C.cover_validElement_1 C.cover_validElement_3)
def C.cover_validElement : ACode := C.cover_validElement_0
theorem C.cover_validElement_eq : comp Tryz.prog (Tryz.f33.body.getD .skip) = some C.cover_validElement := by kernel_rfl
theorem Bd.cover_validElement : Body Tryz.prog F.cover_validElement C.cover_validElement [.slot 4] 32 := ⟨⟨_, _, Tryz.func33, by kernel_rfl, C.cover_validElement_eq, by kernel_rfl, by kernel_rfl⟩, Tryz.call33, by kernel_rfl⟩
def C.r05_family_3 : ACode := .seq (.reg false [o 12 (.mv (.t 4)), o 2 (.mv (.t 12))]) .ret
def C.r05_family_2 : ACode := .seq (.reg false [o 10 (.mv (.t 4)), o 11 (.bin .neq (.t 10) (.c (.int 0)))]) (.cond (.t 11) C.r05_family_3 .skip)
def C.r05_family_5 : ACode := .seq (.reg false [o 2 (.mv (.c (.int 7)))]) .ret
def C.r05_family_4 : ACode := .seq (.reg false [o 13 (.fa 1 0 (.t 3)), o 14 (.ld 0 (.t 13)), o 15 (.not (.t 14)), o 16 (.mv (.t 15)), og 17 16 true (.fa 4 0 (.t 3)), og 18 16 true
  (.ld 0 (.t 17)), og 19 16 true (.not (.t 18)), o 20 (.pick (.t 16) (.t 19) (.c (.bool false)))]) (.cond (.t 20) C.r05_family_5 .skip)
def C.r05_family_6 : ACode := .seq (.reg false [o 2 (.mv (.c (.int 0)))]) .ret
def C.r05_family_1 : ACode := .seq (.reg false [o 6 (.ld 11 (.t 1)), o 7 (.call F.r02_Classify [(.t 6)]), o 5 (.mv (.t 7)), o 8 (.ex (.t 5) 0), o 9 (.ex (.t 5) 1), o 3 (.al
  Y.familycheckref02_Classes 6 (.agg [(.bool false), (.bool false), (.bool false), (.bool false), (.bool false)])), ov (.st 6 (.t 3) (.t 8)), o 4 (.mv (.t 9))]) (.seq
  C.r05_family_2 (.seq C.r05_family_4 C.r05_family_6))
def C.r05_family_0 : ACode := .seq (.reg false [o 1 (.box Y.api_Protocol 11 (.t 0)), o 2 (.mv (.c (.int 0)))]) C.r05_family_1
def C.r05_family : ACode := C.r05_family_0
theorem C.r05_family_eq : comp Tryz.prog (Tryz.f34.body.getD .skip) = some C.r05_family := by kernel_rfl
theorem Bd.r05_family : Body Tryz.prog F.r05_family C.r05_family [.slot 2] 21 := ⟨⟨_, _, Tryz.func34, by kernel_rfl, C.r05_family_eq, by kernel_rfl, by kernel_rfl⟩, Tryz.call34, by kernel_rfl⟩
def C.cmp_Or_int_6 : ACode := .seq (.reg false [o 15 (.mv (.t 5)), o 2 (.mv (.t 15))]) .ret
def C.cmp_Or_int_5 : ACode := .seq (.reg false [o 12 (.mv (.t 5)), o 13 (.mv (.t 3)), o 14 (.bin .neq (.t 12) (.t 13))]) (.cond (.t 14) C.cmp_Or_int_6 .skip)
def C.cmp_Or_int_4 : ACode := .seq (.reg false [o 10 (.ia 0 (.t 6) (.t 8)), o 11 (.ld 0 (.t 10)), o 5 (.mv (.t 11))]) C.cmp_Or_int_5
def C.cmp_Or_int_3 : ACode := .seq (.reg false [o 9 (.bin .lss (.t 8) (.t 7))]) (.seq (.cond (.t 9) .skip (.exit 0)) (.seq (.blk 1 C.cmp_Or_int_4) (.reg false [o 16 (.bin .add (.t
  8) (.c (.int 1))), o 8 (.mv (.t 16))])))
def C.cmp_Or_int_2 : ACode := .seq (.reg false [o 6 (.mv (.t 0)), o 7 (.len false (.t 6)), o 8 (.mv (.c (.int 0)))]) (.blk 0 (.loop C.cmp_Or_int_3))
def C.cmp_Or_int_7 : ACode := .seq (.reg false [o 17 (.mv (.t 3)), o 2 (.mv (.t 17))]) .ret
def C.cmp_Or_int_1 : ACode := .seq (.reg false [o 3 (.mv (.c (.int 0)))]) (.seq C.cmp_Or_int_2 C.cmp_Or_int_7)
def C.cmp_Or_int_0 : ACode := .seq (.reg false [o 2 (.mv (.c (.int 0)))]) C.cmp_Or_int_1
def C.cmp_Or_int : ACode := C.cmp_Or_int_0
theorem C.cmp_Or_int_eq : comp Tryz.prog (Tryz.f35.body.getD .skip) = some C.cmp_Or_int := by kernel_rfl
theorem Bd.cmp_Or_int : Body Tryz.prog F.cmp_Or_int C.cmp_Or_int [.slot 2] 18 := ⟨⟨_, _, Tryz.func35, by kernel_rfl, C.cmp_Or_int_eq, by kernel_rfl, by kernel_rfl⟩, Tryz.call35, by kernel_rfl⟩
def C.cmp_Compare_int_5 : ACode := .seq (.reg false [o 4 (.mv (.c (.int 0)))]) .ret
def C.cmp_Compare_int_4 : ACode := .seq (.reg false [o 12 (.mv (.t 6))]) (.cond (.t 12) C.cmp_Compare_int_5 .skip)
def C.cmp_Compare_int_6 : ACode := .seq (.reg false [o 4 (.mv (.c (.int (-1))))]) .ret
def C.cmp_Compare_int_3 : ACode := .seq (.reg false [o 11 (.mv (.t 5))]) (.cond (.t 11) (.seq C.cmp_Compare_int_4 C.cmp_Compare_int_6) .skip)
def C.cmp_Compare_int_8 : ACode := .seq (.reg false [o 4 (.mv (.c (.int 1)))]) .ret
def C.cmp_Compare_int_7 : ACode := .seq (.reg false [o 13 (.mv (.t 6))]) (.cond (.t 13) C.cmp_Compare_int_8 .skip)
def C.cmp_Compare_int_10 : ACode := .seq (.reg false [o 4 (.mv (.c (.int (-1))))]) .ret
def C.cmp_Compare_int_9 : ACode := .seq (.reg false [o 14 (.mv (.t 0)), o 15 (.mv (.t 1)), o 16 (.bin .lss (.t 14) (.t 15))]) (.cond (.t 16) C.cmp_Compare_int_10 .skip)
def C.cmp_Compare_int_12 : ACode := .seq (.reg false [o 4 (.mv (.c (.int 1)))]) .ret
def C.cmp_Compare_int_11 : ACode := .seq (.reg false [o 17 (.mv (.t 0)), o 18 (.mv (.t 1)), o 19 (.bin .gtr (.t 17) (.t 18))]) (.cond (.t 19) C.cmp_Compare_int_12 .skip)
def C.cmp_Compare_int_13 : ACode := .seq (.reg false [o 4 (.mv (.c (.int 0)))]) .ret
def C.cmp_Compare_int_2 : ACode := .seq (.reg false [o 9 (.mv (.t 1)), o 10 (.call F.cmp_isNaN_int [(.t 9)]), o 6 (.mv (.t 10))]) (.seq C.cmp_Compare_int_3 (.seq
  C.cmp_Compare_int_7 (.seq C.cmp_Compare_int_9 (.seq C.cmp_Compare_int_11 C.cmp_Compare_int_13))))
def C.cmp_Compare_int_1 : ACode := .seq (.reg false [o 7 (.mv (.t 0)), o 8 (.call F.cmp_isNaN_int [(.t 7)]), o 5 (.mv (.t 8))]) C.cmp_Compare_int_2
def C.cmp_Compare_int_0 : ACode := .seq (.reg false [o 4 (.mv (.c (.int 0)))]) C.cmp_Compare_int_1
def C.cmp_Compare_int : ACode := C.cmp_Compare_int_0
theorem C.cmp_Compare_int_eq : comp Tryz.prog (Tryz.f36.body.getD .skip) = some C.cmp_Compare_int := by kernel_rfl
theorem Bd.cmp_Compare_int : Body Tryz.prog F.cmp_Compare_int C.cmp_Compare_int [.slot 4] 20 := ⟨⟨_, _, Tryz.func36, by kernel_rfl, C.cmp_Compare_int_eq, by kernel_rfl, by kernel_rfl⟩, Tryz.call36, by kernel_rfl⟩
def C.slices_Compare_Lint_int_5 : ACode := .seq (.reg false [o 4 (.mv (.c (.int 1)))]) .ret
def C.slices_Compare_Lint_int_4 : ACode := .seq (.reg false [o 16 (.mv (.t 5)), o 17 (.mv (.t 1)), o 18 (.len false (.t 17)), o 19 (.bin .geq (.t 16) (.t 18))]) (.cond (.t 19)
  C.slices_Compare_Lint_int_5 .skip)
def C.slices_Compare_Lint_int_9 : ACode := .seq (.reg false [o 29 (.mv (.t 8)), o 4 (.mv (.t 29))]) .ret
def C.slices_Compare_Lint_int_8 : ACode := .seq (.reg false [o 27 (.mv (.t 8)), o 28 (.bin .neq (.t 27) (.c (.int 0)))]) (.cond (.t 28) C.slices_Compare_Lint_int_9 .skip)
def C.slices_Compare_Lint_int_7 : ACode := .seq (.reg false [o 24 (.mv (.t 6)), o 25 (.mv (.t 7)), o 26 (.call F.cmp_Compare_int [(.t 24), (.t 25)]), o 8 (.mv (.t 26))])
  C.slices_Compare_Lint_int_8
def C.slices_Compare_Lint_int_6 : ACode := .seq (.reg false [o 20 (.mv (.t 1)), o 21 (.mv (.t 5)), o 22 (.ia 0 (.t 20) (.t 21)), o 23 (.ld 0 (.t 22)), o 7 (.mv (.t 23))])
  C.slices_Compare_Lint_int_7
def C.slices_Compare_Lint_int_3 : ACode := .seq (.reg false [o 13 (.mv (.t 11)), o 14 (.ia 0 (.t 9) (.t 11)), o 15 (.ld 0 (.t 14)), o 5 (.mv (.t 13)), o 6 (.mv (.t 15))]) (.seq
  C.slices_Compare_Lint_int_4 C.slices_Compare_Lint_int_6)
def C.slices_Compare_Lint_int_2 : ACode := .seq (.reg false [o 12 (.bin .lss (.t 11) (.t 10))]) (.seq (.cond (.t 12) .skip (.exit 0)) (.seq (.blk 1 C.slices_Compare_Lint_int_3)
  (.reg false [o 30 (.bin .add (.t 11) (.c (.int 1))), o 11 (.mv (.t 30))])))
def C.slices_Compare_Lint_int_1 : ACode := .seq (.reg false [o 9 (.mv (.t 0)), o 10 (.len false (.t 9)), o 11 (.mv (.c (.int 0)))]) (.blk 0 (.loop C.slices_Compare_Lint_int_2))
def C.slices_Compare_Lint_int_11 : ACode := .seq (.reg false [o 4 (.mv (.c (.int (-1))))]) .ret
def C.slices_Compare_Lint_int_10 : ACode := .seq (.reg false [o 31 (.mv (.t 0)), o 32 (.len false (.t 31)), o 33 (.mv (.t 1)), o 34 (.len false (.t 33)), o 35 (.bin .lss (.t 32)
  (.t 34))]) (.cond (.t 35) C.slices_Compare_Lint_int_11 .skip)
def C.slices_Compare_Lint_int_12 : ACode := .seq (.reg false [o 4 (.mv (.c (.int 0)))]) .ret
def C.slices_Compare_Lint_int_0 : ACode := .seq (.reg false [o 4 (.mv (.c (.int 0)))]) (.seq C.slices_Compare_Lint_int_1 (.seq C.slices_Compare_Lint_int_10
  C.slices_Compare_Lint_int_12))
def C.slices_Compare_Lint_int : ACode := C.slices_Compare_Lint_int_0
theorem C.slices_Compare_Lint_int_eq : comp Tryz.prog (Tryz.f37.body.getD .skip) = some C.slices_Compare_Lint_int := by kernel_rfl
theorem Bd.slices_Compare_Lint_int : Body Tryz.prog F.slices_Compare_Lint_int C.slices_Compare_Lint_int [.slot 4] 36 := ⟨⟨_, _, Tryz.func37, by kernel_rfl, C.slices_Compare_Lint_int_eq, by kernel_rfl, by kernel_rfl⟩, Tryz.call37, by kernel_rfl⟩
def C.r05_Lists_2 : ACode := .seq (.reg false [o 6 (.mv (.t 5)), o 7 (.mv (.t 0)), o 8 (.len false (.t 7)), o 9 (.bin .lss (.t 6) (.t 8)), o 10 (.mv (.t 9)), og 11 10 true (.mv (.t
  5)), og 12 10 true (.mv (.t 1)), og 13 10 true (.len false (.t 12)), og 14 10 true (.bin .lss (.t 11) (.t 13)), o 15 (.pick (.t 10) (.t 14) (.c (.bool false)))]) (.cond (.t 15)
  .skip (.exit 0))
def C.r05_Lists_4 : ACode := .seq (.reg false [o 4 (.mv (.c (.int (-1))))]) .ret
def C.r05_Lists_3 : ACode := .seq (.reg true [o 18 (.mv (.t 0)), o 19 (.mv (.t 5)), o 20 (.ia 0 (.t 18) (.t 19)), o 21 (.ld 0 (.t 20)), o 22 (.mv (.t 1)), o 23 (.mv (.t 5)), o 24
  (.ia 0 (.t 22) (.t 23)), o 25 (.ld 0 (.t 24)), o 26 (.bin .lss (.t 21) (.t 25))]) (.cond (.t 26) C.r05_Lists_4 .skip)
def C.r05_Lists_6 : ACode := .seq (.reg false [o 4 (.mv (.c (.int 1)))]) .ret
def C.r05_Lists_5 : ACode := .seq (.reg true [o 27 (.mv (.t 0)), o 28 (.mv (.t 5)), o 29 (.ia 0 (.t 27) (.t 28)), o 30 (.ld 0 (.t 29)), o 31 (.mv (.t 1)), o 32 (.mv (.t 5)), o 33
  (.ia 0 (.t 31) (.t 32)), o 34 (.ld 0 (.t 33)), o 35 (.bin .gtr (.t 30) (.t 34))]) (.cond (.t 35) C.r05_Lists_6 .skip)
def C.r05_Lists_1 : ACode := .seq (.reg false [o 5 (.mv (.c (.int 0)))]) (.blk 0 (.loop (.seq C.r05_Lists_2 (.seq (.blk 1 (.seq C.r05_Lists_3 C.r05_Lists_5)) (.reg false [o 16 (.mv
  (.t 5)), o 17 (.bin .add (.t 16) (.c (.int 1))), o 5 (.mv (.t 17))])))))
def C.r05_Lists_8 : ACode := .seq (.reg false [o 4 (.mv (.c (.int (-1))))]) .ret
def C.r05_Lists_7 : ACode := .seq (.reg false [o 36 (.mv (.t 0)), o 37 (.len false (.t 36)), o 38 (.mv (.t 1)), o 39 (.len false (.t 38)), o 40 (.bin .lss (.t 37) (.t 39))]) (.cond
  (.t 40) C.r05_Lists_8 .skip)
def C.r05_Lists_10 : ACode := .seq (.reg false [o 4 (.mv (.c (.int 1)))]) .ret
def C.r05_Lists_9 : ACode := .seq (.reg false [o 41 (.mv (.t 0)), o 42 (.len false (.t 41)), o 43 (.mv (.t 1)), o 44 (.len false (.t 43)), o 45 (.bin .gtr (.t 42) (.t 44))]) (.cond
  (.t 45) C.r05_Lists_10 .skip)
def C.r05_Lists_11 : ACode := .seq (.reg false [o 4 (.mv (.c (.int 0)))]) .ret
def C.r05_Lists_0 : ACode := .seq (.reg false [o 4 (.mv (.c (.int 0)))]) (.seq C.r05_Lists_1 (.seq C.r05_Lists_7 (.seq C.r05_Lists_9 C.r05_Lists_11)))
def C.r05_Lists : ACode := C.r05_Lists_0
theorem C.r05_Lists_eq : comp Tryz.prog (Tryz.f38.body.getD .skip) = some C.r05_Lists := by kernel_rfl
theorem Bd.r05_Lists : Body Tryz.prog F.r05_Lists C.r05_Lists [.slot 4] 46 := ⟨⟨_, _, Tryz.func38, by kernel_rfl, C.r05_Lists_eq, by kernel_rfl, by kernel_rfl⟩, Tryz.call38, by kernel_rfl⟩
def C.cover_inRange_5 : ACode := .seq (.reg false [o 2 (.mv (.c (.bool false)))]) .ret
def C.cover_inRange_4 : ACode := .seq (.reg false [o 11 (.mv (.t 4)), o 12 (.bin .lss (.t 11) (.c (.int 0))), o 13 (.mv (.t 12)), og 14 13 false (.mv (.t 4)), og 15 13 false (.bin
  .gtr (.t 14) (.c (.int 1048576))), o 16 (.pick (.t 13) (.c (.bool true)) (.t 15))]) (.cond (.t 16) C.cover_inRange_5 .skip)
def C.cover_inRange_3 : ACode := .seq (.reg false [o 9 (.ia 0 (.t 5) (.t 7)), o 10 (.ld 0 (.t 9)), o 4 (.mv (.t 10))]) C.cover_inRange_4
def C.cover_inRange_2 : ACode := .seq (.reg false [o 8 (.bin .lss (.t 7) (.t 6))]) (.seq (.cond (.t 8) .skip (.exit 0)) (.seq (.blk 1 C.cover_inRange_3) (.reg false [o 17 (.bin
  .add (.t 7) (.c (.int 1))), o 7 (.mv (.t 17))])))
def C.cover_inRange_1 : ACode := .seq (.reg false [o 5 (.mv (.t 0)), o 6 (.len false (.t 5)), o 7 (.mv (.c (.int 0)))]) (.blk 0 (.loop C.cover_inRange_2))
def C.cover_inRange_6 : ACode := .seq (.reg false [o 2 (.mv (.c (.bool true)))]) .ret
def C.cover_inRange_0 : ACode := .seq (.reg false [o 2 (.mv (.c (.bool false)))]) (.seq C.cover_inRange_1 C.cover_inRange_6)
def C.cover_inRange : ACode := C.cover_inRange_0
theorem C.cover_inRange_eq : comp Tryz.prog (Tryz.f39.body.getD .skip) = some C.cover_inRange := by kernel_rfl
theorem Bd.cover_inRange : Body Tryz.prog F.cover_inRange C.cover_inRange [.slot 2] 18 := ⟨⟨_, _, Tryz.func39, by kernel_rfl, C.cover_inRange_eq, by kernel_rfl, by kernel_rfl⟩, Tryz.call39, by kernel_rfl⟩
def C.cover_tidy_2 : ACode := .seq (.reg false [o 5 (.mv (.t 0)), o 6 (.call F.slices_CompactFunc_Lapi_Element_api_Element [(.t 5), (.c (.fn F.cover_tidy_c1 []))]), o 2 (.mv (.t
  6))]) .ret
def C.cover_tidy_1 : ACode := .seq (.reg false [o 3 (.mv (.t 0)), o 4 (.call F.slices_SortFunc_Lapi_Element_api_Element [(.t 3), (.c (.fn F.cover_Compare []))])]) C.cover_tidy_2
def C.cover_tidy_0 : ACode := .seq (.reg false [o 2 (.mv (.c .nil))]) C.cover_tidy_1
def C.cover_tidy : ACode := C.cover_tidy_0
theorem C.cover_tidy_eq : comp Tryz.prog (Tryz.f41.body.getD .skip) = some C.cover_tidy := by kernel_rfl
theorem Bd.cover_tidy : Body Tryz.prog F.cover_tidy C.cover_tidy [.slot 2] 7 := ⟨⟨_, _, Tryz.func41, by kernel_rfl, C.cover_tidy_eq, by kernel_rfl, by kernel_rfl⟩, Tryz.call41, by kernel_rfl⟩
def C.r05_Insert_2 : ACode := .seq (.reg true [o 9 (.mv (.t 5)), o 10 (.bin .gtr (.t 9) (.c (.int 0))), o 11 (.mv (.t 10)), og 12 11 true (.mv (.t 0)), og 13 11 true (.mv (.t 5)),
  og 14 11 true (.bin .sub (.t 13) (.c (.int 1))), og 15 11 true (.ia 3 (.t 12) (.t 14)), og 16 11 true (.ld 3 (.t 15)), og 17 11 true (.ld 3 (.t 3)), og 18 11 true (.call
  F.r05_Compare [(.t 16), (.t 17)]), og 19 11 true (.bin .gtr (.t 18) (.c (.int 0))), o 20 (.pick (.t 11) (.t 19) (.c (.bool false)))]) (.cond (.t 20) .skip (.exit 0))
def C.r05_Insert_4 : ACode := .seq (.reg false [o 35 (.mv (.t 0)), o 4 (.mv (.t 35))]) .ret
def C.r05_Insert_3 : ACode := .seq (.reg true [o 23 (.mv (.t 5)), o 24 (.bin .gtr (.t 23) (.c (.int 0))), o 25 (.mv (.t 24)), og 26 25 true (.mv (.t 0)), og 27 25 true (.mv (.t
  5)), og 28 25 true (.bin .sub (.t 27) (.c (.int 1))), og 29 25 true (.ia 3 (.t 26) (.t 28)), og 30 25 true (.ld 3 (.t 29)), og 31 25 true (.ld 3 (.t 3)), og 32 25 true (.call
  F.r05_Compare [(.t 30), (.t 31)]), og 33 25 true (.bin .eql (.t 32) (.c (.int 0))), o 34 (.pick (.t 25) (.t 33) (.c (.bool false)))]) (.cond (.t 34) C.r05_Insert_4 .skip)
def C.r05_Insert_7 : ACode := .seq (.reg false [o 43 (.mv (.t 6)), o 44 (.mv (.t 5)), o 45 (.bin .gtr (.t 43) (.t 44))]) (.cond (.t 45) .skip (.exit 2))
def C.r05_Insert_6 : ACode := .seq (.reg false [o 40 (.mv (.t 0)), o 41 (.len false (.t 40)), o 42 (.bin .sub (.t 41) (.c (.int 1))), o 6 (.mv (.t 42))]) (.blk 2 (.loop (.seq
  C.r05_Insert_7 (.seq (.blk 3 (.reg false [o 48 (.mv (.t 0)), o 49 (.mv (.t 6)), o 50 (.mv (.t 0)), o 51 (.mv (.t 6)), o 52 (.bin .sub (.t 51) (.c (.int 1))), o 53 (.ia 3 (.t 50)
  (.t 52)), o 54 (.ld 3 (.t 53)), o 55 (.ia 3 (.t 48) (.t 49)), ov (.st 3 (.t 55) (.t 54))])) (.reg false [o 46 (.mv (.t 6)), o 47 (.bin .sub (.t 46) (.c (.int 1))), o 6 (.mv (.t
  47))])))))
def C.r05_Insert_9 : ACode := .seq (.reg false [o 61 (.mv (.t 0)), o 4 (.mv (.t 61))]) .ret
def C.r05_Insert_8 : ACode := .seq (.reg false [o 56 (.mv (.t 0)), o 57 (.mv (.t 5)), o 58 (.ld 3 (.t 3)), o 59 (.call F.r05_Copy [(.t 58)]), o 60 (.ia 3 (.t 56) (.t 57)), ov (.st
  3 (.t 60) (.t 59))]) C.r05_Insert_9
def C.r05_Insert_5 : ACode := .seq (.reg false [o 36 (.mv (.t 0)), o 37 (.mk [(.int 0), .nil] []), o 38 (.mso Y.api_Element 3 (.agg [(.int 0), .nil]) 1 [(0, (.t 37))]), o 39 (.app
  Y.api_Element 3 32 (.t 36) (.t 38)), o 0 (.mv (.t 39))]) (.seq C.r05_Insert_6 C.r05_Insert_8)
def C.r05_Insert_1 : ACode := .seq (.reg false [o 7 (.mv (.t 0)), o 8 (.len false (.t 7)), o 5 (.mv (.t 8))]) (.seq (.blk 0 (.loop (.seq C.r05_Insert_2 (.blk 1 (.reg false [o 21
  (.mv (.t 5)), o 22 (.bin .sub (.t 21) (.c (.int 1))), o 5 (.mv (.t 22))]))))) (.seq C.r05_Insert_3 C.r05_Insert_5))
def C.r05_Insert_0 : ACode := .seq (.reg false [o 3 (.box Y.api_Element 3 (.t 1)), o 4 (.mv (.c .nil))]) C.r05_Insert_1
def C.r05_Insert : ACode := C.r05_Insert_0
theorem C.r05_Insert_eq : comp Tryz.prog (Tryz.f43.body.getD .skip) = some C.r05_Insert := by kernel_rfl
theorem Bd.r05_Insert : Body Tryz.prog F.r05_Insert C.r05_Insert [.slot 4] 62 := ⟨⟨_, _, Tryz.func43, by kernel_rfl, C.r05_Insert_eq, by kernel_rfl, by kernel_rfl⟩, Tryz.call43, by kernel_rfl⟩
def C.r02_Validate_2 : ACode := .seq (.reg false [o 2 (.mv (.c (.int 2)))]) .ret
def C.r02_Validate_1 : ACode := .seq (.reg false [o 10 (.fa 0 0 (.t 1)), o 11 (.ld 0 (.t 10)), o 12 (.call F.r02_ValidName [(.t 11)]), o 13 (.not (.t 12))]) (.cond (.t 13)
  C.r02_Validate_2 .skip)
def C.r02_Validate_4 : ACode := .seq (.reg false [o 2 (.mv (.c (.int 1)))]) .ret
def C.r02_Validate_3 : ACode := .seq (.reg false [o 14 (.fa 1 0 (.t 1)), o 15 (.ld 0 (.t 14)), o 16 (.call F.r02_within [(.t 15), (.c (.int 1)), (.c (.int 4))]), o 17 (.not (.t
  16)), o 18 (.mv (.t 17)), og 19 18 false (.fa 5 0 (.t 1)), og 20 18 false (.ld 0 (.t 19)), og 21 18 false (.call F.r02_within [(.t 20), (.c (.int 0)), (.c (.int 3))]), og 22 18
  false (.not (.t 21)), o 23 (.pick (.t 18) (.c (.bool true)) (.t 22))]) (.cond (.t 23) C.r02_Validate_4 .skip)
def C.r02_Validate_6 : ACode := .seq (.reg false [o 2 (.mv (.c (.int 1)))]) .ret
def C.r02_Validate_5 : ACode := .seq (.reg false [o 24 (.fa 2 0 (.t 1)), o 25 (.ld 0 (.t 24)), o 26 (.len false (.t 25)), o 27 (.bin .eql (.t 26) (.c (.int 0)))]) (.cond (.t 27)
  C.r02_Validate_6 .skip)
def C.r02_Validate_8 : ACode := .seq (.reg false [o 2 (.mv (.c (.int 4)))]) .ret
def C.r02_Validate_7 : ACode := .seq (.reg false [o 28 (.fa 2 0 (.t 1)), o 29 (.ld 0 (.t 28)), o 30 (.len false (.t 29)), o 31 (.bin .gtr (.t 30) (.c (.int 6))), o 32 (.mv (.t
  31)), og 33 32 false (.fa 3 0 (.t 1)), og 34 32 false (.ld 0 (.t 33)), og 35 32 false (.len false (.t 34)), og 36 32 false (.bin .gtr (.t 35) (.c (.int 3))), o 37 (.pick (.t 32)
  (.c (.bool true)) (.t 36)), o 38 (.mv (.t 37)), og 39 38 false (.fa 4 0 (.t 1)), og 40 38 false (.ld 0 (.t 39)), og 41 38 false (.len false (.t 40)), og 42 38 false (.bin .gtr
  (.t 41) (.c (.int 3))), o 43 (.pick (.t 38) (.c (.bool true)) (.t 42)), o 44 (.mv (.t 43)), og 45 44 false (.fa 6 0 (.t 1)), og 46 44 false (.ld 0 (.t 45)), og 47 44 false (.len
  false (.t 46)), og 48 44 false (.bin .gtr (.t 47) (.c (.int 4))), o 49 (.pick (.t 44) (.c (.bool true)) (.t 48)), o 50 (.mv (.t 49)), og 51 50 false (.fa 9 0 (.t 1)), og 52 50
  false (.ld 0 (.t 51)), og 53 50 false (.len false (.t 52)), og 54 50 false (.bin .gtr (.t 53) (.c (.int 8))), o 55 (.pick (.t 50) (.c (.bool true)) (.t 54))]) (.cond (.t 55)
  C.r02_Validate_8 .skip)
def C.r02_Validate_11 : ACode := .seq (.reg false [o 66 (.mv (.t 4)), o 67 (.mv (.t 3)), o 68 (.len false (.t 67)), o 69 (.bin .lss (.t 66) (.t 68))]) (.cond (.t 69) .skip (.exit
  0))
def C.r02_Validate_13 : ACode := .seq (.reg false [o 2 (.mv (.c (.int 2)))]) .ret
def C.r02_Validate_12 : ACode := .seq (.reg true [o 72 (.mv (.t 3)), o 73 (.mv (.t 4)), o 74 (.ia 0 (.t 72) (.t 73)), o 75 (.ld 0 (.t 74)), o 76 (.call F.r02_ValidName [(.t 75)]),
  o 77 (.not (.t 76)), o 78 (.mv (.t 77)), og 79 78 false (.mv (.t 3)), og 80 78 false (.mv (.t 4)), og 81 78 false (.sl 0 (.t 79) none (some (.t 80)) none), og 82 78 false (.mv
  (.t 3)), og 83 78 false (.mv (.t 4)), og 84 78 false (.ia 0 (.t 82) (.t 83)), og 85 78 false (.ld 0 (.t 84)), og 86 78 false (.call F.r02_HasText [(.t 81), (.t 85)]), o 87 (.pick
  (.t 78) (.c (.bool true)) (.t 86))]) (.cond (.t 87) C.r02_Validate_13 .skip)
def C.r02_Validate_10 : ACode := .seq (.reg false [o 4 (.mv (.c (.int 0)))]) (.blk 0 (.loop (.seq C.r02_Validate_11 (.seq (.blk 1 C.r02_Validate_12) (.reg false [o 70 (.mv (.t 4)),
  o 71 (.bin .add (.t 70) (.c (.int 1))), o 4 (.mv (.t 71))])))))
def C.r02_Validate_15 : ACode := .seq (.reg false [o 2 (.mv (.c (.int 1)))]) .ret
def C.r02_Validate_14 : ACode := .seq (.reg false [o 88 (.fa 1 0 (.t 1)), o 89 (.ld 0 (.t 88)), o 90 (.bin .neq (.t 89) (.c (.int 1))), o 91 (.mv (.t 90)), og 92 91 true (.fa 3 0
  (.t 1)), og 93 91 true (.ld 0 (.t 92)), og 94 91 true (.len false (.t 93)), og 95 91 true (.bin .gtr (.t 94) (.c (.int 0))), og 96 91 true (.mv (.t 95)), og 97 96 false (.fa 4 0
  (.t 1)), og 98 96 false (.ld 0 (.t 97)), og 99 96 false (.len false (.t 98)), og 100 96 false (.bin .gtr (.t 99) (.c (.int 0))), og 101 91 true (.pick (.t 96) (.c (.bool true))
  (.t 100)), og 102 91 true (.mv (.t 101)), og 103 102 false (.fa 6 0 (.t 1)), og 104 102 false (.ld 0 (.t 103)), og 105 102 false (.len false (.t 104)), og 106 102 false (.bin
  .gtr (.t 105) (.c (.int 0))), og 107 91 true (.pick (.t 102) (.c (.bool true)) (.t 106)), og 108 91 true (.mv (.t 107)), og 109 108 false (.fa 5 0 (.t 1)), og 110 108 false (.ld
  0 (.t 109)), og 111 108 false (.bin .neq (.t 110) (.c (.int 0))), og 112 91 true (.pick (.t 108) (.c (.bool true)) (.t 111)), o 113 (.pick (.t 91) (.t 112) (.c (.bool false))), o
  114 (.mv (.t 113)), og 115 114 false (.fa 1 0 (.t 1)), og 116 114 false (.ld 0 (.t 115)), og 117 114 false (.bin .eql (.t 116) (.c (.int 1))), og 118 114 false (.mv (.t 117)), og
  119 118 true (.fa 8 0 (.t 1)), og 120 118 true (.ld 0 (.t 119)), og 121 118 true (.len false (.t 120)), og 122 118 true (.bin .gtr (.t 121) (.c (.int 0))), og 123 114 false
  (.pick (.t 118) (.t 122) (.c (.bool false))), o 124 (.pick (.t 114) (.c (.bool true)) (.t 123))]) (.cond (.t 124) C.r02_Validate_15 .skip)
def C.r02_Validate_17 : ACode := .seq (.reg false [o 125 (.mv (.t 5)), o 126 (.fa 6 0 (.t 1)), o 127 (.ld 0 (.t 126)), o 128 (.len false (.t 127)), o 129 (.bin .lss (.t 125) (.t
  128))]) (.cond (.t 129) .skip (.exit 2))
def C.r02_Validate_19 : ACode := .seq (.reg false [o 2 (.mv (.c (.int 4)))]) .ret
def C.r02_Validate_18 : ACode := .seq (.reg false [o 132 (.fa 6 0 (.t 1)), o 133 (.ld 0 (.t 132)), o 134 (.mv (.t 5)), o 135 (.ia 5 (.t 133) (.t 134)), o 136 (.ld 5 (.t 135)), o
  137 (.call F.r02_few [(.t 136)]), o 138 (.not (.t 137))]) (.cond (.t 138) C.r02_Validate_19 .skip)
def C.r02_Validate_16 : ACode := .seq (.reg false [o 5 (.mv (.c (.int 0)))]) (.blk 2 (.loop (.seq C.r02_Validate_17 (.seq (.blk 3 C.r02_Validate_18) (.reg false [o 130 (.mv (.t
  5)), o 131 (.bin .add (.t 130) (.c (.int 1))), o 5 (.mv (.t 131))])))))
def C.r02_Validate_22 : ACode := .seq (.reg false [o 147 (.mv (.t 6)), o 2 (.mv (.t 147))]) .ret
def C.r02_Validate_21 : ACode := .seq (.reg false [o 145 (.mv (.t 6)), o 146 (.bin .neq (.t 145) (.c (.int 0)))]) (.cond (.t 146) C.r02_Validate_22 .skip)
def C.r02_Validate_20 : ACode := .seq (.reg false [o 139 (.fa 7 0 (.t 1)), o 140 (.ld 0 (.t 139)), o 141 (.fa 2 0 (.t 1)), o 142 (.ld 0 (.t 141)), o 143 (.len false (.t 142)), o
  144 (.call F.r02_Set [(.t 140), (.t 143)]), o 6 (.mv (.t 144))]) C.r02_Validate_21
def C.r02_Validate_24 : ACode := .seq (.reg false [o 2 (.mv (.c (.int 1)))]) .ret
def C.r02_Validate_23 : ACode := .seq (.reg false [o 148 (.fa 7 0 (.t 1)), o 149 (.ld 0 (.t 148)), o 150 (.len false (.t 149)), o 151 (.bin .eql (.t 150) (.c (.int 0)))]) (.cond
  (.t 151) C.r02_Validate_24 .skip)
def C.r02_Validate_27 : ACode := .seq (.reg false [o 160 (.mv (.t 7)), o 2 (.mv (.t 160))]) .ret
def C.r02_Validate_26 : ACode := .seq (.reg false [o 158 (.mv (.t 7)), o 159 (.bin .neq (.t 158) (.c (.int 0)))]) (.cond (.t 159) C.r02_Validate_27 .skip)
def C.r02_Validate_25 : ACode := .seq (.reg false [o 152 (.fa 8 0 (.t 1)), o 153 (.ld 0 (.t 152)), o 154 (.fa 2 0 (.t 1)), o 155 (.ld 0 (.t 154)), o 156 (.len false (.t 155)), o
  157 (.call F.r02_Set [(.t 153), (.t 156)]), o 7 (.mv (.t 157))]) C.r02_Validate_26
def C.r02_Validate_29 : ACode := .seq (.reg false [o 161 (.mv (.t 8)), o 162 (.fa 9 0 (.t 1)), o 163 (.ld 0 (.t 162)), o 164 (.len false (.t 163)), o 165 (.bin .lss (.t 161) (.t
  164))]) (.cond (.t 165) .skip (.exit 4))
def C.r02_Validate_32 : ACode := .seq (.reg false [o 173 (.mv (.t 9)), o 2 (.mv (.t 173))]) .ret
def C.r02_Validate_31 : ACode := .seq (.reg false [o 171 (.mv (.t 9)), o 172 (.bin .neq (.t 171) (.c (.int 0)))]) (.cond (.t 172) C.r02_Validate_32 .skip)
def C.r02_Validate_30 : ACode := .seq (.reg false [o 168 (.ld 11 (.t 1)), o 169 (.mv (.t 8)), o 170 (.call F.r02_rule [(.t 168), (.t 169)]), o 9 (.mv (.t 170))]) C.r02_Validate_31
def C.r02_Validate_28 : ACode := .seq (.reg false [o 8 (.mv (.c (.int 0)))]) (.blk 4 (.loop (.seq C.r02_Validate_29 (.seq (.blk 5 C.r02_Validate_30) (.reg false [o 166 (.mv (.t
  8)), o 167 (.bin .add (.t 166) (.c (.int 1))), o 8 (.mv (.t 167))])))))
def C.r02_Validate_34 : ACode := .seq (.reg false [o 2 (.mv (.c (.int 4)))]) .ret
def C.r02_Validate_33 : ACode := .seq (.reg false [o 174 (.ld 11 (.t 1)), o 175 (.call F.r02_distinct [(.t 174)]), o 176 (.len false (.t 175)), o 177 (.bin .gtr (.t 176) (.c (.int
  3)))]) (.cond (.t 177) C.r02_Validate_34 .skip)
def C.r02_Validate_35 : ACode := .seq (.reg false [o 2 (.mv (.c (.int 0)))]) .ret
def C.r02_Validate_9 : ACode := .seq (.reg true [o 56 (.ms Y.string 0 (.lit (.string (bs []))) 0 []), o 57 (.fa 2 0 (.t 1)), o 58 (.ld 0 (.t 57)), ⟨some 60, .fa 3 0 (.t 1), none,
  true, []⟩, ⟨some 61, .ld 0 (.t 60), none, true, []⟩, ⟨some 63, .fa 4 0 (.t 1), none, true, []⟩, ⟨some 64, .ld 0 (.t 63), none, true, []⟩, ⟨some 59, .app Y.string 0 16 (.t 56) (.t
  58), none, true, []⟩, ⟨some 62, .app Y.string 0 16 (.t 59) (.t 61), none, true, []⟩, o 65 (.app Y.string 0 16 (.t 62) (.t 64)), o 3 (.mv (.t 65))]) (.seq C.r02_Validate_10 (.seq
  C.r02_Validate_14 (.seq C.r02_Validate_16 (.seq C.r02_Validate_20 (.seq C.r02_Validate_23 (.seq C.r02_Validate_25 (.seq C.r02_Validate_28 (.seq C.r02_Validate_33
  C.r02_Validate_35))))))))
def C.r02_Validate_0 : ACode := .seq (.reg false [o 1 (.box Y.api_Protocol 11 (.t 0)), o 2 (.mv (.c (.int 0)))]) (.seq C.r02_Validate_1 (.seq C.r02_Validate_3 (.seq
  C.r02_Validate_5 (.seq C.r02_Validate_7 C.r02_Validate_9))))
def C.r02_Validate : ACode := C.r02_Validate_0
theorem C.r02_Validate_eq : comp Tryz.prog (Tryz.f44.body.getD .skip) = some C.r02_Validate := by kernel_rfl
theorem Bd.r02_Validate : Body Tryz.prog F.r02_Validate C.r02_Validate [.slot 2] 178 := ⟨⟨_, _, Tryz.func44, by kernel_rfl, C.r02_Validate_eq, by kernel_rfl, by kernel_rfl⟩, Tryz.call44, by kernel_rfl⟩
def C.cover_badElements_6 : ACode := .seq (.reg false [o 22 (.mv (.t 20)), o 7 (.mv (.t 22))]) (.reg false [o 23 (.mv (.t 5)), o 24 (.mv (.t 7)), o 25 (.mv (.t 6)), o 26 (.app
  Y.int 0 8 (.c .nil) (.t 25)), o 27 (.mk [(.int 0), .nil] [(0, 1, (.t 24)), (1, 1, (.t 26))]), o 28 (.mso Y.api_Element 3 (.agg [(.int 0), .nil]) 1 [(0, (.t 27))]), o 29 (.app
  Y.api_Element 3 32 (.t 23) (.t 28)), o 5 (.mv (.t 29))])
def C.cover_badElements_5 : ACode := .seq (.reg false [o 21 (.bin .lss (.t 20) (.t 19))]) (.seq (.cond (.t 21) .skip (.exit 2)) (.seq (.blk 3 C.cover_badElements_6) (.reg false [o
  30 (.bin .add (.t 20) (.c (.int 1))), o 20 (.mv (.t 30))])))
def C.cover_badElements_4 : ACode := .seq (.reg false [o 16 (.fa 4 0 (.t 2)), o 17 (.ld 0 (.t 16)), o 18 (.len false (.t 17)), o 19 (.mx (.c (.int 1)) (.t 18)), o 20 (.mv (.c (.int
  0)))]) (.blk 2 (.loop C.cover_badElements_5))
def C.cover_badElements_3 : ACode := .seq (.reg false [o 13 (.ld 7 (.t 3)), o 14 (.mv (.t 6)), o 15 (.call F.cover_badCounts [(.t 13), (.t 14)])]) (.cond (.t 15)
  C.cover_badElements_4 .skip)
def C.cover_badElements_8 : ACode := .seq (.reg false [o 34 (.mv (.t 8)), o 35 (.bin .geq (.t 34) (.c (.int 0))), o 36 (.mv (.t 35)), og 37 36 true (.mv (.t 6)), og 38 36 true (.mv
  (.t 8)), og 39 36 true (.ia 0 (.t 37) (.t 38)), og 40 36 true (.ld 0 (.t 39)), og 41 36 true (.bin .eql (.t 40) (.c (.int 3))), o 42 (.pick (.t 36) (.t 41) (.c (.bool false)))])
  (.cond (.t 42) .skip (.exit 4))
def C.cover_badElements_10 : ACode := .seq (.reg false [o 50 (.mv (.t 5)), o 51 (.call F.cover_minimalOf [(.t 50)]), o 4 (.mv (.t 51))]) .ret
def C.cover_badElements_9 : ACode := .seq (.reg false [o 48 (.mv (.t 8)), o 49 (.bin .lss (.t 48) (.c (.int 0)))]) (.cond (.t 49) C.cover_badElements_10 .skip)
def C.cover_badElements_7 : ACode := .seq (.reg false [o 31 (.mv (.t 6)), o 32 (.len false (.t 31)), o 33 (.bin .sub (.t 32) (.c (.int 1))), o 8 (.mv (.t 33))]) (.seq (.blk 4
  (.loop (.seq C.cover_badElements_8 (.seq (.blk 5 (.reg false [o 45 (.mv (.t 6)), o 46 (.mv (.t 8)), o 47 (.ia 0 (.t 45) (.t 46)), ov (.st 0 (.t 47) (.c (.int 0)))])) (.reg false
  [o 43 (.mv (.t 8)), o 44 (.bin .sub (.t 43) (.c (.int 1))), o 8 (.mv (.t 44))]))))) (.seq C.cover_badElements_9 (.reg false [o 52 (.mv (.t 6)), o 53 (.mv (.t 8)), o 54 (.ia 0 (.t
  52) (.t 53)), o 55 (.ld 0 (.t 54)), o 56 (.bin .add (.t 55) (.c (.int 1))), o 57 (.ia 0 (.t 52) (.t 53)), ov (.st 0 (.t 57) (.t 56))])))
def C.cover_badElements_2 : ACode := .seq (.reg false [o 9 (.fa 2 0 (.t 2)), o 10 (.ld 0 (.t 9)), o 11 (.len false (.t 10)), o 12 (.make Y.int 0 8 (.int 0) (.t 11) (.t 11)), o 6
  (.mv (.t 12))]) (.blk 0 (.loop (.blk 1 (.seq C.cover_badElements_3 C.cover_badElements_7))))
def C.cover_badElements_1 : ACode := .seq (.reg false [o 5 (.mv (.c .nil))]) C.cover_badElements_2
def C.cover_badElements_0 : ACode := .seq (.reg false [o 2 (.box Y.api_Protocol 11 (.t 0)), o 3 (.box Y.api_Property 7 (.t 1)), o 4 (.mv (.c .nil))]) C.cover_badElements_1
def C.cover_badElements : ACode := C.cover_badElements_0
theorem C.cover_badElements_eq : comp Tryz.prog (Tryz.f45.body.getD .skip) = some C.cover_badElements := by kernel_rfl
theorem Bd.cover_badElements : Body Tryz.prog F.cover_badElements C.cover_badElements [.slot 4] 58 := ⟨⟨_, _, Tryz.func45, by kernel_rfl, C.cover_badElements_eq, by kernel_rfl, by kernel_rfl⟩, Tryz.call45, by kernel_rfl⟩
def C.cover_initial_6 : ACode := .seq (.reg false [o 6 (.mv (.c (.bool false)))]) .ret
def C.cover_initial_5 : ACode := .seq (.reg false [o 25 (.mv (.t 10)), o 26 (.bin .gtr (.t 25) (.c (.int 0))), o 27 (.mv (.t 26)), og 28 27 true (.mv (.t 7)), og 29 27 true (.mv
  (.t 9)), og 30 27 true (.call F.slices_Contains_Lint_int [(.t 28), (.t 29)]), og 31 27 true (.not (.t 30)), o 32 (.pick (.t 27) (.t 31) (.c (.bool false)))]) (.cond (.t 32)
  C.cover_initial_6 .skip)
def C.cover_initial_4 : ACode := .seq (.reg false [o 22 (.mv (.t 20)), o 23 (.ia 0 (.t 18) (.t 20)), o 24 (.ld 0 (.t 23)), o 9 (.mv (.t 22)), o 10 (.mv (.t 24))]) C.cover_initial_5
def C.cover_initial_3 : ACode := .seq (.reg false [o 21 (.bin .lss (.t 20) (.t 19))]) (.seq (.cond (.t 21) .skip (.exit 0)) (.seq (.blk 1 C.cover_initial_4) (.reg false [o 33 (.bin
  .add (.t 20) (.c (.int 1))), o 20 (.mv (.t 33))])))
def C.cover_initial_2 : ACode := .seq (.reg false [o 17 (.fa 1 0 (.t 5)), o 18 (.ld 0 (.t 17)), o 19 (.len false (.t 18)), o 20 (.mv (.c (.int 0)))]) (.blk 0 (.loop
  C.cover_initial_3))
def C.cover_initial_7 : ACode := .seq (.reg false [o 34 (.fa 0 0 (.t 5)), o 35 (.ld 0 (.t 34)), o 36 (.bin .eql (.t 35) (.c (.int 0))), o 6 (.mv (.t 36))]) .ret
def C.cover_initial_1 : ACode := .seq (.reg false [o 12 (.ld 11 (.t 3)), o 13 (.ld 7 (.t 4)), o 14 (.call F.protocol_Starts [(.t 12), (.t 13)]), o 11 (.mv (.t 14)), o 15 (.ex (.t
  11) 0), o 16 (.ex (.t 11) 1), o 7 (.mv (.t 15)), o 8 (.mv (.t 16))]) (.seq C.cover_initial_2 C.cover_initial_7)
def C.cover_initial_0 : ACode := .seq (.reg false [o 3 (.box Y.api_Protocol 11 (.t 0)), o 4 (.box Y.api_Property 7 (.t 1)), o 5 (.box Y.api_Element 3 (.t 2)), o 6 (.mv (.c (.bool
  false)))]) C.cover_initial_1
def C.cover_initial : ACode := C.cover_initial_0
theorem C.cover_initial_eq : comp Tryz.prog (Tryz.f47.body.getD .skip) = some C.cover_initial := by kernel_rfl
theorem Bd.cover_initial : Body Tryz.prog F.cover_initial C.cover_initial [.slot 6] 37 := ⟨⟨_, _, Tryz.func47, by kernel_rfl, C.cover_initial_eq, by kernel_rfl, by kernel_rfl⟩, Tryz.call47, by kernel_rfl⟩
def C.protocol_ValidateProperty_3 : ACode := .seq (.reg false [o 15 (.mv (.t 5)), o 4 (.mv (.t 15))]) .ret
def C.protocol_ValidateProperty_2 : ACode := .seq (.reg false [o 13 (.mv (.t 5)), o 14 (.bin .neq (.t 13) (.c (.int 0)))]) (.cond (.t 14) C.protocol_ValidateProperty_3 .skip)
def C.protocol_ValidateProperty_1 : ACode := .seq (.reg false [o 11 (.ld 11 (.t 2)), o 12 (.call F.protocol_Validate [(.t 11)]), o 5 (.mv (.t 12))]) C.protocol_ValidateProperty_2
def C.protocol_ValidateProperty_7 : ACode := .seq (.reg false [o 4 (.mv (.c (.int 2)))]) .ret
def C.protocol_ValidateProperty_9 : ACode := .seq (.reg false [o 4 (.mv (.c (.int 1)))]) .ret
def C.protocol_ValidateProperty_10 : ACode := .seq (.reg false [o 36 (.mv (.t 7)), o 37 (.mv (.t 36)), og 38 37 true (.fa 5 0 (.t 3)), og 39 37 true (.ld 0 (.t 38)), og 40 37 true
  (.len false (.t 39)), og 41 37 true (.bin .gtr (.t 40) (.c (.int 0))), o 42 (.pick (.t 37) (.t 41) (.c (.bool false))), o 35 (.mv (.t 42))]) (.cond (.t 35) .skip (.reg false [o
  43 (.mv (.t 7)), o 44 (.not (.t 43)), o 45 (.mv (.t 44)), og 46 45 true (.fa 3 0 (.t 3)), og 47 45 true (.ld 0 (.t 46)), og 48 45 true (.len false (.t 47)), og 49 45 true (.bin
  .gtr (.t 48) (.c (.int 0))), og 50 45 true (.mv (.t 49)), og 51 50 false (.fa 4 0 (.t 3)), og 52 50 false (.ld 0 (.t 51)), og 53 50 false (.len false (.t 52)), og 54 50 false
  (.bin .gtr (.t 53) (.c (.int 0))), og 55 45 true (.pick (.t 50) (.c (.bool true)) (.t 54)), o 56 (.pick (.t 45) (.t 55) (.c (.bool false))), o 35 (.mv (.t 56))]))
def C.protocol_ValidateProperty_11 : ACode := .seq (.reg false [o 4 (.mv (.c (.int 1)))]) .ret
def C.protocol_ValidateProperty_8 : ACode := .seq (.reg false [o 28 (.mv (.t 7)), o 29 (.not (.t 28)), o 30 (.mv (.t 29)), og 31 30 true (.fa 1 0 (.t 3)), og 32 30 true (.ld 0 (.t
  31)), og 33 30 true (.bin .neq (.t 32) (.c (.int 2))), o 34 (.pick (.t 30) (.t 33) (.c (.bool false))), o 27 (.mv (.t 34))]) (.cond (.t 27) C.protocol_ValidateProperty_9 (.seq
  C.protocol_ValidateProperty_10 (.cond (.t 35) C.protocol_ValidateProperty_11 .skip)))
def C.protocol_ValidateProperty_6 : ACode := .seq (.reg false [o 23 (.fa 0 0 (.t 3)), o 24 (.ld 0 (.t 23)), o 25 (.call F.protocol_ValidName [(.t 24)]), o 26 (.not (.t 25)), o 22
  (.mv (.t 26))]) (.cond (.t 22) C.protocol_ValidateProperty_7 C.protocol_ValidateProperty_8)
def C.protocol_ValidateProperty_14 : ACode := .seq (.reg false [o 63 (.mv (.t 8)), o 4 (.mv (.t 63))]) .ret
def C.protocol_ValidateProperty_13 : ACode := .seq (.reg false [o 61 (.mv (.t 8)), o 62 (.bin .neq (.t 61) (.c (.int 0)))]) (.cond (.t 62) C.protocol_ValidateProperty_14 .skip)
def C.protocol_ValidateProperty_12 : ACode := .seq (.reg false [o 57 (.fa 2 0 (.t 3)), o 58 (.ld 0 (.t 57)), o 59 (.mv (.t 6)), o 60 (.call F.protocol_set [(.t 58), (.t 59)]), o 8
  (.mv (.t 60))]) C.protocol_ValidateProperty_13
def C.protocol_ValidateProperty_19 : ACode := .seq (.reg false [o 4 (.mv (.c (.int 5)))]) .ret
def C.protocol_ValidateProperty_18 : ACode := .seq (.reg false [o 71 (.fa 7 0 (.t 2)), o 72 (.ld 0 (.t 71)), o 73 (.mv (.t 10)), o 74 (.call F.slices_Contains_Lint_int [(.t 72),
  (.t 73)]), o 75 (.not (.t 74))]) (.cond (.t 75) C.protocol_ValidateProperty_19 .skip)
def C.protocol_ValidateProperty_17 : ACode := .seq (.reg false [o 69 (.ia 0 (.t 65) (.t 67)), o 70 (.ld 0 (.t 69)), o 10 (.mv (.t 70))]) C.protocol_ValidateProperty_18
def C.protocol_ValidateProperty_16 : ACode := .seq (.reg false [o 68 (.bin .lss (.t 67) (.t 66))]) (.seq (.cond (.t 68) .skip (.exit 1)) (.seq (.blk 2
  C.protocol_ValidateProperty_17) (.reg false [o 76 (.bin .add (.t 67) (.c (.int 1))), o 67 (.mv (.t 76))])))
def C.protocol_ValidateProperty_15 : ACode := .seq (.reg false [o 64 (.fa 2 0 (.t 3)), o 65 (.ld 0 (.t 64)), o 66 (.len false (.t 65)), o 67 (.mv (.c (.int 0)))]) (.blk 1 (.loop
  C.protocol_ValidateProperty_16))
def C.protocol_ValidateProperty_21 : ACode := .seq (.reg true [o 79 (.fa 5 0 (.t 3)), o 80 (.ld 0 (.t 79)), o 81 (.mv (.t 6)), o 83 (.fa 5 0 (.t 3)), o 84 (.ld 0 (.t 83)), o 85
  (.len false (.t 84)), o 86 (.bin .eql (.t 85) (.c (.int 0))), o 82 (.call F.protocol_set [(.t 80), (.t 81)]), o 87 (.call F.protocol_when [(.t 86), (.c (.int 1))]), o 88 (.ms
  Y.api_Errno 0 (.int 0) 2 [(0, (.t 82)), (1, (.t 87))]), o 89 (.call F.protocol_first [(.t 88)]), o 4 (.mv (.t 89))]) .ret
def C.protocol_ValidateProperty_20 : ACode := .seq (.reg false [o 77 (.mv (.t 7)), o 78 (.not (.t 77))]) (.cond (.t 78) C.protocol_ValidateProperty_21 .skip)
def C.protocol_ValidateProperty_22 : ACode := .seq (.reg true [o 90 (.fa 3 0 (.t 3)), o 91 (.ld 0 (.t 90)), o 92 (.len false (.t 91)), o 93 (.bin .eql (.t 92) (.c (.int 0))), o 94
  (.mv (.t 93)), og 95 94 true (.fa 4 0 (.t 3)), og 96 94 true (.ld 0 (.t 95)), og 97 94 true (.len false (.t 96)), og 98 94 true (.bin .eql (.t 97) (.c (.int 0))), o 99 (.pick (.t
  94) (.t 98) (.c (.bool false))), o 101 (.fa 3 0 (.t 3)), o 102 (.ld 0 (.t 101)), o 103 (.len false (.t 102)), o 104 (.bin .gtr (.t 103) (.c (.int 3))), o 106 (.fa 3 0 (.t 3)), o
  107 (.ld 0 (.t 106)), o 108 (.mv (.t 6)), o 110 (.ld 11 (.t 2)), o 111 (.fa 4 0 (.t 3)), o 112 (.ld 0 (.t 111)), o 100 (.call F.protocol_when [(.t 99), (.c (.int 1))]), o 105
  (.call F.protocol_when [(.t 104), (.c (.int 4))]), o 109 (.call F.protocol_counts [(.t 107), (.t 108)]), o 113 (.call F.protocol_adjacent [(.t 110), (.t 112)]), o 114 (.ms
  Y.api_Errno 0 (.int 0) 4 [(0, (.t 100)), (1, (.t 105)), (2, (.t 109)), (3, (.t 113))]), o 115 (.call F.protocol_first [(.t 114)]), o 4 (.mv (.t 115))]) .ret
def C.protocol_ValidateProperty_5 : ACode := .seq (.reg false [o 19 (.fa 1 0 (.t 3)), o 20 (.ld 0 (.t 19)), o 21 (.bin .eql (.t 20) (.c (.int 1))), o 7 (.mv (.t 21))]) (.seq (.blk
  0 C.protocol_ValidateProperty_6) (.seq C.protocol_ValidateProperty_12 (.seq C.protocol_ValidateProperty_15 (.seq C.protocol_ValidateProperty_20 C.protocol_ValidateProperty_22))))
def C.protocol_ValidateProperty_4 : ACode := .seq (.reg false [o 16 (.fa 2 0 (.t 2)), o 17 (.ld 0 (.t 16)), o 18 (.len false (.t 17)), o 6 (.mv (.t 18))])
  C.protocol_ValidateProperty_5
def C.protocol_ValidateProperty_0 : ACode := .seq (.reg false [o 2 (.box Y.api_Protocol 11 (.t 0)), o 3 (.box Y.api_Property 7 (.t 1)), o 4 (.mv (.c (.int 0)))]) (.seq
  C.protocol_ValidateProperty_1 C.protocol_ValidateProperty_4)
def C.protocol_ValidateProperty : ACode := C.protocol_ValidateProperty_0
theorem C.protocol_ValidateProperty_eq : comp Tryz.prog (Tryz.f49.body.getD .skip) = some C.protocol_ValidateProperty := by kernel_rfl
theorem Bd.protocol_ValidateProperty : Body Tryz.prog F.protocol_ValidateProperty C.protocol_ValidateProperty [.slot 4] 116 := ⟨⟨_, _, Tryz.func49, by kernel_rfl, C.protocol_ValidateProperty_eq, by kernel_rfl, by kernel_rfl⟩, Tryz.call49, by kernel_rfl⟩
def C.protocol_Classify_3 : ACode := .seq (.reg false [o 15 (.mk [(.bool false), (.bool false), (.bool false), (.bool false), (.bool false)] []), o 16 (.mv (.t 4)), ov (.st 6 (.t
  2) (.t 15)), o 3 (.mv (.t 16))]) .ret
def C.protocol_Classify_2 : ACode := .seq (.reg false [o 13 (.mv (.t 4)), o 14 (.bin .neq (.t 13) (.c (.int 0)))]) (.cond (.t 14) C.protocol_Classify_3 .skip)
def C.protocol_Classify_1 : ACode := .seq (.reg false [o 11 (.ld 11 (.t 1)), o 12 (.call F.protocol_Validate [(.t 11)]), o 4 (.mv (.t 12))]) C.protocol_Classify_2
def C.protocol_Classify_8 : ACode := .seq (.reg false [o 24 (.mv (.t 5)), o 25 (.mv (.t 24)), og 26 25 true (.fa 1 0 (.t 8)), og 27 25 true (.ld 0 (.t 26)), og 28 25 true (.bin
  .eql (.t 27) (.c (.int 1))), o 29 (.pick (.t 25) (.t 28) (.c (.bool false))), o 30 (.mv (.t 29)), og 31 30 true (.fa 2 0 (.t 8)), og 32 30 true (.ld 0 (.t 31)), og 33 30 true
  (.fa 3 0 (.t 8)), og 34 30 true (.ld 0 (.t 33)), og 35 30 true (.bin .lss (.t 32) (.t 34)), o 36 (.pick (.t 30) (.t 35) (.c (.bool false))), o 37 (.mv (.t 36)), og 38 37 true
  (.fa 8 0 (.t 8)), og 39 37 true (.ld 0 (.t 38)), og 40 37 true (.len false (.t 39)), og 41 37 true (.bin .eql (.t 40) (.c (.int 0))), o 42 (.pick (.t 37) (.t 41) (.c (.bool
  false))), o 43 (.mv (.t 42)), og 44 43 true (.fa 9 0 (.t 8)), og 45 43 true (.ld 0 (.t 44)), og 46 43 true (.len false (.t 45)), og 47 43 true (.bin .eql (.t 46) (.c (.int 0))),
  o 48 (.pick (.t 43) (.t 47) (.c (.bool false))), o 5 (.mv (.t 48))]) (.reg false [o 49 (.mv (.t 6)), o 50 (.mv (.t 49)), og 51 50 false (.fa 9 0 (.t 8)), og 52 50 false (.ld 0
  (.t 51)), og 53 50 false (.len false (.t 52)), og 54 50 false (.bin .gtr (.t 53) (.c (.int 0))), o 55 (.pick (.t 50) (.c (.bool true)) (.t 54)), o 6 (.mv (.t 55))])
def C.protocol_Classify_7 : ACode := .seq (.reg false [o 22 (.ia 19 (.t 18) (.t 20)), o 23 (.ld 19 (.t 22)), o 8 (.al Y.api_Rule 19 (.agg [(.lit (.string (bs []))), (.int 0), (.int
  0), (.int 0), (.int 0), (.int 0), .nil, .nil, .nil, .nil, (.int 0), (.int 0), .nil, (.int 0), .nil, .nil, .nil, (.int 0)])), ov (.st 19 (.t 8) (.t 23))]) C.protocol_Classify_8
def C.protocol_Classify_6 : ACode := .seq (.reg false [o 21 (.bin .lss (.t 20) (.t 19))]) (.seq (.cond (.t 21) .skip (.exit 0)) (.seq (.blk 1 C.protocol_Classify_7) (.reg false [o
  56 (.bin .add (.t 20) (.c (.int 1))), o 20 (.mv (.t 56))])))
def C.protocol_Classify_5 : ACode := .seq (.reg false [o 17 (.fa 9 0 (.t 1)), o 18 (.ld 0 (.t 17)), o 19 (.len false (.t 18)), o 20 (.mv (.c (.int 0)))]) (.blk 0 (.loop
  C.protocol_Classify_6))
def C.protocol_Classify_11 : ACode := .seq (.reg false [o 78 (.mv (.t 9)), o 79 (.mv (.t 78)), og 80 79 true (.fa 4 0 (.t 1)), og 81 79 true (.ld 0 (.t 80)), og 82 79 true (.len
  false (.t 81)), og 83 79 true (.bin .eql (.t 82) (.c (.int 0))), o 84 (.pick (.t 79) (.t 83) (.c (.bool false))), o 85 (.mv (.t 84)), og 86 85 true (.mv (.t 5)), o 87 (.pick (.t
  85) (.t 86) (.c (.bool false))), o 88 (.mv (.t 10)), o 89 (.mv (.t 88)), og 90 89 true (.mv (.t 6)), og 91 89 true (.not (.t 90)), o 92 (.pick (.t 89) (.t 91) (.c (.bool
  false))), o 93 (.fa 1 0 (.t 1)), o 94 (.ld 0 (.t 93)), o 95 (.bin .eql (.t 94) (.c (.int 2))), o 96 (.mv (.t 95)), og 97 96 false (.fa 1 0 (.t 1)), og 98 96 false (.ld 0 (.t
  97)), og 99 96 false (.bin .eql (.t 98) (.c (.int 3))), o 100 (.pick (.t 96) (.c (.bool true)) (.t 99)), o 101 (.fa 1 0 (.t 1)), o 102 (.ld 0 (.t 101)), o 103 (.bin .eql (.t 102)
  (.c (.int 4))), o 104 (.mv (.t 10)), o 105 (.mv (.t 104)), og 106 105 true (.fa 2 0 (.t 1)), og 107 105 true (.ld 0 (.t 106)), og 108 105 true (.len false (.t 107)), og 109 105
  true (.bin .leq (.t 108) (.c (.int 4))), o 110 (.pick (.t 105) (.t 109) (.c (.bool false))), o 111 (.mk [(.bool false), (.bool false), (.bool false), (.bool false), (.bool
  false)] [(0, 1, (.t 87)), (1, 1, (.t 92)), (2, 1, (.t 100)), (3, 1, (.t 103)), (4, 1, (.t 110))]), ov (.st 6 (.t 2) (.t 111)), o 3 (.mv (.c (.int 0)))]) .ret
def C.protocol_Classify_10 : ACode := .seq (.reg false [o 60 (.mv (.t 9)), o 61 (.mv (.t 60)), og 62 61 true (.fa 5 0 (.t 1)), og 63 61 true (.ld 0 (.t 62)), og 64 61 true (.bin
  .eql (.t 63) (.c (.int 0))), o 65 (.pick (.t 61) (.t 64) (.c (.bool false))), o 66 (.mv (.t 65)), og 67 66 true (.fa 3 0 (.t 1)), og 68 66 true (.ld 0 (.t 67)), og 69 66 true
  (.len false (.t 68)), og 70 66 true (.bin .eql (.t 69) (.c (.int 0))), o 71 (.pick (.t 66) (.t 70) (.c (.bool false))), o 72 (.mv (.t 71)), og 73 72 true (.fa 6 0 (.t 1)), og 74
  72 true (.ld 0 (.t 73)), og 75 72 true (.len false (.t 74)), og 76 72 true (.bin .eql (.t 75) (.c (.int 0))), o 77 (.pick (.t 72) (.t 76) (.c (.bool false))), o 10 (.mv (.t
  77))]) C.protocol_Classify_11
def C.protocol_Classify_9 : ACode := .seq (.reg false [o 57 (.fa 1 0 (.t 1)), o 58 (.ld 0 (.t 57)), o 59 (.bin .eql (.t 58) (.c (.int 1))), o 9 (.mv (.t 59))])
  C.protocol_Classify_10
def C.protocol_Classify_4 : ACode := .seq (.reg false [o 5 (.mv (.c (.bool true))), o 6 (.mv (.c (.bool false)))]) (.seq C.protocol_Classify_5 C.protocol_Classify_9)
def C.protocol_Classify_0 : ACode := .seq (.reg false [o 1 (.box Y.api_Protocol 11 (.t 0)), o 2 (.al Y.protocol_Classes 6 (.agg [(.bool false), (.bool false), (.bool false), (.bool
  false), (.bool false)])), o 3 (.mv (.c (.int 0)))]) (.seq C.protocol_Classify_1 C.protocol_Classify_4)
def C.protocol_Classify : ACode := C.protocol_Classify_0
theorem C.protocol_Classify_eq : comp Tryz.prog (Tryz.f50.body.getD .skip) = some C.protocol_Classify := by kernel_rfl
theorem Bd.protocol_Classify : Body Tryz.prog F.protocol_Classify C.protocol_Classify [.cell 2 6, .slot 3] 112 := ⟨⟨_, _, Tryz.func50, by kernel_rfl, C.protocol_Classify_eq, by kernel_rfl, by kernel_rfl⟩, Tryz.call50, by kernel_rfl⟩
def C.cover_backward_4 : ACode := .seq (.reg false [o 6 (.mv (.c .nil)), o 7 (.mv (.c (.int 0))), o 8 (.mv (.c (.bool false))), o 9 (.mv (.c (.int 4)))]) .ret
def C.cover_backward_3 : ACode := .seq (.reg false [o 22 (.mv (.t 10)), o 23 (.len false (.t 22)), o 24 (.bin .gtr (.t 23) (.c (.int 100)))]) (.cond (.t 24) C.cover_backward_4
  .skip)
def C.cover_backward_11 : ACode := .seq (.reg false [o 41 (.mv (.t 16)), o 6 (.mv (.c .nil)), o 7 (.mv (.c (.int 0))), o 8 (.mv (.c (.bool false))), o 9 (.mv (.t 41))]) .ret
def C.cover_backward_10 : ACode := .seq (.reg false [o 39 (.mv (.t 16)), o 40 (.bin .neq (.t 39) (.c (.int 0)))]) (.cond (.t 40) C.cover_backward_11 .skip)
def C.cover_backward_9 : ACode := .seq (.reg false [o 34 (.ld 11 (.t 3)), o 35 (.ld 3 (.t 14)), o 36 (.call F.cover_pre [(.t 34), (.t 35)]), o 33 (.mv (.t 36)), o 37 (.ex (.t 33)
  0), o 38 (.ex (.t 33) 1), o 15 (.mv (.t 37)), o 16 (.mv (.t 38))]) (.seq C.cover_backward_10 (.reg false [o 42 (.mv (.t 12)), o 43 (.mv (.t 15)), o 44 (.app Y.api_Element 3 32
  (.t 42) (.t 43)), o 12 (.mv (.t 44))]))
def C.cover_backward_8 : ACode := .seq (.reg false [o 31 (.ia 3 (.t 27) (.t 29)), o 32 (.ld 3 (.t 31)), o 14 (.al Y.api_Element 3 (.agg [(.int 0), .nil])), ov (.st 3 (.t 14) (.t
  32))]) C.cover_backward_9
def C.cover_backward_7 : ACode := .seq (.reg false [o 30 (.bin .lss (.t 29) (.t 28))]) (.seq (.cond (.t 30) .skip (.exit 2)) (.seq (.blk 3 C.cover_backward_8) (.reg false [o 45
  (.bin .add (.t 29) (.c (.int 1))), o 29 (.mv (.t 45))])))
def C.cover_backward_6 : ACode := .seq (.reg false [o 27 (.mv (.t 10)), o 28 (.len false (.t 27)), o 29 (.mv (.c (.int 0)))]) (.blk 2 (.loop C.cover_backward_7))
def C.cover_backward_14 : ACode := .seq (.reg false [o 6 (.mv (.c .nil)), o 7 (.mv (.c (.int 0))), o 8 (.mv (.c (.bool false))), o 9 (.mv (.c (.int 4)))]) .ret
def C.cover_backward_13 : ACode := .seq (.reg false [o 48 (.mv (.t 12)), o 49 (.len false (.t 48)), o 50 (.bin .gtr (.t 49) (.c (.int 100)))]) (.cond (.t 50) C.cover_backward_14
  .skip)
def C.cover_backward_16 : ACode := .seq (.reg false [o 54 (.mv (.t 10)), o 55 (.mv (.t 11)), o 6 (.mv (.t 54)), o 7 (.mv (.t 55)), o 8 (.mv (.c (.bool true))), o 9 (.mv (.c (.int
  0)))]) .ret
def C.cover_backward_15 : ACode := .seq (.reg false [o 51 (.mv (.t 12)), o 52 (.mv (.t 10)), o 53 (.call F.n88 [(.t 51), (.t 52), (.c (.fn F.cover_backward_c1 []))])]) (.cond (.t
  53) C.cover_backward_16 .skip)
def C.cover_backward_18 : ACode := .seq (.reg false [o 59 (.mv (.t 10)), o 60 (.mv (.t 11)), o 6 (.mv (.t 59)), o 7 (.mv (.t 60)), o 8 (.mv (.c (.bool false))), o 9 (.mv (.c (.int
  0)))]) .ret
def C.cover_backward_17 : ACode := .seq (.reg false [o 56 (.mv (.t 11)), o 57 (.mv (.t 2)), o 58 (.bin .geq (.t 56) (.t 57))]) (.cond (.t 58) C.cover_backward_18 .skip)
def C.cover_backward_12 : ACode := .seq (.reg false [o 46 (.mv (.t 12)), o 47 (.call F.cover_minimalOf [(.t 46)]), o 12 (.mv (.t 47))]) (.seq C.cover_backward_13 (.seq
  C.cover_backward_15 (.seq C.cover_backward_17 (.reg false [o 61 (.mv (.t 12)), o 10 (.mv (.t 61))]))))
def C.cover_backward_5 : ACode := .seq (.reg false [o 25 (.mv (.t 10)), o 26 (.call F.slices_Clone_Lapi_Element_api_Element [(.t 25)]), o 12 (.mv (.t 26))]) (.seq
  C.cover_backward_6 C.cover_backward_12)
def C.cover_backward_2 : ACode := .seq (.reg false [o 11 (.mv (.c (.int 0)))]) (.blk 0 (.loop (.seq (.blk 1 (.seq C.cover_backward_3 C.cover_backward_5)) (.reg false [o 20 (.mv (.t
  11)), o 21 (.bin .add (.t 20) (.c (.int 1))), o 11 (.mv (.t 21))]))))
def C.cover_backward_1 : ACode := .seq (.reg false [o 17 (.ld 11 (.t 3)), o 18 (.ld 7 (.t 4)), o 19 (.call F.cover_badElements [(.t 17), (.t 18)]), o 10 (.mv (.t 19))])
  C.cover_backward_2
def C.cover_backward_0 : ACode := .seq (.reg false [o 3 (.box Y.api_Protocol 11 (.t 0)), o 4 (.box Y.api_Property 7 (.t 1)), o 6 (.mv (.c .nil)), o 7 (.mv (.c (.int 0))), o 8 (.mv
  (.c (.bool false))), o 9 (.mv (.c (.int 0)))]) C.cover_backward_1
def C.cover_backward : ACode := C.cover_backward_0
theorem C.cover_backward_eq : comp Tryz.prog (Tryz.f52.body.getD .skip) = some C.cover_backward := by kernel_rfl
theorem Bd.cover_backward : Body Tryz.prog F.cover_backward C.cover_backward [.slot 6, .slot 7, .slot 8, .slot 9] 62 := ⟨⟨_, _, Tryz.func52, by kernel_rfl, C.cover_backward_eq, by kernel_rfl, by kernel_rfl⟩, Tryz.call52, by kernel_rfl⟩
def C.cover_Contains_5 : ACode := .seq (.reg false [o 4 (.mv (.c (.bool true)))]) .ret
def C.cover_Contains_4 : ACode := .seq (.reg false [o 13 (.ld 3 (.t 6)), o 14 (.ld 3 (.t 3)), o 15 (.call F.cover_Leq [(.t 13), (.t 14)])]) (.cond (.t 15) C.cover_Contains_5 .skip)
def C.cover_Contains_3 : ACode := .seq (.reg false [o 11 (.ia 3 (.t 7) (.t 9)), o 12 (.ld 3 (.t 11)), o 6 (.al Y.api_Element 3 (.agg [(.int 0), .nil])), ov (.st 3 (.t 6) (.t 12))])
  C.cover_Contains_4
def C.cover_Contains_2 : ACode := .seq (.reg false [o 10 (.bin .lss (.t 9) (.t 8))]) (.seq (.cond (.t 10) .skip (.exit 0)) (.seq (.blk 1 C.cover_Contains_3) (.reg false [o 16 (.bin
  .add (.t 9) (.c (.int 1))), o 9 (.mv (.t 16))])))
def C.cover_Contains_1 : ACode := .seq (.reg false [o 7 (.mv (.t 0)), o 8 (.len false (.t 7)), o 9 (.mv (.c (.int 0)))]) (.blk 0 (.loop C.cover_Contains_2))
def C.cover_Contains_6 : ACode := .seq (.reg false [o 4 (.mv (.c (.bool false)))]) .ret
def C.cover_Contains_0 : ACode := .seq (.reg false [o 3 (.box Y.api_Element 3 (.t 1)), o 4 (.mv (.c (.bool false)))]) (.seq C.cover_Contains_1 C.cover_Contains_6)
def C.cover_Contains : ACode := C.cover_Contains_0
theorem C.cover_Contains_eq : comp Tryz.prog (Tryz.f53.body.getD .skip) = some C.cover_Contains := by kernel_rfl
theorem Bd.cover_Contains : Body Tryz.prog F.cover_Contains C.cover_Contains [.slot 4] 17 := ⟨⟨_, _, Tryz.func53, by kernel_rfl, C.cover_Contains_eq, by kernel_rfl, by kernel_rfl⟩, Tryz.call53, by kernel_rfl⟩
def C.cover_CheckRule_2 : ACode := .seq (.reg false [o 8 (.mv (.c (.bool false)))]) .ret
def C.cover_CheckRule_1 : ACode := .seq (.reg false [o 15 (.ld 11 (.t 4)), o 16 (.ld 7 (.t 5)), o 17 (.call F.cover_Check [(.t 15), (.t 16)]), o 18 (.bin .neq (.t 17) (.c (.int
  0)))]) (.cond (.t 18) C.cover_CheckRule_2 .skip)
def C.cover_CheckRule_4 : ACode := .seq (.reg false [o 8 (.mv (.c (.bool false)))]) .ret
def C.cover_CheckRule_3 : ACode := .seq (.reg false [o 19 (.mv (.t 3)), o 20 (.bin .lss (.t 19) (.c (.int 0))), o 21 (.mv (.t 20)), og 22 21 false (.mv (.t 3)), og 23 21 false (.fa
  9 0 (.t 4)), og 24 21 false (.ld 0 (.t 23)), og 25 21 false (.len false (.t 24)), og 26 21 false (.bin .geq (.t 22) (.t 25)), o 27 (.pick (.t 21) (.c (.bool true)) (.t 26))])
  (.cond (.t 27) C.cover_CheckRule_4 .skip)
def C.cover_CheckRule_10 : ACode := .seq (.reg false [o 8 (.mv (.c (.bool false)))]) .ret
def C.cover_CheckRule_9 : ACode := .seq (.reg false [o 41 (.mv (.t 12)), o 42 (.bin .neq (.t 41) (.c (.int 0)))]) (.cond (.t 42) C.cover_CheckRule_10 .skip)
def C.cover_CheckRule_15 : ACode := .seq (.reg false [o 8 (.mv (.c (.bool false)))]) .ret
def C.cover_CheckRule_14 : ACode := .seq (.reg false [o 49 (.mv (.t 2)), o 50 (.ld 3 (.t 14)), o 51 (.call F.cover_Contains [(.t 49), (.t 50)]), o 52 (.not (.t 51))]) (.cond (.t
  52) C.cover_CheckRule_15 .skip)
def C.cover_CheckRule_13 : ACode := .seq (.reg false [o 47 (.ia 3 (.t 43) (.t 45)), o 48 (.ld 3 (.t 47)), o 14 (.al Y.api_Element 3 (.agg [(.int 0), .nil])), ov (.st 3 (.t 14) (.t
  48))]) C.cover_CheckRule_14
def C.cover_CheckRule_12 : ACode := .seq (.reg false [o 46 (.bin .lss (.t 45) (.t 44))]) (.seq (.cond (.t 46) .skip (.exit 2)) (.seq (.blk 3 C.cover_CheckRule_13) (.reg false [o 53
  (.bin .add (.t 45) (.c (.int 1))), o 45 (.mv (.t 53))])))
def C.cover_CheckRule_11 : ACode := .seq (.reg false [o 43 (.mv (.t 11)), o 44 (.len false (.t 43)), o 45 (.mv (.c (.int 0)))]) (.blk 2 (.loop C.cover_CheckRule_12))
def C.cover_CheckRule_8 : ACode := .seq (.reg false [o 35 (.ld 11 (.t 4)), o 36 (.mv (.t 3)), o 37 (.ld 3 (.t 10)), o 38 (.call F.cover_PreRule [(.t 35), (.t 36), (.t 37)]), o 34
  (.mv (.t 38)), o 39 (.ex (.t 34) 0), o 40 (.ex (.t 34) 1), o 11 (.mv (.t 39)), o 12 (.mv (.t 40))]) (.seq C.cover_CheckRule_9 C.cover_CheckRule_11)
def C.cover_CheckRule_7 : ACode := .seq (.reg false [o 32 (.ia 3 (.t 28) (.t 30)), o 33 (.ld 3 (.t 32)), o 10 (.al Y.api_Element 3 (.agg [(.int 0), .nil])), ov (.st 3 (.t 10) (.t
  33))]) C.cover_CheckRule_8
def C.cover_CheckRule_6 : ACode := .seq (.reg false [o 31 (.bin .lss (.t 30) (.t 29))]) (.seq (.cond (.t 31) .skip (.exit 0)) (.seq (.blk 1 C.cover_CheckRule_7) (.reg false [o 54
  (.bin .add (.t 30) (.c (.int 1))), o 30 (.mv (.t 54))])))
def C.cover_CheckRule_5 : ACode := .seq (.reg false [o 28 (.mv (.t 2)), o 29 (.len false (.t 28)), o 30 (.mv (.c (.int 0)))]) (.blk 0 (.loop C.cover_CheckRule_6))
def C.cover_CheckRule_16 : ACode := .seq (.reg false [o 8 (.mv (.c (.bool true)))]) .ret
def C.cover_CheckRule_0 : ACode := .seq (.reg false [o 4 (.box Y.api_Protocol 11 (.t 0)), o 5 (.box Y.api_Property 7 (.t 1)), o 8 (.mv (.c (.bool false)))]) (.seq
  C.cover_CheckRule_1 (.seq C.cover_CheckRule_3 (.seq C.cover_CheckRule_5 C.cover_CheckRule_16)))
def C.cover_CheckRule : ACode := C.cover_CheckRule_0
theorem C.cover_CheckRule_eq : comp Tryz.prog (Tryz.f54.body.getD .skip) = some C.cover_CheckRule := by kernel_rfl
theorem Bd.cover_CheckRule : Body Tryz.prog F.cover_CheckRule C.cover_CheckRule [.slot 8] 55 := ⟨⟨_, _, Tryz.func54, by kernel_rfl, C.cover_CheckRule_eq, by kernel_rfl, by kernel_rfl⟩, Tryz.call54, by kernel_rfl⟩
def C.cmp_isNaN_int_1 : ACode := .seq (.reg false [o 3 (.mv (.t 0)), o 4 (.mv (.t 0)), o 5 (.bin .neq (.t 3) (.t 4)), o 2 (.mv (.t 5))]) .ret
def C.cmp_isNaN_int_0 : ACode := .seq (.reg false [o 2 (.mv (.c (.bool false)))]) C.cmp_isNaN_int_1
def C.cmp_isNaN_int : ACode := C.cmp_isNaN_int_0
theorem C.cmp_isNaN_int_eq : comp Tryz.prog (Tryz.f55.body.getD .skip) = some C.cmp_isNaN_int := by kernel_rfl
theorem Bd.cmp_isNaN_int : Body Tryz.prog F.cmp_isNaN_int C.cmp_isNaN_int [.slot 2] 6 := ⟨⟨_, _, Tryz.func55, by kernel_rfl, C.cmp_isNaN_int_eq, by kernel_rfl, by kernel_rfl⟩, Tryz.call55, by kernel_rfl⟩
def C.cover_allowed_5 : ACode := .seq (.reg false [o 19 (.mv (.t 7)), o 20 (.bin .eql (.t 19) (.c (.int 0)))]) (.cond (.t 20) (.exit 1) .skip)
def C.cover_allowed_8 : ACode := .seq (.reg false [o 4 (.mv (.c (.bool false)))]) .ret
def C.cover_allowed_7 : ACode := .seq (.reg false [o 28 (.fa 9 0 (.t 2)), o 29 (.ld 0 (.t 28)), o 30 (.len false (.t 29)), o 31 (.bin .gtr (.t 30) (.c (.int 0))), o 32 (.mv (.t
  31)), og 33 32 true (.fa 9 0 (.t 2)), og 34 32 true (.ld 0 (.t 33)), og 35 32 true (.mv (.t 6)), og 36 32 true (.call F.slices_Contains_Lint_int [(.t 34), (.t 35)]), og 37 32
  true (.not (.t 36)), o 38 (.pick (.t 32) (.t 37) (.c (.bool false)))]) (.cond (.t 38) C.cover_allowed_8 .skip)
def C.cover_allowed_6 : ACode := .seq (.reg false [o 21 (.mv (.t 5)), o 22 (.mv (.t 21)), og 23 22 false (.fa 8 0 (.t 2)), og 24 22 false (.ld 0 (.t 23)), og 25 22 false (.mv (.t
  6)), og 26 22 false (.call F.slices_Contains_Lint_int [(.t 24), (.t 25)]), o 27 (.pick (.t 22) (.c (.bool true)) (.t 26)), o 5 (.mv (.t 27))]) C.cover_allowed_7
def C.cover_allowed_4 : ACode := .seq (.reg false [o 16 (.mv (.t 14)), o 17 (.ia 0 (.t 12) (.t 14)), o 18 (.ld 0 (.t 17)), o 6 (.mv (.t 16)), o 7 (.mv (.t 18))]) (.seq
  C.cover_allowed_5 C.cover_allowed_6)
def C.cover_allowed_3 : ACode := .seq (.reg false [o 15 (.bin .lss (.t 14) (.t 13))]) (.seq (.cond (.t 15) .skip (.exit 0)) (.seq (.blk 1 C.cover_allowed_4) (.reg false [o 39 (.bin
  .add (.t 14) (.c (.int 1))), o 14 (.mv (.t 39))])))
def C.cover_allowed_2 : ACode := .seq (.reg false [o 12 (.mv (.t 1)), o 13 (.len false (.t 12)), o 14 (.mv (.c (.int 0)))]) (.blk 0 (.loop C.cover_allowed_3))
def C.cover_allowed_9 : ACode := .seq (.reg false [o 40 (.mv (.t 5)), o 4 (.mv (.t 40))]) .ret
def C.cover_allowed_1 : ACode := .seq (.reg false [o 8 (.fa 8 0 (.t 2)), o 9 (.ld 0 (.t 8)), o 10 (.len false (.t 9)), o 11 (.bin .eql (.t 10) (.c (.int 0))), o 5 (.mv (.t 11))])
  (.seq C.cover_allowed_2 C.cover_allowed_9)
def C.cover_allowed_0 : ACode := .seq (.reg false [o 2 (.box Y.api_Rule 19 (.t 0)), o 4 (.mv (.c (.bool false)))]) C.cover_allowed_1
def C.cover_allowed : ACode := C.cover_allowed_0
theorem C.cover_allowed_eq : comp Tryz.prog (Tryz.f56.body.getD .skip) = some C.cover_allowed := by kernel_rfl
theorem Bd.cover_allowed : Body Tryz.prog F.cover_allowed C.cover_allowed [.slot 4] 41 := ⟨⟨_, _, Tryz.func56, by kernel_rfl, C.cover_allowed_eq, by kernel_rfl, by kernel_rfl⟩, Tryz.call56, by kernel_rfl⟩
def C.slices_SortFunc_Lapi_Element_api_Element_0 : ACode := .seq (.reg false [o 5 (.mv (.t 0)), o 6 (.len false (.t 5)), o 4 (.mv (.t 6))]) (.reg false [o 7 (.mv (.t 0)), o 8 (.mv
  (.t 4)), o 9 (.mv (.t 4)), o 10 (.conv .u64 (.t 9)), o 11 (.call F.math_bits_Len [(.t 10)]), o 12 (.mv (.t 1)), o 13 (.call F.slices_pdqsortCmpFunc_api_Element [(.t 7), (.c (.int
  0)), (.t 8), (.t 11), (.t 12)])])
def C.slices_SortFunc_Lapi_Element_api_Element : ACode := C.slices_SortFunc_Lapi_Element_api_Element_0
theorem C.slices_SortFunc_Lapi_Element_api_Element_eq : comp Tryz.prog (Tryz.f57.body.getD .skip) = some C.slices_SortFunc_Lapi_Element_api_Element := by kernel_rfl
theorem Bd.slices_SortFunc_Lapi_Element_api_Element : Body Tryz.prog F.slices_SortFunc_Lapi_Element_api_Element C.slices_SortFunc_Lapi_Element_api_Element [] 14 := ⟨⟨_, _, Tryz.func57, by kernel_rfl, C.slices_SortFunc_Lapi_Element_api_Element_eq, by kernel_rfl, by kernel_rfl⟩, Tryz.call57, by kernel_rfl⟩
def C.slices_CompactFunc_Lapi_Element_api_Element_2 : ACode := .seq (.reg false [o 11 (.mv (.t 0)), o 4 (.mv (.t 11))]) .ret
def C.slices_CompactFunc_Lapi_Element_api_Element_1 : ACode := .seq (.reg false [o 8 (.mv (.t 0)), o 9 (.len false (.t 8)), o 10 (.bin .lss (.t 9) (.c (.int 2)))]) (.cond (.t 10)
  C.slices_CompactFunc_Lapi_Element_api_Element_2 .skip)
def C.slices_CompactFunc_Lapi_Element_api_Element_4 : ACode := .seq (.reg false [o 12 (.mv (.t 5)), o 13 (.mv (.t 0)), o 14 (.len false (.t 13)), o 15 (.bin .lss (.t 12) (.t 14))])
  (.cond (.t 15) .skip (.exit 0))
def C.slices_CompactFunc_Lapi_Element_api_Element_8 : ACode := .seq (.reg false [o 32 (.mv (.t 7)), o 33 (.mv (.t 6)), o 34 (.len false (.t 33)), o 35 (.bin .lss (.t 32) (.t 34))])
  (.cond (.t 35) .skip (.exit 2))
def C.slices_CompactFunc_Lapi_Element_api_Element_10 : ACode := .seq (.reg false [o 50 (.mv (.t 0)), o 51 (.mv (.t 5)), o 52 (.mv (.t 6)), o 53 (.mv (.t 7)), o 54 (.ia 3 (.t 52)
  (.t 53)), o 55 (.ld 3 (.t 54)), o 56 (.ia 3 (.t 50) (.t 51)), ov (.st 3 (.t 56) (.t 55))]) (.reg false [o 57 (.mv (.t 5)), o 58 (.bin .add (.t 57) (.c (.int 1))), o 5 (.mv (.t
  58))])
def C.slices_CompactFunc_Lapi_Element_api_Element_9 : ACode := .seq (.reg true [o 38 (.mv (.t 1)), o 39 (.mv (.t 6)), o 40 (.mv (.t 7)), o 41 (.ia 3 (.t 39) (.t 40)), o 42 (.ld 3
  (.t 41)), o 43 (.mv (.t 6)), o 44 (.mv (.t 7)), o 45 (.bin .sub (.t 44) (.c (.int 1))), o 46 (.ia 3 (.t 43) (.t 45)), o 47 (.ld 3 (.t 46)), o 48 (.callv (.t 38) [(.t 42), (.t
  47)]), o 49 (.not (.t 48))]) (.cond (.t 49) C.slices_CompactFunc_Lapi_Element_api_Element_10 .skip)
def C.slices_CompactFunc_Lapi_Element_api_Element_7 : ACode := .seq (.reg false [o 7 (.mv (.c (.int 1)))]) (.blk 2 (.loop (.seq C.slices_CompactFunc_Lapi_Element_api_Element_8
  (.seq (.blk 3 C.slices_CompactFunc_Lapi_Element_api_Element_9) (.reg false [o 36 (.mv (.t 7)), o 37 (.bin .add (.t 36) (.c (.int 1))), o 7 (.mv (.t 37))])))))
def C.slices_CompactFunc_Lapi_Element_api_Element_12 : ACode := .seq (.reg false [o 62 (.mv (.t 0)), o 63 (.mv (.t 5)), o 64 (.slx 3 (.t 62) none (some (.t 63)) none), o 4 (.mv (.t
  64))]) .ret
def C.slices_CompactFunc_Lapi_Element_api_Element_11 : ACode := .seq (.reg false [o 59 (.mv (.t 0)), o 60 (.mv (.t 5)), o 61 (.slx 3 (.t 59) (some (.t 60)) none none), ov (.clr 3
  (.agg [(.int 0), .nil]) (.t 61))]) C.slices_CompactFunc_Lapi_Element_api_Element_12
def C.slices_CompactFunc_Lapi_Element_api_Element_6 : ACode := .seq (.reg false [o 29 (.mv (.t 0)), o 30 (.mv (.t 5)), o 31 (.slx 3 (.t 29) (some (.t 30)) none none), o 6 (.mv (.t
  31))]) (.seq C.slices_CompactFunc_Lapi_Element_api_Element_7 C.slices_CompactFunc_Lapi_Element_api_Element_11)
def C.slices_CompactFunc_Lapi_Element_api_Element_5 : ACode := .seq (.reg true [o 18 (.mv (.t 1)), o 19 (.mv (.t 0)), o 20 (.mv (.t 5)), o 21 (.ia 3 (.t 19) (.t 20)), o 22 (.ld 3
  (.t 21)), o 23 (.mv (.t 0)), o 24 (.mv (.t 5)), o 25 (.bin .sub (.t 24) (.c (.int 1))), o 26 (.ia 3 (.t 23) (.t 25)), o 27 (.ld 3 (.t 26)), o 28 (.callv (.t 18) [(.t 22), (.t
  27)])]) (.cond (.t 28) C.slices_CompactFunc_Lapi_Element_api_Element_6 .skip)
def C.slices_CompactFunc_Lapi_Element_api_Element_3 : ACode := .seq (.reg false [o 5 (.mv (.c (.int 1)))]) (.blk 0 (.loop (.seq C.slices_CompactFunc_Lapi_Element_api_Element_4
  (.seq (.blk 1 C.slices_CompactFunc_Lapi_Element_api_Element_5) (.reg false [o 16 (.mv (.t 5)), o 17 (.bin .add (.t 16) (.c (.int 1))), o 5 (.mv (.t 17))])))))
def C.slices_CompactFunc_Lapi_Element_api_Element_13 : ACode := .seq (.reg false [o 65 (.mv (.t 0)), o 4 (.mv (.t 65))]) .ret
def C.slices_CompactFunc_Lapi_Element_api_Element_0 : ACode := .seq (.reg false [o 4 (.mv (.c .nil))]) (.seq C.slices_CompactFunc_Lapi_Element_api_Element_1 (.seq
  C.slices_CompactFunc_Lapi_Element_api_Element_3 C.slices_CompactFunc_Lapi_Element_api_Element_13))
def C.slices_CompactFunc_Lapi_Element_api_Element : ACode := C.slices_CompactFunc_Lapi_Element_api_Element_0
theorem C.slices_CompactFunc_Lapi_Element_api_Element_eq : comp Tryz.prog (Tryz.f58.body.getD .skip) = some C.slices_CompactFunc_Lapi_Element_api_Element := by kernel_rfl
theorem Bd.slices_CompactFunc_Lapi_Element_api_Element : Body Tryz.prog F.slices_CompactFunc_Lapi_Element_api_Element C.slices_CompactFunc_Lapi_Element_api_Element [.slot 4] 66 := ⟨⟨_, _, Tryz.func58, by kernel_rfl, C.slices_CompactFunc_Lapi_Element_api_Element_eq, by kernel_rfl, by kernel_rfl⟩, Tryz.call58, by kernel_rfl⟩
def C.cover_tidy_c1_1 : ACode := .seq (.reg false [o 5 (.ld 3 (.t 2)), o 6 (.ld 3 (.t 3)), o 7 (.call F.cover_Compare [(.t 5), (.t 6)]), o 8 (.bin .eql (.t 7) (.c (.int 0))), o 4
  (.mv (.t 8))]) .ret
def C.cover_tidy_c1_0 : ACode := .seq (.reg false [o 2 (.box Y.api_Element 3 (.t 0)), o 3 (.box Y.api_Element 3 (.t 1)), o 4 (.mv (.c (.bool false)))]) C.cover_tidy_c1_1
def C.cover_tidy_c1 : ACode := C.cover_tidy_c1_0
theorem C.cover_tidy_c1_eq : comp Tryz.prog (Tryz.f59.body.getD .skip) = some C.cover_tidy_c1 := by kernel_rfl
theorem Bd.cover_tidy_c1 : Body Tryz.prog F.cover_tidy_c1 C.cover_tidy_c1 [.slot 4] 9 := ⟨⟨_, _, Tryz.func59, by kernel_rfl, C.cover_tidy_c1_eq, by kernel_rfl, by kernel_rfl⟩, Tryz.call59, by kernel_rfl⟩
def C.r05_Copy_1 : ACode := .seq (.reg true [⟨some 3, .fa 0 0 (.t 1), none, true, []⟩, ⟨some 4, .ld 0 (.t 3), none, true, []⟩, o 5 (.ms Y.int 0 (.int 0) 0 []), o 6 (.fa 1 0 (.t
  1)), o 7 (.ld 0 (.t 6)), ⟨some 8, .app Y.int 0 8 (.t 5) (.t 7), none, true, []⟩, o 9 (.mk [(.int 0), .nil] [(0, 1, (.t 4)), (1, 1, (.t 8))]), ov (.st 3 (.t 2) (.t 9))]) .ret
def C.r05_Copy_0 : ACode := .seq (.reg false [o 1 (.box Y.api_Element 3 (.t 0)), o 2 (.al Y.api_Element 3 (.agg [(.int 0), .nil]))]) C.r05_Copy_1
def C.r05_Copy : ACode := C.r05_Copy_0
theorem C.r05_Copy_eq : comp Tryz.prog (Tryz.f60.body.getD .skip) = some C.r05_Copy := by kernel_rfl
theorem Bd.r05_Copy : Body Tryz.prog F.r05_Copy C.r05_Copy [.cell 2 3] 10 := ⟨⟨_, _, Tryz.func60, by kernel_rfl, C.r05_Copy_eq, by kernel_rfl, by kernel_rfl⟩, Tryz.call60, by kernel_rfl⟩
def C.r02_ValidName_2 : ACode := .seq (.reg false [o 2 (.mv (.c (.bool false)))]) .ret
def C.r02_ValidName_1 : ACode := .seq (.reg false [o 4 (.mv (.t 0)), o 5 (.len true (.t 4)), o 6 (.call F.r02_within [(.t 5), (.c (.int 1)), (.c (.int 12))]), o 7 (.not (.t 6)), o
  8 (.mv (.t 7)), og 9 8 false (.mv (.t 0)), og 10 8 false (.ch (.t 9) (.c (.int 0))), og 11 8 false (.bin .lss (.t 10) (.c (.lit (.int .u8 97)))), o 12 (.pick (.t 8) (.c (.bool
  true)) (.t 11)), o 13 (.mv (.t 12)), og 14 13 false (.mv (.t 0)), og 15 13 false (.ch (.t 14) (.c (.int 0))), og 16 13 false (.bin .gtr (.t 15) (.c (.lit (.int .u8 122)))), o 17
  (.pick (.t 13) (.c (.bool true)) (.t 16))]) (.cond (.t 17) C.r02_ValidName_2 .skip)
def C.r02_ValidName_4 : ACode := .seq (.reg false [o 18 (.mv (.t 3)), o 19 (.mv (.t 0)), o 20 (.len true (.t 19)), o 21 (.bin .lss (.t 18) (.t 20))]) (.cond (.t 21) .skip (.exit
  0))
def C.r02_ValidName_6 : ACode := .seq (.reg false [o 2 (.mv (.c (.bool false)))]) .ret
def C.r02_ValidName_5 : ACode := .seq (.reg false [o 24 (.mv (.t 0)), o 25 (.mv (.t 3)), o 26 (.ch (.t 24) (.t 25)), o 27 (.bin .geq (.t 26) (.c (.lit (.int .u8 97)))), o 28 (.mv
  (.t 27)), og 29 28 true (.mv (.t 0)), og 30 28 true (.mv (.t 3)), og 31 28 true (.ch (.t 29) (.t 30)), og 32 28 true (.bin .leq (.t 31) (.c (.lit (.int .u8 122)))), o 33 (.pick
  (.t 28) (.t 32) (.c (.bool false))), o 34 (.not (.t 33)), o 35 (.mv (.t 34)), og 36 35 true (.mv (.t 0)), og 37 35 true (.mv (.t 3)), og 38 35 true (.ch (.t 36) (.t 37)), og 39
  35 true (.bin .geq (.t 38) (.c (.lit (.int .u8 48)))), og 40 35 true (.mv (.t 39)), og 41 40 true (.mv (.t 0)), og 42 40 true (.mv (.t 3)), og 43 40 true (.ch (.t 41) (.t 42)),
  og 44 40 true (.bin .leq (.t 43) (.c (.lit (.int .u8 57)))), og 45 35 true (.pick (.t 40) (.t 44) (.c (.bool false))), og 46 35 true (.not (.t 45)), o 47 (.pick (.t 35) (.t 46)
  (.c (.bool false))), o 48 (.mv (.t 47)), og 49 48 true (.mv (.t 0)), og 50 48 true (.mv (.t 3)), og 51 48 true (.ch (.t 49) (.t 50)), og 52 48 true (.bin .neq (.t 51) (.c (.lit
  (.int .u8 95)))), o 53 (.pick (.t 48) (.t 52) (.c (.bool false)))]) (.cond (.t 53) C.r02_ValidName_6 .skip)
def C.r02_ValidName_3 : ACode := .seq (.reg false [o 3 (.mv (.c (.int 0)))]) (.blk 0 (.loop (.seq C.r02_ValidName_4 (.seq (.blk 1 C.r02_ValidName_5) (.reg false [o 22 (.mv (.t 3)),
  o 23 (.bin .add (.t 22) (.c (.int 1))), o 3 (.mv (.t 23))])))))
def C.r02_ValidName_7 : ACode := .seq (.reg false [o 54 (.call F.r02_reserved []), o 55 (.mv (.t 0)), o 56 (.call F.r02_HasText [(.t 54), (.t 55)]), o 57 (.not (.t 56)), o 2 (.mv
  (.t 57))]) .ret
def C.r02_ValidName_0 : ACode := .seq (.reg false [o 2 (.mv (.c (.bool false)))]) (.seq C.r02_ValidName_1 (.seq C.r02_ValidName_3 C.r02_ValidName_7))
def C.r02_ValidName : ACode := C.r02_ValidName_0
theorem C.r02_ValidName_eq : comp Tryz.prog (Tryz.f63.body.getD .skip) = some C.r02_ValidName := by kernel_rfl
theorem Bd.r02_ValidName : Body Tryz.prog F.r02_ValidName C.r02_ValidName [.slot 2] 58 := ⟨⟨_, _, Tryz.func63, by kernel_rfl, C.r02_ValidName_eq, by kernel_rfl, by kernel_rfl⟩, Tryz.call63, by kernel_rfl⟩
def C.r02_within_1 : ACode := .seq (.reg false [o 7 (.mv (.t 0)), o 8 (.mv (.t 1)), o 9 (.bin .geq (.t 7) (.t 8)), o 10 (.mv (.t 9)), og 11 10 true (.mv (.t 0)), og 12 10 true (.mv
  (.t 2)), og 13 10 true (.bin .leq (.t 11) (.t 12)), o 14 (.pick (.t 10) (.t 13) (.c (.bool false))), o 6 (.mv (.t 14))]) .ret
def C.r02_within_0 : ACode := .seq (.reg false [o 6 (.mv (.c (.bool false)))]) C.r02_within_1
def C.r02_within : ACode := C.r02_within_0
theorem C.r02_within_eq : comp Tryz.prog (Tryz.f64.body.getD .skip) = some C.r02_within := by kernel_rfl
theorem Bd.r02_within : Body Tryz.prog F.r02_within C.r02_within [.slot 6] 15 := ⟨⟨_, _, Tryz.func64, by kernel_rfl, C.r02_within_eq, by kernel_rfl, by kernel_rfl⟩, Tryz.call64, by kernel_rfl⟩
def C.r02_HasText_2 : ACode := .seq (.reg false [o 6 (.mv (.t 5)), o 7 (.mv (.t 0)), o 8 (.len false (.t 7)), o 9 (.bin .lss (.t 6) (.t 8))]) (.cond (.t 9) .skip (.exit 0))
def C.r02_HasText_4 : ACode := .seq (.reg false [o 4 (.mv (.c (.bool true)))]) .ret
def C.r02_HasText_3 : ACode := .seq (.reg false [o 12 (.mv (.t 0)), o 13 (.mv (.t 5)), o 14 (.ia 0 (.t 12) (.t 13)), o 15 (.ld 0 (.t 14)), o 16 (.mv (.t 1)), o 17 (.bin .eql (.t
  15) (.t 16))]) (.cond (.t 17) C.r02_HasText_4 .skip)
def C.r02_HasText_1 : ACode := .seq (.reg false [o 5 (.mv (.c (.int 0)))]) (.blk 0 (.loop (.seq C.r02_HasText_2 (.seq (.blk 1 C.r02_HasText_3) (.reg false [o 10 (.mv (.t 5)), o 11
  (.bin .add (.t 10) (.c (.int 1))), o 5 (.mv (.t 11))])))))
def C.r02_HasText_5 : ACode := .seq (.reg false [o 4 (.mv (.c (.bool false)))]) .ret
def C.r02_HasText_0 : ACode := .seq (.reg false [o 4 (.mv (.c (.bool false)))]) (.seq C.r02_HasText_1 C.r02_HasText_5)
def C.r02_HasText : ACode := C.r02_HasText_0
theorem C.r02_HasText_eq : comp Tryz.prog (Tryz.f65.body.getD .skip) = some C.r02_HasText := by kernel_rfl
theorem Bd.r02_HasText : Body Tryz.prog F.r02_HasText C.r02_HasText [.slot 4] 18 := ⟨⟨_, _, Tryz.func65, by kernel_rfl, C.r02_HasText_eq, by kernel_rfl, by kernel_rfl⟩, Tryz.call65, by kernel_rfl⟩
def C.r02_few_1 : ACode := .seq (.reg false [o 3 (.fa 0 0 (.t 1)), o 4 (.ld 0 (.t 3)), o 5 (.call F.r02_within [(.t 4), (.c (.int (-100))), (.c (.int 100))]), o 6 (.mv (.t 5)), og
  7 6 true (.fa 1 0 (.t 1)), og 8 6 true (.ld 0 (.t 7)), og 9 6 true (.call F.r02_within [(.t 8), (.c (.int (-100))), (.c (.int 100))]), o 10 (.pick (.t 6) (.t 9) (.c (.bool
  false))), o 11 (.mv (.t 10)), og 12 11 true (.fa 2 0 (.t 1)), og 13 11 true (.ld 0 (.t 12)), og 14 11 true (.call F.r02_within [(.t 13), (.c (.int (-100))), (.c (.int 100))]), o
  15 (.pick (.t 11) (.t 14) (.c (.bool false))), o 16 (.mv (.t 15)), og 17 16 true (.fa 3 0 (.t 1)), og 18 16 true (.ld 0 (.t 17)), og 19 16 true (.call F.r02_within [(.t 18), (.c
  (.int (-100))), (.c (.int 100))]), o 20 (.pick (.t 16) (.t 19) (.c (.bool false))), o 2 (.mv (.t 20))]) .ret
def C.r02_few_0 : ACode := .seq (.reg false [o 1 (.box Y.api_Linear 5 (.t 0)), o 2 (.mv (.c (.bool false)))]) C.r02_few_1
def C.r02_few : ACode := C.r02_few_0
theorem C.r02_few_eq : comp Tryz.prog (Tryz.f66.body.getD .skip) = some C.r02_few := by kernel_rfl
theorem Bd.r02_few : Body Tryz.prog F.r02_few C.r02_few [.slot 2] 21 := ⟨⟨_, _, Tryz.func66, by kernel_rfl, C.r02_few_eq, by kernel_rfl, by kernel_rfl⟩, Tryz.call66, by kernel_rfl⟩
def C.r02_Set_2 : ACode := .seq (.reg false [o 7 (.mv (.t 5)), o 8 (.mv (.t 0)), o 9 (.len false (.t 8)), o 10 (.bin .lss (.t 7) (.t 9))]) (.cond (.t 10) .skip (.exit 0))
def C.r02_Set_4 : ACode := .seq (.reg false [o 4 (.mv (.c (.int 5)))]) .ret
def C.r02_Set_3 : ACode := .seq (.reg false [o 13 (.mv (.t 0)), o 14 (.mv (.t 5)), o 15 (.ia 0 (.t 13) (.t 14)), o 16 (.ld 0 (.t 15)), o 17 (.mv (.t 1)), o 18 (.bin .sub (.t 17)
  (.c (.int 1))), o 19 (.call F.r02_within [(.t 16), (.c (.int 0)), (.t 18)]), o 20 (.not (.t 19))]) (.cond (.t 20) C.r02_Set_4 .skip)
def C.r02_Set_1 : ACode := .seq (.reg false [o 5 (.mv (.c (.int 0)))]) (.blk 0 (.loop (.seq C.r02_Set_2 (.seq (.blk 1 C.r02_Set_3) (.reg false [o 11 (.mv (.t 5)), o 12 (.bin .add
  (.t 11) (.c (.int 1))), o 5 (.mv (.t 12))])))))
def C.r02_Set_6 : ACode := .seq (.reg false [o 21 (.mv (.t 6)), o 22 (.mv (.t 0)), o 23 (.len false (.t 22)), o 24 (.bin .lss (.t 21) (.t 23))]) (.cond (.t 24) .skip (.exit 2))
def C.r02_Set_8 : ACode := .seq (.reg false [o 4 (.mv (.c (.int 1)))]) .ret
def C.r02_Set_7 : ACode := .seq (.reg true [o 27 (.mv (.t 0)), o 28 (.mv (.t 6)), o 29 (.ia 0 (.t 27) (.t 28)), o 30 (.ld 0 (.t 29)), o 31 (.mv (.t 0)), o 32 (.mv (.t 6)), o 33
  (.bin .sub (.t 32) (.c (.int 1))), o 34 (.ia 0 (.t 31) (.t 33)), o 35 (.ld 0 (.t 34)), o 36 (.bin .leq (.t 30) (.t 35))]) (.cond (.t 36) C.r02_Set_8 .skip)
def C.r02_Set_5 : ACode := .seq (.reg false [o 6 (.mv (.c (.int 1)))]) (.blk 2 (.loop (.seq C.r02_Set_6 (.seq (.blk 3 C.r02_Set_7) (.reg false [o 25 (.mv (.t 6)), o 26 (.bin .add
  (.t 25) (.c (.int 1))), o 6 (.mv (.t 26))])))))
def C.r02_Set_9 : ACode := .seq (.reg false [o 4 (.mv (.c (.int 0)))]) .ret
def C.r02_Set_0 : ACode := .seq (.reg false [o 4 (.mv (.c (.int 0)))]) (.seq C.r02_Set_1 (.seq C.r02_Set_5 C.r02_Set_9))
def C.r02_Set : ACode := C.r02_Set_0
theorem C.r02_Set_eq : comp Tryz.prog (Tryz.f67.body.getD .skip) = some C.r02_Set := by kernel_rfl
theorem Bd.r02_Set : Body Tryz.prog F.r02_Set C.r02_Set [.slot 4] 37 := ⟨⟨_, _, Tryz.func67, by kernel_rfl, C.r02_Set_eq, by kernel_rfl, by kernel_rfl⟩, Tryz.call67, by kernel_rfl⟩
def C.r02_rule_3 : ACode := .seq (.reg false [o 4 (.mv (.c (.int 2)))]) .ret
def C.r02_rule_2 : ACode := .seq (.reg false [o 26 (.fa 0 0 (.t 5)), o 27 (.ld 0 (.t 26)), o 28 (.call F.r02_ValidName [(.t 27)]), o 29 (.not (.t 28))]) (.cond (.t 29) C.r02_rule_3
  .skip)
def C.r02_rule_5 : ACode := .seq (.reg false [o 30 (.mv (.t 7)), o 31 (.mv (.t 1)), o 32 (.bin .lss (.t 30) (.t 31))]) (.cond (.t 32) .skip (.exit 0))
def C.r02_rule_7 : ACode := .seq (.reg false [o 4 (.mv (.c (.int 2)))]) .ret
def C.r02_rule_6 : ACode := .seq (.reg true [o 35 (.fa 9 0 (.t 2)), o 36 (.ld 0 (.t 35)), o 37 (.mv (.t 7)), o 38 (.ia 19 (.t 36) (.t 37)), o 39 (.fa 0 0 (.t 38)), o 40 (.ld 0 (.t
  39)), o 41 (.fa 0 0 (.t 5)), o 42 (.ld 0 (.t 41)), o 43 (.bin .eql (.t 40) (.t 42))]) (.cond (.t 43) C.r02_rule_7 .skip)
def C.r02_rule_4 : ACode := .seq (.reg false [o 7 (.mv (.c (.int 0)))]) (.blk 0 (.loop (.seq C.r02_rule_5 (.seq (.blk 1 C.r02_rule_6) (.reg false [o 33 (.mv (.t 7)), o 34 (.bin
  .add (.t 33) (.c (.int 1))), o 7 (.mv (.t 34))])))))
def C.r02_rule_9 : ACode := .seq (.reg false [o 4 (.mv (.c (.int 6)))]) .ret
def C.r02_rule_8 : ACode := .seq (.reg false [o 44 (.fa 1 0 (.t 5)), o 45 (.ld 0 (.t 44)), o 46 (.call F.r02_within [(.t 45), (.c (.int 1)), (.c (.int 5))]), o 47 (.not (.t 46)), o
  48 (.mv (.t 47)), og 49 48 false (.fa 1 0 (.t 5)), og 50 48 false (.ld 0 (.t 49)), og 51 48 false (.bin .leq (.t 50) (.c (.int 3))), og 52 48 false (.fa 1 0 (.t 2)), og 53 48
  false (.ld 0 (.t 52)), og 54 48 false (.bin .eql (.t 53) (.c (.int 1))), og 55 48 false (.bb true (.t 51) (.t 54)), o 56 (.pick (.t 48) (.c (.bool true)) (.t 55)), o 57 (.mv (.t
  56)), og 58 57 false (.ld 11 (.t 2)), og 59 57 false (.ld 19 (.t 5)), og 60 57 false (.call F.r02_unused [(.t 58), (.t 59)]), o 61 (.pick (.t 57) (.c (.bool true)) (.t 60))])
  (.cond (.t 61) C.r02_rule_9 .skip)
def C.r02_rule_12 : ACode := .seq (.reg false [o 4 (.mv (.c (.int 5)))]) .ret
def C.r02_rule_11 : ACode := .seq (.reg false [o 70 (.fa 2 0 (.t 5)), o 71 (.ld 0 (.t 70)), o 72 (.mv (.t 6)), o 73 (.bin .sub (.t 72) (.c (.int 1))), o 74 (.call F.r02_within [(.t
  71), (.c (.int 0)), (.t 73)]), o 75 (.not (.t 74)), o 76 (.mv (.t 75)), og 77 76 false (.fa 3 0 (.t 5)), og 78 76 false (.ld 0 (.t 77)), og 79 76 false (.mv (.t 6)), og 80 76
  false (.bin .sub (.t 79) (.c (.int 1))), og 81 76 false (.call F.r02_within [(.t 78), (.c (.int 0)), (.t 80)]), og 82 76 false (.not (.t 81)), o 83 (.pick (.t 76) (.c (.bool
  true)) (.t 82)), o 84 (.mv (.t 83)), og 85 84 false (.mv (.t 8)), og 86 84 false (.mv (.t 85)), og 87 86 true (.fa 4 0 (.t 5)), og 88 86 true (.ld 0 (.t 87)), og 89 86 true (.mv
  (.t 6)), og 90 86 true (.bin .sub (.t 89) (.c (.int 1))), og 91 86 true (.call F.r02_within [(.t 88), (.c (.int 0)), (.t 90)]), og 92 86 true (.not (.t 91)), og 93 86 true (.mv
  (.t 92)), og 94 93 false (.fa 5 0 (.t 5)), og 95 93 false (.ld 0 (.t 94)), og 96 93 false (.mv (.t 6)), og 97 93 false (.bin .sub (.t 96) (.c (.int 1))), og 98 93 false (.call
  F.r02_within [(.t 95), (.c (.int 0)), (.t 97)]), og 99 93 false (.not (.t 98)), og 100 86 true (.pick (.t 93) (.c (.bool true)) (.t 99)), og 101 84 false (.pick (.t 86) (.t 100)
  (.c (.bool false))), o 102 (.pick (.t 84) (.c (.bool true)) (.t 101))]) (.cond (.t 102) C.r02_rule_12 .skip)
def C.r02_rule_15 : ACode := .seq (.reg false [o 4 (.mv (.c (.int 1)))]) .ret
def C.r02_rule_14 : ACode := .seq (.reg false [o 106 (.fa 6 0 (.t 5)), o 107 (.ld 0 (.t 106)), o 108 (.len false (.t 107)), o 109 (.mv (.t 6)), o 110 (.bin .neq (.t 108) (.t
  109))]) (.cond (.t 110) C.r02_rule_15 .skip)
def C.r02_rule_17 : ACode := .seq (.reg false [o 111 (.mv (.t 9)), o 112 (.mv (.t 6)), o 113 (.bin .lss (.t 111) (.t 112))]) (.cond (.t 113) .skip (.exit 2))
def C.r02_rule_19 : ACode := .seq (.reg false [o 4 (.mv (.c (.int 5)))]) .ret
def C.r02_rule_18 : ACode := .seq (.reg false [o 116 (.fa 6 0 (.t 5)), o 117 (.ld 0 (.t 116)), o 118 (.mv (.t 9)), o 119 (.ia 0 (.t 117) (.t 118)), o 120 (.ld 0 (.t 119)), o 121
  (.mv (.t 6)), o 122 (.bin .sub (.t 121) (.c (.int 1))), o 123 (.call F.r02_within [(.t 120), (.c (.int 0)), (.t 122)]), o 124 (.not (.t 123))]) (.cond (.t 124) C.r02_rule_19
  .skip)
def C.r02_rule_16 : ACode := .seq (.reg false [o 9 (.mv (.c (.int 0)))]) (.blk 2 (.loop (.seq C.r02_rule_17 (.seq (.blk 3 C.r02_rule_18) (.reg false [o 114 (.mv (.t 9)), o 115
  (.bin .add (.t 114) (.c (.int 1))), o 9 (.mv (.t 115))])))))
def C.r02_rule_13 : ACode := .seq (.reg false [o 103 (.fa 1 0 (.t 5)), o 104 (.ld 0 (.t 103)), o 105 (.bin .eql (.t 104) (.c (.int 3)))]) (.cond (.t 105) (.seq C.r02_rule_14
  C.r02_rule_16) .skip)
def C.r02_rule_21 : ACode := .seq (.reg false [o 125 (.mv (.t 10)), o 126 (.fa 7 0 (.t 5)), o 127 (.ld 0 (.t 126)), o 128 (.len false (.t 127)), o 129 (.bin .lss (.t 125) (.t
  128))]) (.cond (.t 129) .skip (.exit 4))
def C.r02_rule_24 : ACode := .seq (.reg false [o 4 (.mv (.c (.int 5)))]) .ret
def C.r02_rule_23 : ACode := .seq (.reg false [o 137 (.fa 0 0 (.t 11)), o 138 (.ld 0 (.t 137)), o 139 (.fa 3 0 (.t 2)), o 140 (.ld 0 (.t 139)), o 141 (.len false (.t 140)), o 142
  (.bin .sub (.t 141) (.c (.int 1))), o 143 (.call F.r02_within [(.t 138), (.c (.int 0)), (.t 142)]), o 144 (.not (.t 143))]) (.cond (.t 144) C.r02_rule_24 .skip)
def C.r02_rule_26 : ACode := .seq (.reg false [o 4 (.mv (.c (.int 1)))]) .ret
def C.r02_rule_25 : ACode := .seq (.reg false [o 145 (.fa 1 0 (.t 11)), o 146 (.ld 0 (.t 145)), o 147 (.call F.r02_within [(.t 146), (.c (.int 1)), (.c (.int 100))]), o 148 (.not
  (.t 147))]) (.cond (.t 148) C.r02_rule_26 .skip)
def C.r02_rule_28 : ACode := .seq (.reg false [o 4 (.mv (.c (.int 4)))]) .ret
def C.r02_rule_27 : ACode := .seq (.reg false [o 149 (.fa 2 5 (.t 11)), o 150 (.ld 5 (.t 149)), o 151 (.call F.r02_few [(.t 150)]), o 152 (.not (.t 151))]) (.cond (.t 152)
  C.r02_rule_28 .skip)
def C.r02_rule_22 : ACode := .seq (.reg false [o 132 (.fa 7 0 (.t 5)), o 133 (.ld 0 (.t 132)), o 134 (.mv (.t 10)), o 135 (.ia 7 (.t 133) (.t 134)), o 136 (.ld 7 (.t 135)), o 11
  (.al Y.api_Threshold 7 (.agg [(.int 0), (.int 0), (.int 0), (.int 0), (.int 0), (.int 0)])), ov (.st 7 (.t 11) (.t 136))]) (.seq C.r02_rule_23 (.seq C.r02_rule_25 C.r02_rule_27))
def C.r02_rule_20 : ACode := .seq (.reg false [o 10 (.mv (.c (.int 0)))]) (.blk 4 (.loop (.seq C.r02_rule_21 (.seq (.blk 5 C.r02_rule_22) (.reg false [o 130 (.mv (.t 10)), o 131
  (.bin .add (.t 130) (.c (.int 1))), o 10 (.mv (.t 131))])))))
def C.r02_rule_30 : ACode := .seq (.reg false [o 4 (.mv (.c (.int 4)))]) .ret
def C.r02_rule_29 : ACode := .seq (.reg false [o 153 (.fa 7 0 (.t 5)), o 154 (.ld 0 (.t 153)), o 155 (.len false (.t 154)), o 156 (.bin .gtr (.t 155) (.c (.int 2)))]) (.cond (.t
  156) C.r02_rule_30 .skip)
def C.r02_rule_33 : ACode := .seq (.reg false [o 163 (.mv (.t 12)), o 4 (.mv (.t 163))]) .ret
def C.r02_rule_32 : ACode := .seq (.reg false [o 161 (.mv (.t 12)), o 162 (.bin .neq (.t 161) (.c (.int 0)))]) (.cond (.t 162) C.r02_rule_33 .skip)
def C.r02_rule_31 : ACode := .seq (.reg false [o 157 (.fa 8 0 (.t 5)), o 158 (.ld 0 (.t 157)), o 159 (.mv (.t 6)), o 160 (.call F.r02_Set [(.t 158), (.t 159)]), o 12 (.mv (.t
  160))]) C.r02_rule_32
def C.r02_rule_36 : ACode := .seq (.reg false [o 170 (.mv (.t 13)), o 4 (.mv (.t 170))]) .ret
def C.r02_rule_35 : ACode := .seq (.reg false [o 168 (.mv (.t 13)), o 169 (.bin .neq (.t 168) (.c (.int 0)))]) (.cond (.t 169) C.r02_rule_36 .skip)
def C.r02_rule_34 : ACode := .seq (.reg false [o 164 (.fa 9 0 (.t 5)), o 165 (.ld 0 (.t 164)), o 166 (.mv (.t 6)), o 167 (.call F.r02_Set [(.t 165), (.t 166)]), o 13 (.mv (.t
  167))]) C.r02_rule_35
def C.r02_rule_38 : ACode := .seq (.reg false [o 4 (.mv (.c (.int 5)))]) .ret
def C.r02_rule_37 : ACode := .seq (.reg false [o 171 (.fa 10 0 (.t 5)), o 172 (.ld 0 (.t 171)), o 173 (.bin .neq (.t 172) (.c (.int (-1)))), o 174 (.mv (.t 173)), og 175 174 true
  (.fa 10 0 (.t 5)), og 176 174 true (.ld 0 (.t 175)), og 177 174 true (.fa 4 0 (.t 2)), og 178 174 true (.ld 0 (.t 177)), og 179 174 true (.len false (.t 178)), og 180 174 true
  (.bin .sub (.t 179) (.c (.int 1))), og 181 174 true (.call F.r02_within [(.t 176), (.c (.int 0)), (.t 180)]), og 182 174 true (.not (.t 181)), o 183 (.pick (.t 174) (.t 182) (.c
  (.bool false))), o 184 (.mv (.t 183)), og 185 184 false (.fa 11 0 (.t 5)), og 186 184 false (.ld 0 (.t 185)), og 187 184 false (.bin .neq (.t 186) (.c (.int (-1)))), og 188 184
  false (.mv (.t 187)), og 189 188 true (.fa 11 0 (.t 5)), og 190 188 true (.ld 0 (.t 189)), og 191 188 true (.fa 4 0 (.t 2)), og 192 188 true (.ld 0 (.t 191)), og 193 188 true
  (.len false (.t 192)), og 194 188 true (.bin .sub (.t 193) (.c (.int 1))), og 195 188 true (.call F.r02_within [(.t 190), (.c (.int 0)), (.t 194)]), og 196 188 true (.not (.t
  195)), og 197 184 false (.pick (.t 188) (.t 196) (.c (.bool false))), o 198 (.pick (.t 184) (.c (.bool true)) (.t 197))]) (.cond (.t 198) C.r02_rule_38 .skip)
def C.r02_rule_41 : ACode := .seq (.reg false [o 207 (.mv (.t 14)), o 4 (.mv (.t 207))]) .ret
def C.r02_rule_40 : ACode := .seq (.reg false [o 205 (.mv (.t 14)), o 206 (.bin .neq (.t 205) (.c (.int 0)))]) (.cond (.t 206) C.r02_rule_41 .skip)
def C.r02_rule_39 : ACode := .seq (.reg false [o 199 (.fa 12 0 (.t 5)), o 200 (.ld 0 (.t 199)), o 201 (.fa 3 0 (.t 2)), o 202 (.ld 0 (.t 201)), o 203 (.len false (.t 202)), o 204
  (.call F.r02_Set [(.t 200), (.t 203)]), o 14 (.mv (.t 204))]) C.r02_rule_40
def C.r02_rule_44 : ACode := .seq (.reg false [o 214 (.mv (.t 15)), o 4 (.mv (.t 214))]) .ret
def C.r02_rule_43 : ACode := .seq (.reg false [o 212 (.mv (.t 15)), o 213 (.bin .neq (.t 212) (.c (.int 0)))]) (.cond (.t 213) C.r02_rule_44 .skip)
def C.r02_rule_42 : ACode := .seq (.reg false [o 208 (.fa 14 0 (.t 5)), o 209 (.ld 0 (.t 208)), o 210 (.mv (.t 6)), o 211 (.call F.r02_Set [(.t 209), (.t 210)]), o 15 (.mv (.t
  211))]) C.r02_rule_43
def C.r02_rule_47 : ACode := .seq (.reg false [o 221 (.mv (.t 16)), o 4 (.mv (.t 221))]) .ret
def C.r02_rule_46 : ACode := .seq (.reg false [o 219 (.mv (.t 16)), o 220 (.bin .neq (.t 219) (.c (.int 0)))]) (.cond (.t 220) C.r02_rule_47 .skip)
def C.r02_rule_45 : ACode := .seq (.reg false [o 215 (.fa 15 0 (.t 5)), o 216 (.ld 0 (.t 215)), o 217 (.mv (.t 6)), o 218 (.call F.r02_Set [(.t 216), (.t 217)]), o 16 (.mv (.t
  218))]) C.r02_rule_46
def C.r02_rule_50 : ACode := .seq (.reg false [o 228 (.mv (.t 17)), o 4 (.mv (.t 228))]) .ret
def C.r02_rule_49 : ACode := .seq (.reg false [o 226 (.mv (.t 17)), o 227 (.bin .neq (.t 226) (.c (.int 0)))]) (.cond (.t 227) C.r02_rule_50 .skip)
def C.r02_rule_48 : ACode := .seq (.reg false [o 222 (.fa 16 0 (.t 5)), o 223 (.ld 0 (.t 222)), o 224 (.mv (.t 6)), o 225 (.call F.r02_Set [(.t 223), (.t 224)]), o 17 (.mv (.t
  225))]) C.r02_rule_49
def C.r02_rule_52 : ACode := .seq (.reg false [o 4 (.mv (.c (.int 1)))]) .ret
def C.r02_rule_51 : ACode := .seq (.reg false [o 229 (.fa 1 0 (.t 5)), o 230 (.ld 0 (.t 229)), o 231 (.bin .eql (.t 230) (.c (.int 4))), o 232 (.mv (.t 231)), og 233 232 true (.fa
  13 0 (.t 5)), og 234 232 true (.ld 0 (.t 233)), og 235 232 true (.call F.r02_within [(.t 234), (.c (.int 0)), (.c (.int 2))]), og 236 232 true (.not (.t 235)), og 237 232 true
  (.mv (.t 236)), og 238 237 false (.fa 13 0 (.t 5)), og 239 237 false (.ld 0 (.t 238)), og 240 237 false (.bin .neq (.t 239) (.c (.int 0))), og 241 237 false (.mv (.t 240)), og
  242 241 true (.fa 1 0 (.t 2)), og 243 241 true (.ld 0 (.t 242)), og 244 241 true (.bin .eql (.t 243) (.c (.int 3))), og 245 237 false (.pick (.t 241) (.t 244) (.c (.bool
  false))), og 246 232 true (.pick (.t 237) (.c (.bool true)) (.t 245)), o 247 (.pick (.t 232) (.t 246) (.c (.bool false)))]) (.cond (.t 247) C.r02_rule_52 .skip)
def C.r02_rule_54 : ACode := .seq (.reg false [o 4 (.mv (.c (.int 1)))]) .ret
def C.r02_rule_53 : ACode := .seq (.reg false [o 248 (.fa 1 0 (.t 5)), o 249 (.ld 0 (.t 248)), o 250 (.bin .eql (.t 249) (.c (.int 5))), o 251 (.mv (.t 250)), og 252 251 true (.fa
  1 0 (.t 2)), og 253 251 true (.ld 0 (.t 252)), og 254 251 true (.bin .eql (.t 253) (.c (.int 4))), o 255 (.pick (.t 251) (.t 254) (.c (.bool false))), o 256 (.mv (.t 255)), og
  257 256 true (.fa 17 0 (.t 5)), og 258 256 true (.ld 0 (.t 257)), og 259 256 true (.call F.r02_within [(.t 258), (.c (.int 3)), (.c (.int 4))]), og 260 256 true (.not (.t 259)),
  o 261 (.pick (.t 256) (.t 260) (.c (.bool false)))]) (.cond (.t 261) C.r02_rule_54 .skip)
def C.r02_rule_56 : ACode := .seq (.reg false [o 4 (.mv (.c (.int 1)))]) .ret
def C.r02_rule_55 : ACode := .seq (.reg false [o 262 (.fa 1 0 (.t 5)), o 263 (.ld 0 (.t 262)), o 264 (.bin .eql (.t 263) (.c (.int 5))), o 265 (.mv (.t 264)), og 266 265 true (.fa
  1 0 (.t 2)), og 267 265 true (.ld 0 (.t 266)), og 268 265 true (.bin .neq (.t 267) (.c (.int 4))), o 269 (.pick (.t 265) (.t 268) (.c (.bool false))), o 270 (.mv (.t 269)), og
  271 270 true (.fa 17 0 (.t 5)), og 272 270 true (.ld 0 (.t 271)), og 273 270 true (.call F.r02_within [(.t 272), (.c (.int 1)), (.c (.int 2))]), og 274 270 true (.not (.t 273)),
  o 275 (.pick (.t 270) (.t 274) (.c (.bool false)))]) (.cond (.t 275) C.r02_rule_56 .skip)
def C.r02_rule_57 : ACode := .seq (.reg false [o 4 (.mv (.c (.int 0)))]) .ret
def C.r02_rule_10 : ACode := .seq (.reg false [o 62 (.fa 1 0 (.t 5)), o 63 (.ld 0 (.t 62)), o 64 (.bin .eql (.t 63) (.c (.int 2))), o 65 (.mv (.t 64)), og 66 65 false (.fa 1 0 (.t
  5)), og 67 65 false (.ld 0 (.t 66)), og 68 65 false (.bin .eql (.t 67) (.c (.int 5))), o 69 (.pick (.t 65) (.c (.bool true)) (.t 68)), o 8 (.mv (.t 69))]) (.seq C.r02_rule_11
  (.seq C.r02_rule_13 (.seq C.r02_rule_20 (.seq C.r02_rule_29 (.seq C.r02_rule_31 (.seq C.r02_rule_34 (.seq C.r02_rule_37 (.seq C.r02_rule_39 (.seq C.r02_rule_42 (.seq
  C.r02_rule_45 (.seq C.r02_rule_48 (.seq C.r02_rule_51 (.seq C.r02_rule_53 (.seq C.r02_rule_55 C.r02_rule_57))))))))))))))
def C.r02_rule_1 : ACode := .seq (.reg true [o 18 (.fa 9 0 (.t 2)), o 19 (.ld 0 (.t 18)), o 20 (.mv (.t 1)), o 21 (.ia 19 (.t 19) (.t 20)), o 22 (.ld 19 (.t 21)), ⟨some 23, .fa 2 0
  (.t 2), none, true, []⟩, ⟨some 24, .ld 0 (.t 23), none, true, []⟩, ⟨some 25, .len false (.t 24), none, true, []⟩, o 5 (.al Y.api_Rule 19 (.agg [(.lit (.string (bs []))), (.int
  0), (.int 0), (.int 0), (.int 0), (.int 0), .nil, .nil, .nil, .nil, (.int 0), (.int 0), .nil, (.int 0), .nil, .nil, .nil, (.int 0)])), ⟨none, .st 19 (.t 5) (.t 22), none, true,
  []⟩, o 6 (.mv (.t 25))]) (.seq C.r02_rule_2 (.seq C.r02_rule_4 (.seq C.r02_rule_8 C.r02_rule_10)))
def C.r02_rule_0 : ACode := .seq (.reg false [o 2 (.box Y.api_Protocol 11 (.t 0)), o 4 (.mv (.c (.int 0)))]) C.r02_rule_1
def C.r02_rule : ACode := C.r02_rule_0
theorem C.r02_rule_eq : comp Tryz.prog (Tryz.f68.body.getD .skip) = some C.r02_rule := by kernel_rfl
theorem Bd.r02_rule : Body Tryz.prog F.r02_rule C.r02_rule [.slot 4] 276 := ⟨⟨_, _, Tryz.func68, by kernel_rfl, C.r02_rule_eq, by kernel_rfl, by kernel_rfl⟩, Tryz.call68, by kernel_rfl⟩
def C.r02_distinct_3 : ACode := .seq (.reg false [o 7 (.mv (.t 4)), o 8 (.fa 9 0 (.t 1)), o 9 (.ld 0 (.t 8)), o 10 (.len false (.t 9)), o 11 (.bin .lss (.t 7) (.t 10))]) (.cond (.t
  11) .skip (.exit 0))
def C.r02_distinct_5 : ACode := .seq (.reg false [o 14 (.mv (.t 5)), o 15 (.fa 9 0 (.t 1)), o 16 (.ld 0 (.t 15)), o 17 (.mv (.t 4)), o 18 (.ia 19 (.t 16) (.t 17)), o 19 (.fa 7 0
  (.t 18)), o 20 (.ld 0 (.t 19)), o 21 (.len false (.t 20)), o 22 (.bin .lss (.t 14) (.t 21))]) (.cond (.t 22) .skip (.exit 2))
def C.r02_distinct_7 : ACode := .seq (.reg false [o 34 (.mv (.t 3)), o 35 (.ld 7 (.t 6)), o 36 (.call F.r02_ThresholdIndex [(.t 34), (.t 35)]), o 37 (.bin .lss (.t 36) (.c (.int
  0)))]) (.cond (.t 37) (.reg false [o 38 (.mv (.t 3)), o 39 (.ld 7 (.t 6)), o 40 (.ms Y.api_Threshold 7 (.agg [(.int 0), (.int 0), (.int 0), (.int 0), (.int 0), (.int 0)]) 1 [(0,
  (.t 39))]), o 41 (.app Y.api_Threshold 7 48 (.t 38) (.t 40)), o 3 (.mv (.t 41))]) .skip)
def C.r02_distinct_6 : ACode := .seq (.reg false [o 25 (.fa 9 0 (.t 1)), o 26 (.ld 0 (.t 25)), o 27 (.mv (.t 4)), o 28 (.ia 19 (.t 26) (.t 27)), o 29 (.fa 7 0 (.t 28)), o 30 (.ld 0
  (.t 29)), o 31 (.mv (.t 5)), o 32 (.ia 7 (.t 30) (.t 31)), o 33 (.ld 7 (.t 32)), o 6 (.al Y.api_Threshold 7 (.agg [(.int 0), (.int 0), (.int 0), (.int 0), (.int 0), (.int 0)])),
  ov (.st 7 (.t 6) (.t 33))]) C.r02_distinct_7
def C.r02_distinct_4 : ACode := .seq (.reg false [o 5 (.mv (.c (.int 0)))]) (.blk 2 (.loop (.seq C.r02_distinct_5 (.seq (.blk 3 C.r02_distinct_6) (.reg false [o 23 (.mv (.t 5)), o
  24 (.bin .add (.t 23) (.c (.int 1))), o 5 (.mv (.t 24))])))))
def C.r02_distinct_2 : ACode := .seq (.reg false [o 4 (.mv (.c (.int 0)))]) (.blk 0 (.loop (.seq C.r02_distinct_3 (.seq (.blk 1 C.r02_distinct_4) (.reg false [o 12 (.mv (.t 4)), o
  13 (.bin .add (.t 12) (.c (.int 1))), o 4 (.mv (.t 13))])))))
def C.r02_distinct_8 : ACode := .seq (.reg false [o 42 (.mv (.t 3)), o 2 (.mv (.t 42))]) .ret
def C.r02_distinct_1 : ACode := .seq (.reg false [o 3 (.mv (.c .nil))]) (.seq C.r02_distinct_2 C.r02_distinct_8)
def C.r02_distinct_0 : ACode := .seq (.reg false [o 1 (.box Y.api_Protocol 11 (.t 0)), o 2 (.mv (.c .nil))]) C.r02_distinct_1
def C.r02_distinct : ACode := C.r02_distinct_0
theorem C.r02_distinct_eq : comp Tryz.prog (Tryz.f69.body.getD .skip) = some C.r02_distinct := by kernel_rfl
theorem Bd.r02_distinct : Body Tryz.prog F.r02_distinct C.r02_distinct [.slot 2] 43 := ⟨⟨_, _, Tryz.func69, by kernel_rfl, C.r02_distinct_eq, by kernel_rfl, by kernel_rfl⟩, Tryz.call69, by kernel_rfl⟩
def C.cover_badCounts_7 : ACode := .seq (.reg false [o 22 (.ia 0 (.t 18) (.t 20)), o 23 (.ld 0 (.t 22)), o 9 (.mv (.t 23))]) (.reg false [o 24 (.mv (.t 7)), o 25 (.mv (.t 1)), o 26
  (.mv (.t 9)), o 27 (.ia 0 (.t 25) (.t 26)), o 28 (.ld 0 (.t 27)), o 29 (.bin .add (.t 24) (.t 28)), o 7 (.mv (.t 29))])
def C.cover_badCounts_6 : ACode := .seq (.reg false [o 21 (.bin .lss (.t 20) (.t 19))]) (.seq (.cond (.t 21) .skip (.exit 2)) (.seq (.blk 3 C.cover_badCounts_7) (.reg false [o 30
  (.bin .add (.t 20) (.c (.int 1))), o 20 (.mv (.t 30))])))
def C.cover_badCounts_5 : ACode := .seq (.reg false [o 17 (.fa 0 0 (.t 6)), o 18 (.ld 0 (.t 17)), o 19 (.len false (.t 18)), o 20 (.mv (.c (.int 0)))]) (.blk 2 (.loop
  C.cover_badCounts_6))
def C.cover_badCounts_9 : ACode := .seq (.reg false [o 4 (.mv (.c (.bool false)))]) .ret
def C.cover_badCounts_8 : ACode := .seq (.reg false [o 31 (.mv (.t 7)), o 32 (.fa 1 0 (.t 6)), o 33 (.ld 0 (.t 32)), o 34 (.bin .lss (.t 31) (.t 33))]) (.cond (.t 34)
  C.cover_badCounts_9 .skip)
def C.cover_badCounts_4 : ACode := .seq (.reg false [o 7 (.mv (.c (.int 0)))]) (.seq C.cover_badCounts_5 C.cover_badCounts_8)
def C.cover_badCounts_3 : ACode := .seq (.reg false [o 15 (.ia 3 (.t 11) (.t 13)), o 16 (.ld 3 (.t 15)), o 6 (.al Y.api_Count 3 (.agg [.nil, (.int 0)])), ov (.st 3 (.t 6) (.t
  16))]) C.cover_badCounts_4
def C.cover_badCounts_2 : ACode := .seq (.reg false [o 14 (.bin .lss (.t 13) (.t 12))]) (.seq (.cond (.t 14) .skip (.exit 0)) (.seq (.blk 1 C.cover_badCounts_3) (.reg false [o 35
  (.bin .add (.t 13) (.c (.int 1))), o 13 (.mv (.t 35))])))
def C.cover_badCounts_1 : ACode := .seq (.reg false [o 10 (.fa 3 0 (.t 2)), o 11 (.ld 0 (.t 10)), o 12 (.len false (.t 11)), o 13 (.mv (.c (.int 0)))]) (.blk 0 (.loop
  C.cover_badCounts_2))
def C.cover_badCounts_10 : ACode := .seq (.reg false [o 4 (.mv (.c (.bool true)))]) .ret
def C.cover_badCounts_0 : ACode := .seq (.reg false [o 2 (.box Y.api_Property 7 (.t 0)), o 4 (.mv (.c (.bool false)))]) (.seq C.cover_badCounts_1 C.cover_badCounts_10)
def C.cover_badCounts : ACode := C.cover_badCounts_0
theorem C.cover_badCounts_eq : comp Tryz.prog (Tryz.f70.body.getD .skip) = some C.cover_badCounts := by kernel_rfl
theorem Bd.cover_badCounts : Body Tryz.prog F.cover_badCounts C.cover_badCounts [.slot 4] 36 := ⟨⟨_, _, Tryz.func70, by kernel_rfl, C.cover_badCounts_eq, by kernel_rfl, by kernel_rfl⟩, Tryz.call70, by kernel_rfl⟩
def C.cover_minimalOf_6 : ACode := .seq (.reg false [o 14 (.mv (.t 3)), o 15 (.ld 3 (.t 5)), o 16 (.call F.cover_Contains [(.t 14), (.t 15)]), o 17 (.not (.t 16))]) (.cond (.t 17)
  (.reg false [o 18 (.mv (.t 3)), o 19 (.ld 3 (.t 5)), o 20 (.mso Y.api_Element 3 (.agg [(.int 0), .nil]) 1 [(0, (.t 19))]), o 21 (.app Y.api_Element 3 32 (.t 18) (.t 20)), o 3
  (.mv (.t 21))]) .skip)
def C.cover_minimalOf_5 : ACode := .seq (.reg false [o 12 (.ia 3 (.t 8) (.t 10)), o 13 (.ld 3 (.t 12)), o 5 (.al Y.api_Element 3 (.agg [(.int 0), .nil])), ov (.st 3 (.t 5) (.t
  13))]) C.cover_minimalOf_6
def C.cover_minimalOf_4 : ACode := .seq (.reg false [o 11 (.bin .lss (.t 10) (.t 9))]) (.seq (.cond (.t 11) .skip (.exit 0)) (.seq (.blk 1 C.cover_minimalOf_5) (.reg false [o 22
  (.bin .add (.t 10) (.c (.int 1))), o 10 (.mv (.t 22))])))
def C.cover_minimalOf_3 : ACode := .seq (.reg false [o 8 (.mv (.t 0)), o 9 (.len false (.t 8)), o 10 (.mv (.c (.int 0)))]) (.blk 0 (.loop C.cover_minimalOf_4))
def C.cover_minimalOf_7 : ACode := .seq (.reg false [o 23 (.mv (.t 3)), o 24 (.call F.cover_tidy [(.t 23)]), o 2 (.mv (.t 24))]) .ret
def C.cover_minimalOf_2 : ACode := .seq (.reg false [o 3 (.mv (.c .nil))]) (.seq C.cover_minimalOf_3 C.cover_minimalOf_7)
def C.cover_minimalOf_1 : ACode := .seq (.reg false [o 6 (.mv (.t 0)), o 7 (.call F.slices_SortStableFunc_Lapi_Element_api_Element [(.t 6), (.c (.fn F.cover_minimalOf_c1 []))])])
  C.cover_minimalOf_2
def C.cover_minimalOf_0 : ACode := .seq (.reg false [o 2 (.mv (.c .nil))]) C.cover_minimalOf_1
def C.cover_minimalOf : ACode := C.cover_minimalOf_0
theorem C.cover_minimalOf_eq : comp Tryz.prog (Tryz.f71.body.getD .skip) = some C.cover_minimalOf := by kernel_rfl
theorem Bd.cover_minimalOf : Body Tryz.prog F.cover_minimalOf C.cover_minimalOf [.slot 2] 25 := ⟨⟨_, _, Tryz.func71, by kernel_rfl, C.cover_minimalOf_eq, by kernel_rfl, by kernel_rfl⟩, Tryz.call71, by kernel_rfl⟩
def C.protocol_Starts_3 : ACode := .seq (.reg false [o 12 (.mv (.t 6)), o 4 (.mv (.c .nil)), o 5 (.mv (.t 12))]) .ret
def C.protocol_Starts_2 : ACode := .seq (.reg false [o 10 (.mv (.t 6)), o 11 (.bin .neq (.t 10) (.c (.int 0)))]) (.cond (.t 11) C.protocol_Starts_3 .skip)
def C.protocol_Starts_1 : ACode := .seq (.reg false [o 7 (.ld 11 (.t 2)), o 8 (.ld 7 (.t 3)), o 9 (.call F.protocol_ValidateProperty [(.t 7), (.t 8)]), o 6 (.mv (.t 9))])
  C.protocol_Starts_2
def C.protocol_Starts_5 : ACode := .seq (.reg false [o 17 (.fa 2 0 (.t 3)), o 18 (.ld 0 (.t 17)), o 19 (.call F.slices_Clone_Lint_int [(.t 18)]), o 4 (.mv (.t 19)), o 5 (.mv (.c
  (.int 0)))]) .ret
def C.protocol_Starts_4 : ACode := .seq (.reg false [o 13 (.fa 2 0 (.t 3)), o 14 (.ld 0 (.t 13)), o 15 (.len false (.t 14)), o 16 (.bin .gtr (.t 15) (.c (.int 0)))]) (.cond (.t 16)
  C.protocol_Starts_5 .skip)
def C.protocol_Starts_6 : ACode := .seq (.reg false [o 20 (.fa 7 0 (.t 2)), o 21 (.ld 0 (.t 20)), o 22 (.call F.slices_Clone_Lint_int [(.t 21)]), o 4 (.mv (.t 22)), o 5 (.mv (.c
  (.int 0)))]) .ret
def C.protocol_Starts_0 : ACode := .seq (.reg false [o 2 (.box Y.api_Protocol 11 (.t 0)), o 3 (.box Y.api_Property 7 (.t 1)), o 4 (.mv (.c .nil)), o 5 (.mv (.c (.int 0)))]) (.seq
  C.protocol_Starts_1 (.seq C.protocol_Starts_4 C.protocol_Starts_6))
def C.protocol_Starts : ACode := C.protocol_Starts_0
theorem C.protocol_Starts_eq : comp Tryz.prog (Tryz.f74.body.getD .skip) = some C.protocol_Starts := by kernel_rfl
theorem Bd.protocol_Starts : Body Tryz.prog F.protocol_Starts C.protocol_Starts [.slot 4, .slot 5] 23 := ⟨⟨_, _, Tryz.func74, by kernel_rfl, C.protocol_Starts_eq, by kernel_rfl, by kernel_rfl⟩, Tryz.call74, by kernel_rfl⟩
def C.slices_Contains_Lint_int_1 : ACode := .seq (.reg false [o 5 (.mv (.t 0)), o 6 (.mv (.t 1)), o 7 (.call F.slices_Index_Lint_int [(.t 5), (.t 6)]), o 8 (.bin .geq (.t 7) (.c
  (.int 0))), o 4 (.mv (.t 8))]) .ret
def C.slices_Contains_Lint_int_0 : ACode := .seq (.reg false [o 4 (.mv (.c (.bool false)))]) C.slices_Contains_Lint_int_1
def C.slices_Contains_Lint_int : ACode := C.slices_Contains_Lint_int_0
theorem C.slices_Contains_Lint_int_eq : comp Tryz.prog (Tryz.f75.body.getD .skip) = some C.slices_Contains_Lint_int := by kernel_rfl
theorem Bd.slices_Contains_Lint_int : Body Tryz.prog F.slices_Contains_Lint_int C.slices_Contains_Lint_int [.slot 4] 9 := ⟨⟨_, _, Tryz.func75, by kernel_rfl, C.slices_Contains_Lint_int_eq, by kernel_rfl, by kernel_rfl⟩, Tryz.call75, by kernel_rfl⟩
def C.protocol_Validate_4 : ACode := .seq (.reg false [o 2 (.mv (.c (.int 2)))]) .ret
def C.protocol_Validate_6 : ACode := .seq (.reg false [o 2 (.mv (.c (.int 1)))]) .ret
def C.protocol_Validate_8 : ACode := .seq (.reg false [o 2 (.mv (.c (.int 1)))]) .ret
def C.protocol_Validate_10 : ACode := .seq (.reg false [o 2 (.mv (.c (.int 4)))]) .ret
def C.protocol_Validate_9 : ACode := .seq (.reg false [o 45 (.mv (.t 4)), o 46 (.bin .gtr (.t 45) (.c (.int 6))), o 47 (.mv (.t 46)), og 48 47 false (.fa 3 0 (.t 1)), og 49 47
  false (.ld 0 (.t 48)), og 50 47 false (.len false (.t 49)), og 51 47 false (.bin .gtr (.t 50) (.c (.int 3))), o 52 (.pick (.t 47) (.c (.bool true)) (.t 51)), o 53 (.mv (.t 52)),
  og 54 53 false (.fa 4 0 (.t 1)), og 55 53 false (.ld 0 (.t 54)), og 56 53 false (.len false (.t 55)), og 57 53 false (.bin .gtr (.t 56) (.c (.int 3))), o 58 (.pick (.t 53) (.c
  (.bool true)) (.t 57)), o 59 (.mv (.t 58)), og 60 59 false (.fa 6 0 (.t 1)), og 61 59 false (.ld 0 (.t 60)), og 62 59 false (.len false (.t 61)), og 63 59 false (.bin .gtr (.t
  62) (.c (.int 4))), o 64 (.pick (.t 59) (.c (.bool true)) (.t 63)), o 65 (.mv (.t 64)), og 66 65 false (.fa 9 0 (.t 1)), og 67 65 false (.ld 0 (.t 66)), og 68 65 false (.len
  false (.t 67)), og 69 65 false (.bin .gtr (.t 68) (.c (.int 8))), o 70 (.pick (.t 65) (.c (.bool true)) (.t 69)), o 44 (.mv (.t 70))]) (.cond (.t 44) C.protocol_Validate_10
  .skip)
def C.protocol_Validate_7 : ACode := .seq (.reg false [o 42 (.mv (.t 4)), o 43 (.bin .eql (.t 42) (.c (.int 0))), o 41 (.mv (.t 43))]) (.cond (.t 41) C.protocol_Validate_8
  C.protocol_Validate_9)
def C.protocol_Validate_5 : ACode := .seq (.reg false [o 23 (.fa 1 0 (.t 1)), o 24 (.ld 0 (.t 23)), o 25 (.bin .lss (.t 24) (.c (.int 1))), o 26 (.mv (.t 25)), og 27 26 false (.fa
  1 0 (.t 1)), og 28 26 false (.ld 0 (.t 27)), og 29 26 false (.bin .gtr (.t 28) (.c (.int 4))), o 30 (.pick (.t 26) (.c (.bool true)) (.t 29)), o 31 (.mv (.t 30)), og 32 31 false
  (.fa 5 0 (.t 1)), og 33 31 false (.ld 0 (.t 32)), og 34 31 false (.bin .lss (.t 33) (.c (.int 0))), o 35 (.pick (.t 31) (.c (.bool true)) (.t 34)), o 36 (.mv (.t 35)), og 37 36
  false (.fa 5 0 (.t 1)), og 38 36 false (.ld 0 (.t 37)), og 39 36 false (.bin .gtr (.t 38) (.c (.int 3))), o 40 (.pick (.t 36) (.c (.bool true)) (.t 39)), o 22 (.mv (.t 40))])
  (.cond (.t 22) C.protocol_Validate_6 C.protocol_Validate_7)
def C.protocol_Validate_3 : ACode := .seq (.reg false [o 18 (.fa 0 0 (.t 1)), o 19 (.ld 0 (.t 18)), o 20 (.call F.protocol_ValidName [(.t 19)]), o 21 (.not (.t 20)), o 17 (.mv (.t
  21))]) (.cond (.t 17) C.protocol_Validate_4 C.protocol_Validate_5)
def C.protocol_Validate_13 : ACode := .seq (.reg false [o 75 (.mv (.t 5)), o 2 (.mv (.t 75))]) .ret
def C.protocol_Validate_12 : ACode := .seq (.reg false [o 73 (.mv (.t 5)), o 74 (.bin .neq (.t 73) (.c (.int 0)))]) (.cond (.t 74) C.protocol_Validate_13 .skip)
def C.protocol_Validate_11 : ACode := .seq (.reg false [o 71 (.ld 11 (.t 1)), o 72 (.call F.protocol_names [(.t 71)]), o 5 (.mv (.t 72))]) C.protocol_Validate_12
def C.protocol_Validate_15 : ACode := .seq (.reg false [o 2 (.mv (.c (.int 1)))]) .ret
def C.protocol_Validate_14 : ACode := .seq (.reg false [o 76 (.mv (.t 3)), o 77 (.not (.t 76)), o 78 (.mv (.t 77)), og 79 78 true (.fa 3 0 (.t 1)), og 80 78 true (.ld 0 (.t 79)),
  og 81 78 true (.len false (.t 80)), og 82 78 true (.bin .gtr (.t 81) (.c (.int 0))), og 83 78 true (.mv (.t 82)), og 84 83 false (.fa 4 0 (.t 1)), og 85 83 false (.ld 0 (.t 84)),
  og 86 83 false (.len false (.t 85)), og 87 83 false (.bin .gtr (.t 86) (.c (.int 0))), og 88 78 true (.pick (.t 83) (.c (.bool true)) (.t 87)), og 89 78 true (.mv (.t 88)), og 90
  89 false (.fa 6 0 (.t 1)), og 91 89 false (.ld 0 (.t 90)), og 92 89 false (.len false (.t 91)), og 93 89 false (.bin .gtr (.t 92) (.c (.int 0))), og 94 78 true (.pick (.t 89) (.c
  (.bool true)) (.t 93)), og 95 78 true (.mv (.t 94)), og 96 95 false (.fa 5 0 (.t 1)), og 97 95 false (.ld 0 (.t 96)), og 98 95 false (.bin .neq (.t 97) (.c (.int 0))), og 99 78
  true (.pick (.t 95) (.c (.bool true)) (.t 98)), o 100 (.pick (.t 78) (.t 99) (.c (.bool false))), o 101 (.mv (.t 100)), og 102 101 false (.mv (.t 3)), og 103 101 false (.mv (.t
  102)), og 104 103 true (.fa 8 0 (.t 1)), og 105 103 true (.ld 0 (.t 104)), og 106 103 true (.len false (.t 105)), og 107 103 true (.bin .gtr (.t 106) (.c (.int 0))), og 108 101
  false (.pick (.t 103) (.t 107) (.c (.bool false))), o 109 (.pick (.t 101) (.c (.bool true)) (.t 108))]) (.cond (.t 109) C.protocol_Validate_15 .skip)
def C.protocol_Validate_20 : ACode := .seq (.reg false [o 2 (.mv (.c (.int 4)))]) .ret
def C.protocol_Validate_19 : ACode := .seq (.reg false [o 117 (.ld 5 (.t 7)), o 118 (.call F.protocol_bounded [(.t 117)]), o 119 (.not (.t 118))]) (.cond (.t 119)
  C.protocol_Validate_20 .skip)
def C.protocol_Validate_18 : ACode := .seq (.reg false [o 115 (.ia 5 (.t 111) (.t 113)), o 116 (.ld 5 (.t 115)), o 7 (.al Y.api_Linear 5 (.agg [(.int 0), (.int 0), (.int 0), (.int
  0)])), ov (.st 5 (.t 7) (.t 116))]) C.protocol_Validate_19
def C.protocol_Validate_17 : ACode := .seq (.reg false [o 114 (.bin .lss (.t 113) (.t 112))]) (.seq (.cond (.t 114) .skip (.exit 1)) (.seq (.blk 2 C.protocol_Validate_18) (.reg
  false [o 120 (.bin .add (.t 113) (.c (.int 1))), o 113 (.mv (.t 120))])))
def C.protocol_Validate_16 : ACode := .seq (.reg false [o 110 (.fa 6 0 (.t 1)), o 111 (.ld 0 (.t 110)), o 112 (.len false (.t 111)), o 113 (.mv (.c (.int 0)))]) (.blk 1 (.loop
  C.protocol_Validate_17))
def C.protocol_Validate_23 : ACode := .seq (.reg false [o 138 (.mv (.t 8)), o 2 (.mv (.t 138))]) .ret
def C.protocol_Validate_22 : ACode := .seq (.reg false [o 136 (.mv (.t 8)), o 137 (.bin .neq (.t 136) (.c (.int 0)))]) (.cond (.t 137) C.protocol_Validate_23 .skip)
def C.protocol_Validate_21 : ACode := .seq (.reg true [o 121 (.fa 7 0 (.t 1)), o 122 (.ld 0 (.t 121)), o 123 (.mv (.t 4)), o 125 (.fa 7 0 (.t 1)), o 126 (.ld 0 (.t 125)), o 127
  (.len false (.t 126)), o 128 (.bin .eql (.t 127) (.c (.int 0))), o 130 (.fa 8 0 (.t 1)), o 131 (.ld 0 (.t 130)), o 132 (.mv (.t 4)), o 124 (.call F.protocol_set [(.t 122), (.t
  123)]), o 129 (.call F.protocol_when [(.t 128), (.c (.int 1))]), o 133 (.call F.protocol_set [(.t 131), (.t 132)]), o 134 (.ms Y.api_Errno 0 (.int 0) 3 [(0, (.t 124)), (1, (.t
  129)), (2, (.t 133))]), o 135 (.call F.protocol_first [(.t 134)]), o 8 (.mv (.t 135))]) C.protocol_Validate_22
def C.protocol_Validate_29 : ACode := .seq (.reg false [o 150 (.mv (.t 10)), o 2 (.mv (.t 150))]) .ret
def C.protocol_Validate_28 : ACode := .seq (.reg false [o 148 (.mv (.t 10)), o 149 (.bin .neq (.t 148) (.c (.int 0)))]) (.cond (.t 149) C.protocol_Validate_29 .skip)
def C.protocol_Validate_27 : ACode := .seq (.reg false [o 145 (.ld 11 (.t 1)), o 146 (.mv (.t 9)), o 147 (.call F.protocol_ruleError [(.t 145), (.t 146)]), o 10 (.mv (.t 147))])
  C.protocol_Validate_28
def C.protocol_Validate_26 : ACode := .seq (.reg false [o 144 (.mv (.t 142)), o 9 (.mv (.t 144))]) C.protocol_Validate_27
def C.protocol_Validate_25 : ACode := .seq (.reg false [o 143 (.bin .lss (.t 142) (.t 141))]) (.seq (.cond (.t 143) .skip (.exit 3)) (.seq (.blk 4 C.protocol_Validate_26) (.reg
  false [o 151 (.bin .add (.t 142) (.c (.int 1))), o 142 (.mv (.t 151))])))
def C.protocol_Validate_24 : ACode := .seq (.reg false [o 139 (.fa 9 0 (.t 1)), o 140 (.ld 0 (.t 139)), o 141 (.len false (.t 140)), o 142 (.mv (.c (.int 0)))]) (.blk 3 (.loop
  C.protocol_Validate_25))
def C.protocol_Validate_30 : ACode := .seq (.reg false [o 152 (.ld 11 (.t 1)), o 153 (.call F.protocol_thresholds [(.t 152)]), o 154 (.len false (.t 153)), o 155 (.bin .gtr (.t
  154) (.c (.int 3))), o 156 (.call F.protocol_when [(.t 155), (.c (.int 4))]), o 2 (.mv (.t 156))]) .ret
def C.protocol_Validate_2 : ACode := .seq (.reg false [o 14 (.fa 2 0 (.t 1)), o 15 (.ld 0 (.t 14)), o 16 (.len false (.t 15)), o 4 (.mv (.t 16))]) (.seq (.blk 0
  C.protocol_Validate_3) (.seq C.protocol_Validate_11 (.seq C.protocol_Validate_14 (.seq C.protocol_Validate_16 (.seq C.protocol_Validate_21 (.seq C.protocol_Validate_24
  C.protocol_Validate_30))))))
def C.protocol_Validate_1 : ACode := .seq (.reg false [o 11 (.fa 1 0 (.t 1)), o 12 (.ld 0 (.t 11)), o 13 (.bin .eql (.t 12) (.c (.int 1))), o 3 (.mv (.t 13))])
  C.protocol_Validate_2
def C.protocol_Validate_0 : ACode := .seq (.reg false [o 1 (.box Y.api_Protocol 11 (.t 0)), o 2 (.mv (.c (.int 0)))]) C.protocol_Validate_1
def C.protocol_Validate : ACode := C.protocol_Validate_0
theorem C.protocol_Validate_eq : comp Tryz.prog (Tryz.f78.body.getD .skip) = some C.protocol_Validate := by kernel_rfl
theorem Bd.protocol_Validate : Body Tryz.prog F.protocol_Validate C.protocol_Validate [.slot 2] 157 := ⟨⟨_, _, Tryz.func78, by kernel_rfl, C.protocol_Validate_eq, by kernel_rfl, by kernel_rfl⟩, Tryz.call78, by kernel_rfl⟩
end Go.Proofs.YtgokbcjkbdabnaaGreatDoor
