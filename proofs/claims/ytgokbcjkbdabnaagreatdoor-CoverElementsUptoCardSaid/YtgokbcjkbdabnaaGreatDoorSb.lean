/-
  The codes of the program's functions, in the form that the layer reads, and that they are these. No condition.
-/
import Derived.Test.YtgokbcjkbdabnaaGreatDoorSa
namespace Go.Proofs.YtgokbcjkbdabnaaGreatDoor
open Go.Ab Go.Proofs
set_option maxRecDepth 100000
def C.protocol_ValidName_2 : ACode := .seq (.reg false [o 2 (.mv (.c (.bool false)))]) .ret
def C.protocol_ValidName_1 : ACode := .seq (.reg false [o 6 (.mv (.t 0)), o 7 (.bin .eql (.t 6) (.c (.lit (.string (bs []))))), o 8 (.mv (.t 7)), og 9 8 false (.mv (.t 0)), og 10 8
  false (.len true (.t 9)), og 11 8 false (.bin .gtr (.t 10) (.c (.int 12))), o 12 (.pick (.t 8) (.c (.bool true)) (.t 11))]) (.cond (.t 12) C.protocol_ValidName_2 .skip)
def C.protocol_ValidName_8 : ACode := .seq (.reg false [o 2 (.mv (.c (.bool false)))]) .ret
def C.protocol_ValidName_7 : ACode := .seq (.reg false [o 25 (.mv (.t 5)), o 26 (.not (.t 25)), o 27 (.mv (.t 26)), og 28 27 true (.mv (.t 3)), og 29 27 true (.bin .eql (.t 28) (.c
  (.int 0))), og 30 27 true (.mv (.t 29)), og 31 30 false (.mv (.t 4)), og 32 30 false (.bin .lss (.t 31) (.c (.lit (.int .i32 48)))), og 33 30 false (.mv (.t 32)), og 34 33 false
  (.mv (.t 4)), og 35 33 false (.bin .gtr (.t 34) (.c (.lit (.int .i32 57)))), og 36 30 false (.pick (.t 33) (.c (.bool true)) (.t 35)), og 37 30 false (.mv (.t 36)), og 38 37 true
  (.mv (.t 4)), og 39 37 true (.bin .neq (.t 38) (.c (.lit (.int .i32 95)))), og 40 30 false (.pick (.t 37) (.t 39) (.c (.bool false))), og 41 27 true (.pick (.t 30) (.c (.bool
  true)) (.t 40)), o 42 (.pick (.t 27) (.t 41) (.c (.bool false)))]) (.cond (.t 42) C.protocol_ValidName_8 .skip)
def C.protocol_ValidName_6 : ACode := .seq (.reg false [o 19 (.mv (.t 4)), o 20 (.bin .geq (.t 19) (.c (.lit (.int .i32 97)))), o 21 (.mv (.t 20)), og 22 21 true (.mv (.t 4)), og
  23 21 true (.bin .leq (.t 22) (.c (.lit (.int .i32 122)))), o 24 (.pick (.t 21) (.t 23) (.c (.bool false))), o 5 (.mv (.t 24))]) C.protocol_ValidName_7
def C.protocol_ValidName_5 : ACode := .seq (.reg false [o 17 (.ex (.t 15) 1), o 18 (.ex (.t 15) 2), o 3 (.mv (.t 17)), o 4 (.mv (.t 18))]) C.protocol_ValidName_6
def C.protocol_ValidName_4 : ACode := .seq (.reg false [o 15 (.bot), o 16 (.ex (.t 15) 0)]) (.seq (.cond (.t 16) .skip (.exit 0)) (.blk 1 C.protocol_ValidName_5))
def C.protocol_ValidName_3 : ACode := .seq (.reg false [o 13 (.mv (.t 0)), o 14 (.bot)]) (.blk 0 (.loop C.protocol_ValidName_4))
def C.protocol_ValidName_9 : ACode := .seq (.reg false [o 43 (.mv (.t 0)), o 44 (.call F.protocol_isReserved [(.t 43)]), o 45 (.not (.t 44)), o 2 (.mv (.t 45))]) .ret
def C.protocol_ValidName_0 : ACode := .seq (.reg false [o 2 (.mv (.c (.bool false)))]) (.seq C.protocol_ValidName_1 (.seq C.protocol_ValidName_3 C.protocol_ValidName_9))
def C.protocol_ValidName : ACode := C.protocol_ValidName_0
theorem C.protocol_ValidName_eq : comp Tryz.prog (Tryz.f79.body.getD .skip) = some C.protocol_ValidName := by kernel_rfl
theorem Bd.protocol_ValidName : Body Tryz.prog F.protocol_ValidName C.protocol_ValidName [.slot 2] 46 := ⟨⟨_, _, Tryz.func79, by kernel_rfl, C.protocol_ValidName_eq, by kernel_rfl, by kernel_rfl⟩, Tryz.call79, by kernel_rfl⟩
def C.protocol_set_5 : ACode := .seq (.reg false [o 4 (.mv (.c (.int 5)))]) .ret
def C.protocol_set_4 : ACode := .seq (.reg false [o 14 (.mv (.t 6)), o 15 (.bin .lss (.t 14) (.c (.int 0))), o 16 (.mv (.t 15)), og 17 16 false (.mv (.t 6)), og 18 16 false (.mv
  (.t 1)), og 19 16 false (.bin .geq (.t 17) (.t 18)), o 20 (.pick (.t 16) (.c (.bool true)) (.t 19))]) (.cond (.t 20) C.protocol_set_5 .skip)
def C.protocol_set_3 : ACode := .seq (.reg false [o 12 (.ia 0 (.t 8) (.t 10)), o 13 (.ld 0 (.t 12)), o 6 (.mv (.t 13))]) C.protocol_set_4
def C.protocol_set_2 : ACode := .seq (.reg false [o 11 (.bin .lss (.t 10) (.t 9))]) (.seq (.cond (.t 11) .skip (.exit 0)) (.seq (.blk 1 C.protocol_set_3) (.reg false [o 21 (.bin
  .add (.t 10) (.c (.int 1))), o 10 (.mv (.t 21))])))
def C.protocol_set_1 : ACode := .seq (.reg false [o 8 (.mv (.t 0)), o 9 (.len false (.t 8)), o 10 (.mv (.c (.int 0)))]) (.blk 0 (.loop C.protocol_set_2))
def C.protocol_set_7 : ACode := .seq (.reg false [o 22 (.mv (.t 7)), o 23 (.mv (.t 0)), o 24 (.len false (.t 23)), o 25 (.bin .lss (.t 22) (.t 24))]) (.cond (.t 25) .skip (.exit
  2))
def C.protocol_set_9 : ACode := .seq (.reg false [o 4 (.mv (.c (.int 1)))]) .ret
def C.protocol_set_8 : ACode := .seq (.reg true [o 28 (.mv (.t 0)), o 29 (.mv (.t 7)), o 30 (.ia 0 (.t 28) (.t 29)), o 31 (.ld 0 (.t 30)), o 32 (.mv (.t 0)), o 33 (.mv (.t 7)), o
  34 (.bin .sub (.t 33) (.c (.int 1))), o 35 (.ia 0 (.t 32) (.t 34)), o 36 (.ld 0 (.t 35)), o 37 (.bin .leq (.t 31) (.t 36))]) (.cond (.t 37) C.protocol_set_9 .skip)
def C.protocol_set_6 : ACode := .seq (.reg false [o 7 (.mv (.c (.int 1)))]) (.blk 2 (.loop (.seq C.protocol_set_7 (.seq (.blk 3 C.protocol_set_8) (.reg false [o 26 (.mv (.t 7)), o
  27 (.bin .add (.t 26) (.c (.int 1))), o 7 (.mv (.t 27))])))))
def C.protocol_set_10 : ACode := .seq (.reg false [o 4 (.mv (.c (.int 0)))]) .ret
def C.protocol_set_0 : ACode := .seq (.reg false [o 4 (.mv (.c (.int 0)))]) (.seq C.protocol_set_1 (.seq C.protocol_set_6 C.protocol_set_10))
def C.protocol_set : ACode := C.protocol_set_0
theorem C.protocol_set_eq : comp Tryz.prog (Tryz.f80.body.getD .skip) = some C.protocol_set := by kernel_rfl
theorem Bd.protocol_set : Body Tryz.prog F.protocol_set C.protocol_set [.slot 4] 38 := ⟨⟨_, _, Tryz.func80, by kernel_rfl, C.protocol_set_eq, by kernel_rfl, by kernel_rfl⟩, Tryz.call80, by kernel_rfl⟩
def C.protocol_first_5 : ACode := .seq (.reg false [o 13 (.mv (.t 4)), o 2 (.mv (.t 13))]) .ret
def C.protocol_first_4 : ACode := .seq (.reg false [o 11 (.mv (.t 4)), o 12 (.bin .neq (.t 11) (.c (.int 0)))]) (.cond (.t 12) C.protocol_first_5 .skip)
def C.protocol_first_3 : ACode := .seq (.reg false [o 9 (.ia 0 (.t 5) (.t 7)), o 10 (.ld 0 (.t 9)), o 4 (.mv (.t 10))]) C.protocol_first_4
def C.protocol_first_2 : ACode := .seq (.reg false [o 8 (.bin .lss (.t 7) (.t 6))]) (.seq (.cond (.t 8) .skip (.exit 0)) (.seq (.blk 1 C.protocol_first_3) (.reg false [o 14 (.bin
  .add (.t 7) (.c (.int 1))), o 7 (.mv (.t 14))])))
def C.protocol_first_1 : ACode := .seq (.reg false [o 5 (.mv (.t 0)), o 6 (.len false (.t 5)), o 7 (.mv (.c (.int 0)))]) (.blk 0 (.loop C.protocol_first_2))
def C.protocol_first_6 : ACode := .seq (.reg false [o 2 (.mv (.c (.int 0)))]) .ret
def C.protocol_first_0 : ACode := .seq (.reg false [o 2 (.mv (.c (.int 0)))]) (.seq C.protocol_first_1 C.protocol_first_6)
def C.protocol_first : ACode := C.protocol_first_0
theorem C.protocol_first_eq : comp Tryz.prog (Tryz.f81.body.getD .skip) = some C.protocol_first := by kernel_rfl
theorem Bd.protocol_first : Body Tryz.prog F.protocol_first C.protocol_first [.slot 2] 15 := ⟨⟨_, _, Tryz.func81, by kernel_rfl, C.protocol_first_eq, by kernel_rfl, by kernel_rfl⟩, Tryz.call81, by kernel_rfl⟩
def C.protocol_when_2 : ACode := .seq (.reg false [o 6 (.mv (.t 1)), o 4 (.mv (.t 6))]) .ret
def C.protocol_when_1 : ACode := .seq (.reg false [o 5 (.mv (.t 0))]) (.cond (.t 5) C.protocol_when_2 .skip)
def C.protocol_when_3 : ACode := .seq (.reg false [o 4 (.mv (.c (.int 0)))]) .ret
def C.protocol_when_0 : ACode := .seq (.reg false [o 4 (.mv (.c (.int 0)))]) (.seq C.protocol_when_1 C.protocol_when_3)
def C.protocol_when : ACode := C.protocol_when_0
theorem C.protocol_when_eq : comp Tryz.prog (Tryz.f82.body.getD .skip) = some C.protocol_when := by kernel_rfl
theorem Bd.protocol_when : Body Tryz.prog F.protocol_when C.protocol_when [.slot 4] 7 := ⟨⟨_, _, Tryz.func82, by kernel_rfl, C.protocol_when_eq, by kernel_rfl, by kernel_rfl⟩, Tryz.call82, by kernel_rfl⟩
def C.protocol_counts_6 : ACode := .seq (.reg false [o 37 (.mv (.t 7)), o 4 (.mv (.t 37))]) .ret
def C.protocol_counts_5 : ACode := .seq (.reg false [o 35 (.mv (.t 7)), o 36 (.bin .neq (.t 35) (.c (.int 0)))]) (.cond (.t 36) C.protocol_counts_6 .skip)
def C.protocol_counts_4 : ACode := .seq (.reg true [o 14 (.fa 0 0 (.t 6)), o 15 (.ld 0 (.t 14)), o 16 (.mv (.t 1)), o 18 (.fa 0 0 (.t 6)), o 19 (.ld 0 (.t 18)), o 20 (.len false
  (.t 19)), o 21 (.bin .eql (.t 20) (.c (.int 0))), o 17 (.call F.protocol_set [(.t 15), (.t 16)]), o 22 (.mv (.t 21)), og 23 22 false (.fa 1 0 (.t 6)), og 24 22 false (.ld 0 (.t
  23)), og 25 22 false (.bin .lss (.t 24) (.c (.int 1))), o 26 (.pick (.t 22) (.c (.bool true)) (.t 25)), o 27 (.mv (.t 26)), og 28 27 false (.fa 1 0 (.t 6)), og 29 27 false (.ld 0
  (.t 28)), og 30 27 false (.bin .gtr (.t 29) (.c (.int 3))), o 31 (.pick (.t 27) (.c (.bool true)) (.t 30)), o 32 (.call F.protocol_when [(.t 31), (.c (.int 1))]), o 33 (.ms
  Y.api_Errno 0 (.int 0) 2 [(0, (.t 17)), (1, (.t 32))]), o 34 (.call F.protocol_first [(.t 33)]), o 7 (.mv (.t 34))]) C.protocol_counts_5
def C.protocol_counts_3 : ACode := .seq (.reg false [o 12 (.ia 3 (.t 8) (.t 10)), o 13 (.ld 3 (.t 12)), o 6 (.al Y.api_Count 3 (.agg [.nil, (.int 0)])), ov (.st 3 (.t 6) (.t 13))])
  C.protocol_counts_4
def C.protocol_counts_2 : ACode := .seq (.reg false [o 11 (.bin .lss (.t 10) (.t 9))]) (.seq (.cond (.t 11) .skip (.exit 0)) (.seq (.blk 1 C.protocol_counts_3) (.reg false [o 38
  (.bin .add (.t 10) (.c (.int 1))), o 10 (.mv (.t 38))])))
def C.protocol_counts_1 : ACode := .seq (.reg false [o 8 (.mv (.t 0)), o 9 (.len false (.t 8)), o 10 (.mv (.c (.int 0)))]) (.blk 0 (.loop C.protocol_counts_2))
def C.protocol_counts_7 : ACode := .seq (.reg false [o 4 (.mv (.c (.int 0)))]) .ret
def C.protocol_counts_0 : ACode := .seq (.reg false [o 4 (.mv (.c (.int 0)))]) (.seq C.protocol_counts_1 C.protocol_counts_7)
def C.protocol_counts : ACode := C.protocol_counts_0
theorem C.protocol_counts_eq : comp Tryz.prog (Tryz.f83.body.getD .skip) = some C.protocol_counts := by kernel_rfl
theorem Bd.protocol_counts : Body Tryz.prog F.protocol_counts C.protocol_counts [.slot 4] 39 := ⟨⟨_, _, Tryz.func83, by kernel_rfl, C.protocol_counts_eq, by kernel_rfl, by kernel_rfl⟩, Tryz.call83, by kernel_rfl⟩
def C.protocol_adjacent_2 : ACode := .seq (.reg false [o 4 (.mv (.c (.int 0)))]) .ret
def C.protocol_adjacent_1 : ACode := .seq (.reg false [o 5 (.mv (.t 1)), o 6 (.len false (.t 5)), o 7 (.bin .eql (.t 6) (.c (.int 0)))]) (.cond (.t 7) C.protocol_adjacent_2 .skip)
def C.protocol_adjacent_4 : ACode := .seq (.reg false [o 4 (.mv (.c (.int 6)))]) .ret
def C.protocol_adjacent_3 : ACode := .seq (.reg false [o 8 (.fa 1 0 (.t 2)), o 9 (.ld 0 (.t 8)), o 10 (.bin .eql (.t 9) (.c (.int 1)))]) (.cond (.t 10) C.protocol_adjacent_4 .skip)
def C.protocol_adjacent_6 : ACode := .seq (.reg false [o 4 (.mv (.c (.int 1)))]) .ret
def C.protocol_adjacent_5 : ACode := .seq (.reg false [o 11 (.mv (.t 1)), o 12 (.len false (.t 11)), o 13 (.bin .neq (.t 12) (.c (.int 2)))]) (.cond (.t 13) C.protocol_adjacent_6
  .skip)
def C.protocol_adjacent_7 : ACode := .seq (.reg true [o 14 (.mv (.t 1)), o 15 (.ia 0 (.t 14) (.c (.int 0))), o 16 (.ld 0 (.t 15)), o 17 (.fa 2 0 (.t 2)), o 18 (.ld 0 (.t 17)), o 19
  (.len false (.t 18)), o 21 (.mv (.t 1)), o 22 (.ia 0 (.t 21) (.c (.int 1))), o 23 (.ld 0 (.t 22)), o 24 (.fa 2 0 (.t 2)), o 25 (.ld 0 (.t 24)), o 26 (.len false (.t 25)), o 20
  (.call F.protocol_index [(.t 16), (.t 19)]), o 27 (.call F.protocol_index [(.t 23), (.t 26)]), o 28 (.ms Y.api_Errno 0 (.int 0) 2 [(0, (.t 20)), (1, (.t 27))]), o 29 (.call
  F.protocol_first [(.t 28)]), o 4 (.mv (.t 29))]) .ret
def C.protocol_adjacent_0 : ACode := .seq (.reg false [o 2 (.box Y.api_Protocol 11 (.t 0)), o 4 (.mv (.c (.int 0)))]) (.seq C.protocol_adjacent_1 (.seq C.protocol_adjacent_3 (.seq
  C.protocol_adjacent_5 C.protocol_adjacent_7)))
def C.protocol_adjacent : ACode := C.protocol_adjacent_0
theorem C.protocol_adjacent_eq : comp Tryz.prog (Tryz.f84.body.getD .skip) = some C.protocol_adjacent := by kernel_rfl
theorem Bd.protocol_adjacent : Body Tryz.prog F.protocol_adjacent C.protocol_adjacent [.slot 4] 30 := ⟨⟨_, _, Tryz.func84, by kernel_rfl, C.protocol_adjacent_eq, by kernel_rfl, by kernel_rfl⟩, Tryz.call84, by kernel_rfl⟩
def C.slices_Clone_Lapi_Element_api_Element_2 : ACode := .seq (.reg false [o 2 (.mv (.c .nil))]) .ret
def C.slices_Clone_Lapi_Element_api_Element_1 : ACode := .seq (.reg false [o 3 (.mv (.t 0)), o 4 (.isnil (.t 3))]) (.cond (.t 4) C.slices_Clone_Lapi_Element_api_Element_2 .skip)
def C.slices_Clone_Lapi_Element_api_Element_3 : ACode := .seq (.reg false [o 5 (.mso Y.api_Element 3 (.agg [(.int 0), .nil]) 0 []), o 6 (.mv (.t 0)), o 7 (.app Y.api_Element 3 32
  (.t 5) (.t 6)), o 2 (.mv (.t 7))]) .ret
def C.slices_Clone_Lapi_Element_api_Element_0 : ACode := .seq (.reg false [o 2 (.mv (.c .nil))]) (.seq C.slices_Clone_Lapi_Element_api_Element_1
  C.slices_Clone_Lapi_Element_api_Element_3)
def C.slices_Clone_Lapi_Element_api_Element : ACode := C.slices_Clone_Lapi_Element_api_Element_0
theorem C.slices_Clone_Lapi_Element_api_Element_eq : comp Tryz.prog (Tryz.f86.body.getD .skip) = some C.slices_Clone_Lapi_Element_api_Element := by kernel_rfl
theorem Bd.slices_Clone_Lapi_Element_api_Element : Body Tryz.prog F.slices_Clone_Lapi_Element_api_Element C.slices_Clone_Lapi_Element_api_Element [.slot 2] 8 := ⟨⟨_, _, Tryz.func86, by kernel_rfl, C.slices_Clone_Lapi_Element_api_Element_eq, by kernel_rfl, by kernel_rfl⟩, Tryz.call86, by kernel_rfl⟩
def C.cover_pre_7 : ACode := .seq (.reg false [o 28 (.mv (.t 10)), o 4 (.mv (.c .nil)), o 5 (.mv (.t 28))]) .ret
def C.cover_pre_6 : ACode := .seq (.reg false [o 26 (.mv (.t 10)), o 27 (.bin .neq (.t 26) (.c (.int 0)))]) (.cond (.t 27) C.cover_pre_7 .skip)
def C.cover_pre_5 : ACode := .seq (.reg false [o 20 (.ld 11 (.t 2)), o 21 (.ld 19 (.t 8)), o 22 (.ld 3 (.t 3)), o 23 (.call F.cover_before [(.t 20), (.t 21), (.t 22)]), o 19 (.mv
  (.t 23)), o 24 (.ex (.t 19) 0), o 25 (.ex (.t 19) 1), o 9 (.mv (.t 24)), o 10 (.mv (.t 25))]) (.seq C.cover_pre_6 (.reg false [o 29 (.mv (.t 6)), o 30 (.mv (.t 9)), o 31 (.app
  Y.api_Element 3 32 (.t 29) (.t 30)), o 6 (.mv (.t 31))]))
def C.cover_pre_4 : ACode := .seq (.reg false [o 17 (.ia 19 (.t 13) (.t 15)), o 18 (.ld 19 (.t 17)), o 8 (.al Y.api_Rule 19 (.agg [(.lit (.string (bs []))), (.int 0), (.int 0),
  (.int 0), (.int 0), (.int 0), .nil, .nil, .nil, .nil, (.int 0), (.int 0), .nil, (.int 0), .nil, .nil, .nil, (.int 0)])), ov (.st 19 (.t 8) (.t 18))]) C.cover_pre_5
def C.cover_pre_3 : ACode := .seq (.reg false [o 16 (.bin .lss (.t 15) (.t 14))]) (.seq (.cond (.t 16) .skip (.exit 0)) (.seq (.blk 1 C.cover_pre_4) (.reg false [o 32 (.bin .add
  (.t 15) (.c (.int 1))), o 15 (.mv (.t 32))])))
def C.cover_pre_2 : ACode := .seq (.reg false [o 12 (.fa 9 0 (.t 2)), o 13 (.ld 0 (.t 12)), o 14 (.len false (.t 13)), o 15 (.mv (.c (.int 0)))]) (.blk 0 (.loop C.cover_pre_3))
def C.cover_pre_10 : ACode := .seq (.reg false [o 4 (.mv (.c .nil)), o 5 (.mv (.c (.int 4)))]) .ret
def C.cover_pre_9 : ACode := .seq (.reg false [o 35 (.mv (.t 11)), o 36 (.len false (.t 35)), o 37 (.bin .gtr (.t 36) (.c (.int 100)))]) (.cond (.t 37) C.cover_pre_10 .skip)
def C.cover_pre_11 : ACode := .seq (.reg false [o 38 (.mv (.t 11)), o 4 (.mv (.t 38)), o 5 (.mv (.c (.int 0)))]) .ret
def C.cover_pre_8 : ACode := .seq (.reg false [o 33 (.mv (.t 6)), o 34 (.call F.cover_Minimize [(.t 33)]), o 11 (.mv (.t 34))]) (.seq C.cover_pre_9 C.cover_pre_11)
def C.cover_pre_1 : ACode := .seq (.reg false [o 6 (.mv (.c .nil))]) (.seq C.cover_pre_2 C.cover_pre_8)
def C.cover_pre_0 : ACode := .seq (.reg false [o 2 (.box Y.api_Protocol 11 (.t 0)), o 3 (.box Y.api_Element 3 (.t 1)), o 4 (.mv (.c .nil)), o 5 (.mv (.c (.int 0)))]) C.cover_pre_1
def C.cover_pre : ACode := C.cover_pre_0
theorem C.cover_pre_eq : comp Tryz.prog (Tryz.f87.body.getD .skip) = some C.cover_pre := by kernel_rfl
theorem Bd.cover_pre : Body Tryz.prog F.cover_pre C.cover_pre [.slot 4, .slot 5] 39 := ⟨⟨_, _, Tryz.func87, by kernel_rfl, C.cover_pre_eq, by kernel_rfl, by kernel_rfl⟩, Tryz.call87, by kernel_rfl⟩
def C.n88_2 : ACode := .seq (.reg false [o 6 (.mv (.c (.bool false)))]) .ret
def C.n88_1 : ACode := .seq (.reg false [o 10 (.mv (.t 0)), o 11 (.len false (.t 10)), o 12 (.mv (.t 1)), o 13 (.len false (.t 12)), o 14 (.bin .neq (.t 11) (.t 13))]) (.cond (.t
  14) C.n88_2 .skip)
def C.n88_8 : ACode := .seq (.reg false [o 6 (.mv (.c (.bool false)))]) .ret
def C.n88_7 : ACode := .seq (.reg false [o 26 (.mv (.t 2)), o 27 (.ld 3 (.t 8)), o 28 (.ld 3 (.t 9)), o 29 (.callv (.t 26) [(.t 27), (.t 28)]), o 30 (.not (.t 29))]) (.cond (.t 30)
  C.n88_8 .skip)
def C.n88_6 : ACode := .seq (.reg false [o 22 (.mv (.t 1)), o 23 (.mv (.t 7)), o 24 (.ia 3 (.t 22) (.t 23)), o 25 (.ld 3 (.t 24)), o 9 (.al Y.api_Element 3 (.agg [(.int 0),
  .nil])), ov (.st 3 (.t 9) (.t 25))]) C.n88_7
def C.n88_5 : ACode := .seq (.reg false [o 19 (.mv (.t 17)), o 20 (.ia 3 (.t 15) (.t 17)), o 21 (.ld 3 (.t 20)), o 8 (.al Y.api_Element 3 (.agg [(.int 0), .nil])), o 7 (.mv (.t
  19)), ov (.st 3 (.t 8) (.t 21))]) C.n88_6
def C.n88_4 : ACode := .seq (.reg false [o 18 (.bin .lss (.t 17) (.t 16))]) (.seq (.cond (.t 18) .skip (.exit 0)) (.seq (.blk 1 C.n88_5) (.reg false [o 31 (.bin .add (.t 17) (.c
  (.int 1))), o 17 (.mv (.t 31))])))
def C.n88_3 : ACode := .seq (.reg false [o 15 (.mv (.t 0)), o 16 (.len false (.t 15)), o 17 (.mv (.c (.int 0)))]) (.blk 0 (.loop C.n88_4))
def C.n88_9 : ACode := .seq (.reg false [o 6 (.mv (.c (.bool true)))]) .ret
def C.n88_0 : ACode := .seq (.reg false [o 6 (.mv (.c (.bool false)))]) (.seq C.n88_1 (.seq C.n88_3 C.n88_9))
def C.n88 : ACode := C.n88_0
theorem C.n88_eq : comp Tryz.prog (Tryz.f88.body.getD .skip) = some C.n88 := by kernel_rfl
theorem Bd.n88 : Body Tryz.prog F.n88 C.n88 [.slot 6] 32 := ⟨⟨_, _, Tryz.func88, by kernel_rfl, C.n88_eq, by kernel_rfl, by kernel_rfl⟩, Tryz.call88, by kernel_rfl⟩
def C.cover_backward_c1_1 : ACode := .seq (.reg false [o 5 (.ld 3 (.t 2)), o 6 (.ld 3 (.t 3)), o 7 (.call F.cover_Compare [(.t 5), (.t 6)]), o 8 (.bin .eql (.t 7) (.c (.int 0))), o
  4 (.mv (.t 8))]) .ret
def C.cover_backward_c1_0 : ACode := .seq (.reg false [o 2 (.box Y.api_Element 3 (.t 0)), o 3 (.box Y.api_Element 3 (.t 1)), o 4 (.mv (.c (.bool false)))]) C.cover_backward_c1_1
def C.cover_backward_c1 : ACode := C.cover_backward_c1_0
theorem C.cover_backward_c1_eq : comp Tryz.prog (Tryz.f89.body.getD .skip) = some C.cover_backward_c1 := by kernel_rfl
theorem Bd.cover_backward_c1 : Body Tryz.prog F.cover_backward_c1 C.cover_backward_c1 [.slot 4] 9 := ⟨⟨_, _, Tryz.func89, by kernel_rfl, C.cover_backward_c1_eq, by kernel_rfl, by kernel_rfl⟩, Tryz.call89, by kernel_rfl⟩
def C.cover_PreRule_3 : ACode := .seq (.reg false [o 14 (.mv (.t 8)), o 6 (.mv (.c .nil)), o 7 (.mv (.t 14))]) .ret
def C.cover_PreRule_2 : ACode := .seq (.reg false [o 12 (.mv (.t 8)), o 13 (.bin .neq (.t 12) (.c (.int 0)))]) (.cond (.t 13) C.cover_PreRule_3 .skip)
def C.cover_PreRule_1 : ACode := .seq (.reg false [o 10 (.ld 11 (.t 3)), o 11 (.call F.cover_checkCover [(.t 10)]), o 8 (.mv (.t 11))]) C.cover_PreRule_2
def C.cover_PreRule_6 : ACode := .seq (.reg false [o 20 (.mv (.t 9)), o 6 (.mv (.c .nil)), o 7 (.mv (.t 20))]) .ret
def C.cover_PreRule_5 : ACode := .seq (.reg false [o 18 (.mv (.t 9)), o 19 (.bin .neq (.t 18) (.c (.int 0)))]) (.cond (.t 19) C.cover_PreRule_6 .skip)
def C.cover_PreRule_4 : ACode := .seq (.reg false [o 15 (.ld 11 (.t 3)), o 16 (.ld 3 (.t 5)), o 17 (.call F.cover_validElement [(.t 15), (.t 16)]), o 9 (.mv (.t 17))])
  C.cover_PreRule_5
def C.cover_PreRule_8 : ACode := .seq (.reg false [o 6 (.mv (.c .nil)), o 7 (.mv (.c (.int 6)))]) .ret
def C.cover_PreRule_7 : ACode := .seq (.reg false [o 21 (.mv (.t 1)), o 22 (.bin .lss (.t 21) (.c (.int 0))), o 23 (.mv (.t 22)), og 24 23 false (.mv (.t 1)), og 25 23 false (.fa 9
  0 (.t 3)), og 26 23 false (.ld 0 (.t 25)), og 27 23 false (.len false (.t 26)), og 28 23 false (.bin .geq (.t 24) (.t 27)), o 29 (.pick (.t 23) (.c (.bool true)) (.t 28))])
  (.cond (.t 29) C.cover_PreRule_8 .skip)
def C.cover_PreRule_9 : ACode := .seq (.reg true [o 30 (.ld 11 (.t 3)), o 31 (.fa 9 0 (.t 3)), o 32 (.ld 0 (.t 31)), o 33 (.mv (.t 1)), o 34 (.ia 19 (.t 32) (.t 33)), o 35 (.ld 19
  (.t 34)), o 36 (.ld 3 (.t 5)), o 37 (.call F.cover_before [(.t 30), (.t 35), (.t 36)]), o 38 (.ex (.t 37) 0), o 39 (.ex (.t 37) 1), o 6 (.mv (.t 38)), o 7 (.mv (.t 39))]) .ret
def C.cover_PreRule_0 : ACode := .seq (.reg false [o 3 (.box Y.api_Protocol 11 (.t 0)), o 5 (.box Y.api_Element 3 (.t 2)), o 6 (.mv (.c .nil)), o 7 (.mv (.c (.int 0)))]) (.seq
  C.cover_PreRule_1 (.seq C.cover_PreRule_4 (.seq C.cover_PreRule_7 C.cover_PreRule_9)))
def C.cover_PreRule : ACode := C.cover_PreRule_0
theorem C.cover_PreRule_eq : comp Tryz.prog (Tryz.f90.body.getD .skip) = some C.cover_PreRule := by kernel_rfl
theorem Bd.cover_PreRule : Body Tryz.prog F.cover_PreRule C.cover_PreRule [.slot 6, .slot 7] 40 := ⟨⟨_, _, Tryz.func90, by kernel_rfl, C.cover_PreRule_eq, by kernel_rfl, by kernel_rfl⟩, Tryz.call90, by kernel_rfl⟩
def C.slices_pdqsortCmpFunc_api_Element_4 : ACode := .seq (.reg false [o 26 (.mv (.t 0)), o 27 (.mv (.t 1)), o 28 (.mv (.t 2)), o 29 (.mv (.t 4)), o 30 (.call
  F.slices_insertionSortCmpFunc_api_Element [(.t 26), (.t 27), (.t 28), (.t 29)])]) .ret
def C.slices_pdqsortCmpFunc_api_Element_3 : ACode := .seq (.reg false [o 24 (.mv (.t 12)), o 25 (.bin .leq (.t 24) (.c (.int 12)))]) (.cond (.t 25)
  C.slices_pdqsortCmpFunc_api_Element_4 .skip)
def C.slices_pdqsortCmpFunc_api_Element_6 : ACode := .seq (.reg false [o 33 (.mv (.t 0)), o 34 (.mv (.t 1)), o 35 (.mv (.t 2)), o 36 (.mv (.t 4)), o 37 (.call
  F.slices_heapSortCmpFunc_api_Element [(.t 33), (.t 34), (.t 35), (.t 36)])]) .ret
def C.slices_pdqsortCmpFunc_api_Element_5 : ACode := .seq (.reg false [o 31 (.mv (.t 3)), o 32 (.bin .eql (.t 31) (.c (.int 0)))]) (.cond (.t 32)
  C.slices_pdqsortCmpFunc_api_Element_6 .skip)
def C.slices_pdqsortCmpFunc_api_Element_8 : ACode := .seq (.reg false [o 40 (.mv (.t 0)), o 41 (.mv (.t 1)), o 42 (.mv (.t 2)), o 43 (.mv (.t 4)), o 44 (.call
  F.slices_breakPatternsCmpFunc_api_Element [(.t 40), (.t 41), (.t 42), (.t 43)])]) (.reg false [o 45 (.mv (.t 3)), o 46 (.bin .sub (.t 45) (.c (.int 1))), o 3 (.mv (.t 46))])
def C.slices_pdqsortCmpFunc_api_Element_7 : ACode := .seq (.reg false [o 38 (.mv (.t 10)), o 39 (.not (.t 38))]) (.cond (.t 39) C.slices_pdqsortCmpFunc_api_Element_8 .skip)
def C.slices_pdqsortCmpFunc_api_Element_12 : ACode := .seq (.reg false [o 62 (.mv (.t 2)), o 63 (.bin .sub (.t 62) (.c (.int 1))), o 64 (.mv (.t 13)), o 65 (.mv (.t 1)), o 66 (.bin
  .sub (.t 64) (.t 65)), o 67 (.bin .sub (.t 63) (.t 66)), o 13 (.mv (.t 67))]) (.reg false [o 14 (.mv (.c (.int 1)))])
def C.slices_pdqsortCmpFunc_api_Element_11 : ACode := .seq (.reg false [o 57 (.mv (.t 0)), o 58 (.mv (.t 1)), o 59 (.mv (.t 2)), o 60 (.mv (.t 4)), o 61 (.call
  F.slices_reverseRangeCmpFunc_api_Element [(.t 57), (.t 58), (.t 59), (.t 60)])]) C.slices_pdqsortCmpFunc_api_Element_12
def C.slices_pdqsortCmpFunc_api_Element_10 : ACode := .seq (.reg false [o 55 (.mv (.t 14)), o 56 (.bin .eql (.t 55) (.c (.int 2)))]) (.cond (.t 56)
  C.slices_pdqsortCmpFunc_api_Element_11 .skip)
def C.slices_pdqsortCmpFunc_api_Element_14 : ACode := .seq (.reg false [o 76 (.mv (.t 0)), o 77 (.mv (.t 1)), o 78 (.mv (.t 2)), o 79 (.mv (.t 4)), o 80 (.call
  F.slices_partialInsertionSortCmpFunc_api_Element [(.t 76), (.t 77), (.t 78), (.t 79)])]) (.cond (.t 80) .ret .skip)
def C.slices_pdqsortCmpFunc_api_Element_13 : ACode := .seq (.reg false [o 68 (.mv (.t 10)), o 69 (.mv (.t 68)), og 70 69 true (.mv (.t 11)), o 71 (.pick (.t 69) (.t 70) (.c (.bool
  false))), o 72 (.mv (.t 71)), og 73 72 true (.mv (.t 14)), og 74 72 true (.bin .eql (.t 73) (.c (.int 1))), o 75 (.pick (.t 72) (.t 74) (.c (.bool false)))]) (.cond (.t 75)
  C.slices_pdqsortCmpFunc_api_Element_14 .skip)
def C.slices_pdqsortCmpFunc_api_Element_17 : ACode := .seq (.reg false [o 104 (.mv (.t 15)), o 1 (.mv (.t 104))]) (.exit 1)
def C.slices_pdqsortCmpFunc_api_Element_16 : ACode := .seq (.reg false [o 98 (.mv (.t 0)), o 99 (.mv (.t 1)), o 100 (.mv (.t 2)), o 101 (.mv (.t 13)), o 102 (.mv (.t 4)), o 103
  (.call F.slices_partitionEqualCmpFunc_api_Element [(.t 98), (.t 99), (.t 100), (.t 101), (.t 102)]), o 15 (.mv (.t 103))]) C.slices_pdqsortCmpFunc_api_Element_17
def C.slices_pdqsortCmpFunc_api_Element_15 : ACode := .seq (.reg true [o 81 (.mv (.t 1)), o 82 (.bin .gtr (.t 81) (.c (.int 0))), o 83 (.mv (.t 82)), og 84 83 true (.mv (.t 4)), og
  85 83 true (.mv (.t 0)), og 86 83 true (.mv (.t 1)), og 87 83 true (.bin .sub (.t 86) (.c (.int 1))), og 88 83 true (.ia 3 (.t 85) (.t 87)), og 89 83 true (.ld 3 (.t 88)), og 90
  83 true (.mv (.t 0)), og 91 83 true (.mv (.t 13)), og 92 83 true (.ia 3 (.t 90) (.t 91)), og 93 83 true (.ld 3 (.t 92)), og 94 83 true (.callv (.t 84) [(.t 89), (.t 93)]), og 95
  83 true (.bin .lss (.t 94) (.c (.int 0))), og 96 83 true (.not (.t 95)), o 97 (.pick (.t 83) (.t 96) (.c (.bool false)))]) (.cond (.t 97) C.slices_pdqsortCmpFunc_api_Element_16
  .skip)
def C.slices_pdqsortCmpFunc_api_Element_24 : ACode := .seq (.reg false [o 129 (.mv (.t 0)), o 130 (.mv (.t 1)), o 131 (.mv (.t 16)), o 132 (.mv (.t 3)), o 133 (.mv (.t 4)), o 134
  (.call F.slices_pdqsortCmpFunc_api_Element [(.t 129), (.t 130), (.t 131), (.t 132), (.t 133)])]) (.reg false [o 135 (.mv (.t 16)), o 136 (.bin .add (.t 135) (.c (.int 1))), o 1
  (.mv (.t 136))])
def C.slices_pdqsortCmpFunc_api_Element_23 : ACode := .seq (.reg false [o 126 (.mv (.t 18)), o 127 (.mv (.t 20)), o 128 (.bin .geq (.t 126) (.t 127)), o 10 (.mv (.t 128))])
  C.slices_pdqsortCmpFunc_api_Element_24
def C.slices_pdqsortCmpFunc_api_Element_26 : ACode := .seq (.reg false [o 140 (.mv (.t 0)), o 141 (.mv (.t 16)), o 142 (.bin .add (.t 141) (.c (.int 1))), o 143 (.mv (.t 2)), o 144
  (.mv (.t 3)), o 145 (.mv (.t 4)), o 146 (.call F.slices_pdqsortCmpFunc_api_Element [(.t 140), (.t 142), (.t 143), (.t 144), (.t 145)])]) (.reg false [o 147 (.mv (.t 16)), o 2
  (.mv (.t 147))])
def C.slices_pdqsortCmpFunc_api_Element_25 : ACode := .seq (.reg false [o 137 (.mv (.t 19)), o 138 (.mv (.t 20)), o 139 (.bin .geq (.t 137) (.t 138)), o 10 (.mv (.t 139))])
  C.slices_pdqsortCmpFunc_api_Element_26
def C.slices_pdqsortCmpFunc_api_Element_22 : ACode := .seq (.reg false [o 123 (.mv (.t 18)), o 124 (.mv (.t 19)), o 125 (.bin .lss (.t 123) (.t 124))]) (.cond (.t 125)
  C.slices_pdqsortCmpFunc_api_Element_23 C.slices_pdqsortCmpFunc_api_Element_25)
def C.slices_pdqsortCmpFunc_api_Element_21 : ACode := .seq (.reg false [o 121 (.mv (.t 12)), o 122 (.bin .quo (.t 121) (.c (.int 8))), o 20 (.mv (.t 122))])
  C.slices_pdqsortCmpFunc_api_Element_22
def C.slices_pdqsortCmpFunc_api_Element_20 : ACode := .seq (.reg false [o 115 (.mv (.t 16)), o 116 (.mv (.t 1)), o 117 (.bin .sub (.t 115) (.t 116)), o 118 (.mv (.t 2)), o 119 (.mv
  (.t 16)), o 120 (.bin .sub (.t 118) (.t 119)), o 18 (.mv (.t 117)), o 19 (.mv (.t 120))]) C.slices_pdqsortCmpFunc_api_Element_21
def C.slices_pdqsortCmpFunc_api_Element_19 : ACode := .seq (.reg false [o 114 (.mv (.t 17)), o 11 (.mv (.t 114))]) C.slices_pdqsortCmpFunc_api_Element_20
def C.slices_pdqsortCmpFunc_api_Element_18 : ACode := .seq (.reg false [o 106 (.mv (.t 0)), o 107 (.mv (.t 1)), o 108 (.mv (.t 2)), o 109 (.mv (.t 13)), o 110 (.mv (.t 4)), o 111
  (.call F.slices_partitionCmpFunc_api_Element [(.t 106), (.t 107), (.t 108), (.t 109), (.t 110)]), o 105 (.mv (.t 111)), o 112 (.ex (.t 105) 0), o 113 (.ex (.t 105) 1), o 16 (.mv
  (.t 112)), o 17 (.mv (.t 113))]) C.slices_pdqsortCmpFunc_api_Element_19
def C.slices_pdqsortCmpFunc_api_Element_9 : ACode := .seq (.reg false [o 48 (.mv (.t 0)), o 49 (.mv (.t 1)), o 50 (.mv (.t 2)), o 51 (.mv (.t 4)), o 52 (.call
  F.slices_choosePivotCmpFunc_api_Element [(.t 48), (.t 49), (.t 50), (.t 51)]), o 47 (.mv (.t 52)), o 53 (.ex (.t 47) 0), o 54 (.ex (.t 47) 1), o 13 (.mv (.t 53)), o 14 (.mv (.t
  54))]) (.seq C.slices_pdqsortCmpFunc_api_Element_10 (.seq C.slices_pdqsortCmpFunc_api_Element_13 (.seq C.slices_pdqsortCmpFunc_api_Element_15
  C.slices_pdqsortCmpFunc_api_Element_18)))
def C.slices_pdqsortCmpFunc_api_Element_2 : ACode := .seq (.reg false [o 21 (.mv (.t 2)), o 22 (.mv (.t 1)), o 23 (.bin .sub (.t 21) (.t 22)), o 12 (.mv (.t 23))]) (.seq
  C.slices_pdqsortCmpFunc_api_Element_3 (.seq C.slices_pdqsortCmpFunc_api_Element_5 (.seq C.slices_pdqsortCmpFunc_api_Element_7 C.slices_pdqsortCmpFunc_api_Element_9)))
def C.slices_pdqsortCmpFunc_api_Element_1 : ACode := .seq (.reg false [o 11 (.mv (.c (.bool true)))]) (.blk 0 (.loop (.blk 1 C.slices_pdqsortCmpFunc_api_Element_2)))
def C.slices_pdqsortCmpFunc_api_Element_0 : ACode := .seq (.reg false [o 10 (.mv (.c (.bool true)))]) C.slices_pdqsortCmpFunc_api_Element_1
def C.slices_pdqsortCmpFunc_api_Element : ACode := C.slices_pdqsortCmpFunc_api_Element_0
theorem C.slices_pdqsortCmpFunc_api_Element_eq : comp Tryz.prog (Tryz.f91.body.getD .skip) = some C.slices_pdqsortCmpFunc_api_Element := by kernel_rfl
theorem Bd.slices_pdqsortCmpFunc_api_Element : Body Tryz.prog F.slices_pdqsortCmpFunc_api_Element C.slices_pdqsortCmpFunc_api_Element [] 148 := ⟨⟨_, _, Tryz.func91, by kernel_rfl, C.slices_pdqsortCmpFunc_api_Element_eq, by kernel_rfl, by kernel_rfl⟩, Tryz.call91, by kernel_rfl⟩
def C.math_bits_Len_1 : ACode := .seq (.reg false [o 3 (.mv (.t 0)), o 4 (.conv .u32 (.t 3)), o 5 (.call F.math_bits_Len32 [(.t 4)]), o 2 (.mv (.t 5))]) .ret
def C.math_bits_Len_2 : ACode := .seq (.reg false [o 6 (.mv (.t 0)), o 7 (.call F.math_bits_Len64 [(.t 6)]), o 2 (.mv (.t 7))]) .ret
def C.math_bits_Len_0 : ACode := .seq (.reg false [o 2 (.mv (.c (.int 0)))]) (.seq (.cond (.c (.bool false)) C.math_bits_Len_1 .skip) C.math_bits_Len_2)
def C.math_bits_Len : ACode := C.math_bits_Len_0
theorem C.math_bits_Len_eq : comp Tryz.prog (Tryz.f92.body.getD .skip) = some C.math_bits_Len := by kernel_rfl
theorem Bd.math_bits_Len : Body Tryz.prog F.math_bits_Len C.math_bits_Len [.slot 2] 8 := ⟨⟨_, _, Tryz.func92, by kernel_rfl, C.math_bits_Len_eq, by kernel_rfl, by kernel_rfl⟩, Tryz.call92, by kernel_rfl⟩
def C.r02_reserved_1 : ACode := .seq (.reg false [o 1 (.ms Y.string 0 (.lit (.string (bs []))) 43 [(0, (.c (.lit (.string (bs [112, 114, 111, 116, 111, 99, 111, 108]))))), (1, (.c
  (.lit (.string (bs [116, 111, 112, 111, 108, 111, 103, 121]))))), (2, (.c (.lit (.string (bs [115, 116, 97, 116, 101, 115]))))), (3, (.c (.lit (.string (bs [109, 101, 115, 115,
  97, 103, 101, 115]))))), (4, (.c (.lit (.string (bs [118, 97, 108, 117, 101, 115]))))), (5, (.c (.lit (.string (bs [102, 97, 117, 108, 116, 115]))))), (6, (.c (.lit (.string (bs
  [114, 101, 115, 105, 108, 105, 101, 110, 99, 101]))))), (7, (.c (.lit (.string (bs [105, 110, 105, 116, 105, 97, 108]))))), (8, (.c (.lit (.string (bs [108, 101, 97, 100, 101,
  114]))))), (9, (.c (.lit (.string (bs [114, 117, 108, 101]))))), (10, (.c (.lit (.string (bs [108, 111, 99, 97, 108]))))), (11, (.c (.lit (.string (bs [112, 97, 105, 114]))))),
  (12, (.c (.lit (.string (bs [98, 114, 111, 97, 100, 99, 97, 115, 116]))))), (13, (.c (.lit (.string (bs [110, 101, 105, 103, 104, 98, 111, 114]))))), (14, (.c (.lit (.string (bs
  [112, 97, 115, 115]))))), (15, (.c (.lit (.string (bs [119, 104, 101, 110]))))), (16, (.c (.lit (.string (bs [101, 120, 105, 115, 116, 115]))))), (17, (.c (.lit (.string (bs
  [102, 111, 114, 97, 108, 108]))))), (18, (.c (.lit (.string (bs [114, 101, 97, 100]))))), (19, (.c (.lit (.string (bs [119, 114, 105, 116, 101]))))), (20, (.c (.lit (.string (bs
  [115, 101, 110, 100]))))), (21, (.c (.lit (.string (bs [97, 108, 108]))))), (22, (.c (.lit (.string (bs [97, 116]))))), (23, (.c (.lit (.string (bs [102, 105, 114, 115,
  116]))))), (24, (.c (.lit (.string (bs [108, 97, 115, 116]))))), (25, (.c (.lit (.string (bs [108, 101, 102, 116]))))), (26, (.c (.lit (.string (bs [114, 105, 103, 104,
  116]))))), (27, (.c (.lit (.string (bs [112, 97, 114, 101, 110, 116]))))), (28, (.c (.lit (.string (bs [99, 104, 105, 108, 100]))))), (29, (.c (.lit (.string (bs [112, 114, 111,
  112, 101, 114, 116, 121]))))), (30, (.c (.lit (.string (bs [110, 101, 118, 101, 114]))))), (31, (.c (.lit (.string (bs [101, 118, 101, 110, 116, 117, 97, 108, 108, 121]))))),
  (32, (.c (.lit (.string (bs [115, 116, 97, 114, 116]))))), (33, (.c (.lit (.string (bs [99, 111, 117, 110, 116]))))), (34, (.c (.lit (.string (bs [97, 100, 106, 97, 99, 101, 110,
  116]))))), (35, (.c (.lit (.string (bs [103, 111, 97, 108]))))), (36, (.c (.lit (.string (bs [99, 108, 105, 113, 117, 101]))))), (37, (.c (.lit (.string (bs [108, 105, 110,
  101]))))), (38, (.c (.lit (.string (bs [114, 105, 110, 103]))))), (39, (.c (.lit (.string (bs [116, 114, 101, 101]))))), (40, (.c (.lit (.string (bs [99, 114, 97, 115, 104]))))),
  (41, (.c (.lit (.string (bs [111, 109, 105, 115, 115, 105, 111, 110]))))), (42, (.c (.lit (.string (bs [97, 114, 98, 105, 116, 114, 97, 114, 121])))))]), o 0 (.mv (.t 1))]) .ret
def C.r02_reserved_0 : ACode := .seq (.reg false [o 0 (.mv (.c .nil))]) C.r02_reserved_1
def C.r02_reserved : ACode := C.r02_reserved_0
theorem C.r02_reserved_eq : comp Tryz.prog (Tryz.f93.body.getD .skip) = some C.r02_reserved := by kernel_rfl
theorem Bd.r02_reserved : Body Tryz.prog F.r02_reserved C.r02_reserved [.slot 0] 2 := ⟨⟨_, _, Tryz.func93, by kernel_rfl, C.r02_reserved_eq, by kernel_rfl, by kernel_rfl⟩, Tryz.call93, by kernel_rfl⟩
def C.r02_unused_3 : ACode := .seq (.reg false [o 4 (.mv (.c (.bool true)))]) .ret
def C.r02_unused_2 : ACode := .seq (.reg false [o 25 (.mv (.t 5)), o 26 (.not (.t 25)), o 27 (.mv (.t 26)), og 28 27 true (.fa 7 0 (.t 3)), og 29 27 true (.ld 0 (.t 28)), og 30 27
  true (.len false (.t 29)), og 31 27 true (.bin .gtr (.t 30) (.c (.int 0))), og 32 27 true (.mv (.t 31)), og 33 32 false (.fa 8 0 (.t 3)), og 34 32 false (.ld 0 (.t 33)), og 35 32
  false (.len false (.t 34)), og 36 32 false (.bin .gtr (.t 35) (.c (.int 0))), og 37 27 true (.pick (.t 32) (.c (.bool true)) (.t 36)), og 38 27 true (.mv (.t 37)), og 39 38 false
  (.fa 9 0 (.t 3)), og 40 38 false (.ld 0 (.t 39)), og 41 38 false (.len false (.t 40)), og 42 38 false (.bin .gtr (.t 41) (.c (.int 0))), og 43 27 true (.pick (.t 38) (.c (.bool
  true)) (.t 42)), og 44 27 true (.mv (.t 43)), og 45 44 false (.fa 12 0 (.t 3)), og 46 44 false (.ld 0 (.t 45)), og 47 44 false (.len false (.t 46)), og 48 44 false (.bin .gtr (.t
  47) (.c (.int 0))), og 49 27 true (.pick (.t 44) (.c (.bool true)) (.t 48)), o 50 (.pick (.t 27) (.t 49) (.c (.bool false)))]) (.cond (.t 50) C.r02_unused_3 .skip)
def C.r02_unused_5 : ACode := .seq (.reg false [o 4 (.mv (.c (.bool true)))]) .ret
def C.r02_unused_4 : ACode := .seq (.reg false [o 51 (.mv (.t 5)), o 52 (.not (.t 51)), o 53 (.mv (.t 52)), og 54 53 true (.mv (.t 6)), og 55 53 true (.not (.t 54)), o 56 (.pick
  (.t 53) (.t 55) (.c (.bool false))), o 57 (.mv (.t 56)), og 58 57 true (.mv (.t 7)), og 59 57 true (.not (.t 58)), o 60 (.pick (.t 57) (.t 59) (.c (.bool false))), o 61 (.mv (.t
  60)), og 62 61 true (.fa 10 0 (.t 3)), og 63 61 true (.ld 0 (.t 62)), og 64 61 true (.bin .neq (.t 63) (.c (.int (-1)))), og 65 61 true (.mv (.t 64)), og 66 65 false (.fa 11 0
  (.t 3)), og 67 65 false (.ld 0 (.t 66)), og 68 65 false (.bin .neq (.t 67) (.c (.int (-1)))), og 69 61 true (.pick (.t 65) (.c (.bool true)) (.t 68)), o 70 (.pick (.t 61) (.t 69)
  (.c (.bool false)))]) (.cond (.t 70) C.r02_unused_5 .skip)
def C.r02_unused_7 : ACode := .seq (.reg false [o 4 (.mv (.c (.bool true)))]) .ret
def C.r02_unused_6 : ACode := .seq (.reg false [o 71 (.mv (.t 6)), o 72 (.not (.t 71)), o 73 (.mv (.t 72)), og 74 73 true (.mv (.t 9)), og 75 73 true (.not (.t 74)), o 76 (.pick
  (.t 73) (.t 75) (.c (.bool false))), o 77 (.mv (.t 76)), og 78 77 true (.fa 4 0 (.t 3)), og 79 77 true (.ld 0 (.t 78)), og 80 77 true (.bin .neq (.t 79) (.c (.int 0))), og 81 77
  true (.mv (.t 80)), og 82 81 false (.fa 5 0 (.t 3)), og 83 81 false (.ld 0 (.t 82)), og 84 81 false (.bin .neq (.t 83) (.c (.int 0))), og 85 77 true (.pick (.t 81) (.c (.bool
  true)) (.t 84)), o 86 (.pick (.t 77) (.t 85) (.c (.bool false)))]) (.cond (.t 86) C.r02_unused_7 .skip)
def C.r02_unused_9 : ACode := .seq (.reg false [o 4 (.mv (.c (.bool true)))]) .ret
def C.r02_unused_8 : ACode := .seq (.reg false [o 87 (.mv (.t 7)), o 88 (.not (.t 87)), o 89 (.mv (.t 88)), og 90 89 true (.fa 6 0 (.t 3)), og 91 89 true (.ld 0 (.t 90)), og 92 89
  true (.len false (.t 91)), og 93 89 true (.bin .gtr (.t 92) (.c (.int 0))), o 94 (.pick (.t 89) (.t 93) (.c (.bool false))), o 95 (.mv (.t 94)), og 96 95 false (.mv (.t 9)), og
  97 95 false (.not (.t 96)), og 98 95 false (.mv (.t 97)), og 99 98 true (.fa 17 0 (.t 3)), og 100 98 true (.ld 0 (.t 99)), og 101 98 true (.bin .neq (.t 100) (.c (.int 0))), og
  102 95 false (.pick (.t 98) (.t 101) (.c (.bool false))), o 103 (.pick (.t 95) (.c (.bool true)) (.t 102))]) (.cond (.t 103) C.r02_unused_9 .skip)
def C.r02_unused_11 : ACode := .seq (.reg false [o 4 (.mv (.c (.bool true)))]) .ret
def C.r02_unused_10 : ACode := .seq (.reg false [o 104 (.mv (.t 8)), o 105 (.not (.t 104)), o 106 (.mv (.t 105)), og 107 106 true (.fa 13 0 (.t 3)), og 108 106 true (.ld 0 (.t
  107)), og 109 106 true (.bin .neq (.t 108) (.c (.int 0))), og 110 106 true (.mv (.t 109)), og 111 110 false (.fa 14 0 (.t 3)), og 112 110 false (.ld 0 (.t 111)), og 113 110 false
  (.len false (.t 112)), og 114 110 false (.bin .gtr (.t 113) (.c (.int 0))), og 115 106 true (.pick (.t 110) (.c (.bool true)) (.t 114)), og 116 106 true (.mv (.t 115)), og 117
  116 false (.fa 15 0 (.t 3)), og 118 116 false (.ld 0 (.t 117)), og 119 116 false (.len false (.t 118)), og 120 116 false (.bin .gtr (.t 119) (.c (.int 0))), og 121 106 true
  (.pick (.t 116) (.c (.bool true)) (.t 120)), o 122 (.pick (.t 106) (.t 121) (.c (.bool false)))]) (.cond (.t 122) C.r02_unused_11 .skip)
def C.r02_unused_12 : ACode := .seq (.reg false [o 123 (.fa 16 0 (.t 3)), o 124 (.ld 0 (.t 123)), o 125 (.len false (.t 124)), o 126 (.bin .gtr (.t 125) (.c (.int 0))), o 127 (.mv
  (.t 126)), og 128 127 true (.mv (.t 8)), og 129 127 true (.mv (.t 128)), og 130 129 true (.fa 1 0 (.t 2)), og 131 129 true (.ld 0 (.t 130)), og 132 129 true (.bin .eql (.t 131)
  (.c (.int 4))), og 133 127 true (.pick (.t 129) (.t 132) (.c (.bool false))), og 134 127 true (.not (.t 133)), o 135 (.pick (.t 127) (.t 134) (.c (.bool false))), o 4 (.mv (.t
  135))]) .ret
def C.r02_unused_1 : ACode := .seq (.reg true [o 10 (.fa 1 0 (.t 3)), o 11 (.ld 0 (.t 10)), o 12 (.bin .eql (.t 11) (.c (.int 1))), o 13 (.fa 1 0 (.t 3)), o 14 (.ld 0 (.t 13)), o
  15 (.bin .eql (.t 14) (.c (.int 2))), o 16 (.fa 1 0 (.t 3)), o 17 (.ld 0 (.t 16)), o 18 (.bin .eql (.t 17) (.c (.int 3))), o 19 (.fa 1 0 (.t 3)), o 20 (.ld 0 (.t 19)), o 21 (.bin
  .eql (.t 20) (.c (.int 4))), o 22 (.fa 1 0 (.t 3)), o 23 (.ld 0 (.t 22)), o 24 (.bin .eql (.t 23) (.c (.int 5))), o 5 (.mv (.t 12)), o 6 (.mv (.t 15)), o 7 (.mv (.t 18)), o 8
  (.mv (.t 21)), o 9 (.mv (.t 24))]) (.seq C.r02_unused_2 (.seq C.r02_unused_4 (.seq C.r02_unused_6 (.seq C.r02_unused_8 (.seq C.r02_unused_10 C.r02_unused_12)))))
def C.r02_unused_0 : ACode := .seq (.reg false [o 2 (.box Y.api_Protocol 11 (.t 0)), o 3 (.box Y.api_Rule 19 (.t 1)), o 4 (.mv (.c (.bool false)))]) C.r02_unused_1
def C.r02_unused : ACode := C.r02_unused_0
theorem C.r02_unused_eq : comp Tryz.prog (Tryz.f94.body.getD .skip) = some C.r02_unused := by kernel_rfl
theorem Bd.r02_unused : Body Tryz.prog F.r02_unused C.r02_unused [.slot 4] 136 := ⟨⟨_, _, Tryz.func94, by kernel_rfl, C.r02_unused_eq, by kernel_rfl, by kernel_rfl⟩, Tryz.call94, by kernel_rfl⟩
def C.r02_ThresholdIndex_2 : ACode := .seq (.reg false [o 6 (.mv (.t 5)), o 7 (.mv (.t 0)), o 8 (.len false (.t 7)), o 9 (.bin .lss (.t 6) (.t 8))]) (.cond (.t 9) .skip (.exit 0))
def C.r02_ThresholdIndex_4 : ACode := .seq (.reg false [o 18 (.mv (.t 5)), o 4 (.mv (.t 18))]) .ret
def C.r02_ThresholdIndex_3 : ACode := .seq (.reg true [o 12 (.mv (.t 0)), o 13 (.mv (.t 5)), o 14 (.ia 7 (.t 12) (.t 13)), o 15 (.ld 7 (.t 14)), o 16 (.ld 7 (.t 3)), o 17 (.call
  F.r02_SameThreshold [(.t 15), (.t 16)])]) (.cond (.t 17) C.r02_ThresholdIndex_4 .skip)
def C.r02_ThresholdIndex_1 : ACode := .seq (.reg false [o 5 (.mv (.c (.int 0)))]) (.blk 0 (.loop (.seq C.r02_ThresholdIndex_2 (.seq (.blk 1 C.r02_ThresholdIndex_3) (.reg false [o
  10 (.mv (.t 5)), o 11 (.bin .add (.t 10) (.c (.int 1))), o 5 (.mv (.t 11))])))))
def C.r02_ThresholdIndex_5 : ACode := .seq (.reg false [o 4 (.mv (.c (.int (-1))))]) .ret
def C.r02_ThresholdIndex_0 : ACode := .seq (.reg false [o 3 (.box Y.api_Threshold 7 (.t 1)), o 4 (.mv (.c (.int 0)))]) (.seq C.r02_ThresholdIndex_1 C.r02_ThresholdIndex_5)
def C.r02_ThresholdIndex : ACode := C.r02_ThresholdIndex_0
theorem C.r02_ThresholdIndex_eq : comp Tryz.prog (Tryz.f95.body.getD .skip) = some C.r02_ThresholdIndex := by kernel_rfl
theorem Bd.r02_ThresholdIndex : Body Tryz.prog F.r02_ThresholdIndex C.r02_ThresholdIndex [.slot 4] 19 := ⟨⟨_, _, Tryz.func95, by kernel_rfl, C.r02_ThresholdIndex_eq, by kernel_rfl, by kernel_rfl⟩, Tryz.call95, by kernel_rfl⟩
def C.slices_SortStableFunc_Lapi_Element_api_Element : ACode := (.reg false [o 4 (.mv (.t 0)), o 5 (.mv (.t 0)), o 6 (.len false (.t 5)), o 7 (.mv (.t 1)), o 8 (.call
  F.slices_stableCmpFunc_api_Element [(.t 4), (.t 6), (.t 7)])])
theorem C.slices_SortStableFunc_Lapi_Element_api_Element_eq : comp Tryz.prog (Tryz.f96.body.getD .skip) = some C.slices_SortStableFunc_Lapi_Element_api_Element := by kernel_rfl
theorem Bd.slices_SortStableFunc_Lapi_Element_api_Element : Body Tryz.prog F.slices_SortStableFunc_Lapi_Element_api_Element C.slices_SortStableFunc_Lapi_Element_api_Element [] 9 := ⟨⟨_, _, Tryz.func96, by kernel_rfl, C.slices_SortStableFunc_Lapi_Element_api_Element_eq, by kernel_rfl, by kernel_rfl⟩, Tryz.call96, by kernel_rfl⟩
def C.cover_minimalOf_c1_1 : ACode := .seq (.reg true [o 5 (.ld 3 (.t 2)), o 7 (.ld 3 (.t 3)), o 6 (.call F.cover_Total [(.t 5)]), o 8 (.call F.cover_Total [(.t 7)]), o 9 (.bin
  .sub (.t 6) (.t 8)), o 4 (.mv (.t 9))]) .ret
def C.cover_minimalOf_c1_0 : ACode := .seq (.reg false [o 2 (.box Y.api_Element 3 (.t 0)), o 3 (.box Y.api_Element 3 (.t 1)), o 4 (.mv (.c (.int 0)))]) C.cover_minimalOf_c1_1
def C.cover_minimalOf_c1 : ACode := C.cover_minimalOf_c1_0
theorem C.cover_minimalOf_c1_eq : comp Tryz.prog (Tryz.f97.body.getD .skip) = some C.cover_minimalOf_c1 := by kernel_rfl
theorem Bd.cover_minimalOf_c1 : Body Tryz.prog F.cover_minimalOf_c1 C.cover_minimalOf_c1 [.slot 4] 10 := ⟨⟨_, _, Tryz.func97, by kernel_rfl, C.cover_minimalOf_c1_eq, by kernel_rfl, by kernel_rfl⟩, Tryz.call97, by kernel_rfl⟩
def C.slices_Clone_Lint_int_2 : ACode := .seq (.reg false [o 2 (.mv (.c .nil))]) .ret
def C.slices_Clone_Lint_int_1 : ACode := .seq (.reg false [o 3 (.mv (.t 0)), o 4 (.isnil (.t 3))]) (.cond (.t 4) C.slices_Clone_Lint_int_2 .skip)
def C.slices_Clone_Lint_int_3 : ACode := .seq (.reg false [o 5 (.ms Y.int 0 (.int 0) 0 []), o 6 (.mv (.t 0)), o 7 (.app Y.int 0 8 (.t 5) (.t 6)), o 2 (.mv (.t 7))]) .ret
def C.slices_Clone_Lint_int_0 : ACode := .seq (.reg false [o 2 (.mv (.c .nil))]) (.seq C.slices_Clone_Lint_int_1 C.slices_Clone_Lint_int_3)
def C.slices_Clone_Lint_int : ACode := C.slices_Clone_Lint_int_0
theorem C.slices_Clone_Lint_int_eq : comp Tryz.prog (Tryz.f99.body.getD .skip) = some C.slices_Clone_Lint_int := by kernel_rfl
theorem Bd.slices_Clone_Lint_int : Body Tryz.prog F.slices_Clone_Lint_int C.slices_Clone_Lint_int [.slot 2] 8 := ⟨⟨_, _, Tryz.func99, by kernel_rfl, C.slices_Clone_Lint_int_eq, by kernel_rfl, by kernel_rfl⟩, Tryz.call99, by kernel_rfl⟩
def C.slices_Index_Lint_int_5 : ACode := .seq (.reg false [o 17 (.mv (.t 5)), o 4 (.mv (.t 17))]) .ret
def C.slices_Index_Lint_int_4 : ACode := .seq (.reg false [o 11 (.mv (.t 1)), o 12 (.mv (.t 0)), o 13 (.mv (.t 5)), o 14 (.ia 0 (.t 12) (.t 13)), o 15 (.ld 0 (.t 14)), o 16 (.bin
  .eql (.t 11) (.t 15))]) (.cond (.t 16) C.slices_Index_Lint_int_5 .skip)
def C.slices_Index_Lint_int_3 : ACode := .seq (.reg false [o 10 (.mv (.t 8)), o 5 (.mv (.t 10))]) C.slices_Index_Lint_int_4
def C.slices_Index_Lint_int_2 : ACode := .seq (.reg false [o 9 (.bin .lss (.t 8) (.t 7))]) (.seq (.cond (.t 9) .skip (.exit 0)) (.seq (.blk 1 C.slices_Index_Lint_int_3) (.reg false
  [o 18 (.bin .add (.t 8) (.c (.int 1))), o 8 (.mv (.t 18))])))
def C.slices_Index_Lint_int_1 : ACode := .seq (.reg false [o 6 (.mv (.t 0)), o 7 (.len false (.t 6)), o 8 (.mv (.c (.int 0)))]) (.blk 0 (.loop C.slices_Index_Lint_int_2))
def C.slices_Index_Lint_int_6 : ACode := .seq (.reg false [o 4 (.mv (.c (.int (-1))))]) .ret
def C.slices_Index_Lint_int_0 : ACode := .seq (.reg false [o 4 (.mv (.c (.int 0)))]) (.seq C.slices_Index_Lint_int_1 C.slices_Index_Lint_int_6)
def C.slices_Index_Lint_int : ACode := C.slices_Index_Lint_int_0
theorem C.slices_Index_Lint_int_eq : comp Tryz.prog (Tryz.f100.body.getD .skip) = some C.slices_Index_Lint_int := by kernel_rfl
theorem Bd.slices_Index_Lint_int : Body Tryz.prog F.slices_Index_Lint_int C.slices_Index_Lint_int [.slot 4] 19 := ⟨⟨_, _, Tryz.func100, by kernel_rfl, C.slices_Index_Lint_int_eq, by kernel_rfl, by kernel_rfl⟩, Tryz.call100, by kernel_rfl⟩
def C.protocol_names_6 : ACode := .seq (.reg false [o 2 (.mv (.c (.int 2)))]) .ret
def C.protocol_names_5 : ACode := .seq (.reg false [o 21 (.mv (.t 5)), o 22 (.call F.protocol_ValidName [(.t 21)]), o 23 (.not (.t 22)), o 24 (.mv (.t 23)), og 25 24 false (.mv (.t
  3)), og 26 24 false (.mv (.t 4)), og 27 24 false (.slx 0 (.t 25) none (some (.t 26)) none), og 28 24 false (.mv (.t 5)), og 29 24 false (.call F.slices_Contains_Lstring_string
  [(.t 27), (.t 28)]), o 30 (.pick (.t 24) (.c (.bool true)) (.t 29))]) (.cond (.t 30) C.protocol_names_6 .skip)
def C.protocol_names_4 : ACode := .seq (.reg false [o 18 (.mv (.t 16)), o 19 (.ia 0 (.t 14) (.t 16)), o 20 (.ld 0 (.t 19)), o 4 (.mv (.t 18)), o 5 (.mv (.t 20))])
  C.protocol_names_5
def C.protocol_names_3 : ACode := .seq (.reg false [o 17 (.bin .lss (.t 16) (.t 15))]) (.seq (.cond (.t 17) .skip (.exit 0)) (.seq (.blk 1 C.protocol_names_4) (.reg false [o 31
  (.bin .add (.t 16) (.c (.int 1))), o 16 (.mv (.t 31))])))
def C.protocol_names_2 : ACode := .seq (.reg false [o 14 (.mv (.t 3)), o 15 (.len false (.t 14)), o 16 (.mv (.c (.int 0)))]) (.blk 0 (.loop C.protocol_names_3))
def C.protocol_names_7 : ACode := .seq (.reg false [o 2 (.mv (.c (.int 0)))]) .ret
def C.protocol_names_1 : ACode := .seq (.reg false [o 6 (.fa 2 0 (.t 1)), o 7 (.ld 0 (.t 6)), o 8 (.fa 3 0 (.t 1)), o 9 (.ld 0 (.t 8)), o 10 (.fa 4 0 (.t 1)), o 11 (.ld 0 (.t 10)),
  o 12 (.mso Y.Lstring 0 .nil 3 [(0, (.t 7)), (1, (.t 9)), (2, (.t 11))]), o 13 (.call F.slices_Concat_Lstring_string [(.t 12)]), o 3 (.mv (.t 13))]) (.seq C.protocol_names_2
  C.protocol_names_7)
def C.protocol_names_0 : ACode := .seq (.reg false [o 1 (.box Y.api_Protocol 11 (.t 0)), o 2 (.mv (.c (.int 0)))]) C.protocol_names_1
def C.protocol_names : ACode := C.protocol_names_0
theorem C.protocol_names_eq : comp Tryz.prog (Tryz.f102.body.getD .skip) = some C.protocol_names := by kernel_rfl
theorem Bd.protocol_names : Body Tryz.prog F.protocol_names C.protocol_names [.slot 2] 32 := ⟨⟨_, _, Tryz.func102, by kernel_rfl, C.protocol_names_eq, by kernel_rfl, by kernel_rfl⟩, Tryz.call102, by kernel_rfl⟩
def C.protocol_bounded_1 : ACode := .seq (.reg false [o 3 (.fa 0 0 (.t 1)), o 4 (.ld 0 (.t 3)), o 5 (.call F.protocol_factor [(.t 4)]), o 6 (.mv (.t 5)), og 7 6 true (.fa 1 0 (.t
  1)), og 8 6 true (.ld 0 (.t 7)), og 9 6 true (.call F.protocol_factor [(.t 8)]), o 10 (.pick (.t 6) (.t 9) (.c (.bool false))), o 11 (.mv (.t 10)), og 12 11 true (.fa 2 0 (.t
  1)), og 13 11 true (.ld 0 (.t 12)), og 14 11 true (.call F.protocol_factor [(.t 13)]), o 15 (.pick (.t 11) (.t 14) (.c (.bool false))), o 16 (.mv (.t 15)), og 17 16 true (.fa 3 0
  (.t 1)), og 18 16 true (.ld 0 (.t 17)), og 19 16 true (.call F.protocol_factor [(.t 18)]), o 20 (.pick (.t 16) (.t 19) (.c (.bool false))), o 2 (.mv (.t 20))]) .ret
def C.protocol_bounded_0 : ACode := .seq (.reg false [o 1 (.box Y.api_Linear 5 (.t 0)), o 2 (.mv (.c (.bool false)))]) C.protocol_bounded_1
def C.protocol_bounded : ACode := C.protocol_bounded_0
theorem C.protocol_bounded_eq : comp Tryz.prog (Tryz.f103.body.getD .skip) = some C.protocol_bounded := by kernel_rfl
theorem Bd.protocol_bounded : Body Tryz.prog F.protocol_bounded C.protocol_bounded [.slot 2] 21 := ⟨⟨_, _, Tryz.func103, by kernel_rfl, C.protocol_bounded_eq, by kernel_rfl, by kernel_rfl⟩, Tryz.call103, by kernel_rfl⟩
def C.protocol_ruleError_5 : ACode := .seq (.reg false [o 4 (.mv (.c (.int 2)))]) .ret
def C.protocol_ruleError_7 : ACode := .seq (.reg false [o 4 (.mv (.c (.int 6)))]) .ret
def C.protocol_ruleError_6 : ACode := .seq (.reg false [o 35 (.fa 1 0 (.t 5)), o 36 (.ld 0 (.t 35)), o 37 (.fa 1 0 (.t 2)), o 38 (.ld 0 (.t 37)), o 39 (.call F.protocol_fits [(.t
  36), (.t 38)]), o 40 (.not (.t 39)), o 41 (.mv (.t 40)), og 42 41 false (.ld 19 (.t 5)), og 43 41 false (.fa 1 0 (.t 2)), og 44 41 false (.ld 0 (.t 43)), og 45 41 false (.call
  F.protocol_surplus [(.t 42), (.t 44)]), o 46 (.pick (.t 41) (.c (.bool true)) (.t 45)), o 34 (.mv (.t 46))]) (.cond (.t 34) C.protocol_ruleError_7 .skip)
def C.protocol_ruleError_4 : ACode := .seq (.reg false [o 27 (.fa 0 0 (.t 5)), o 28 (.ld 0 (.t 27)), o 29 (.call F.protocol_ValidName [(.t 28)]), o 30 (.not (.t 29)), o 31 (.mv (.t
  30)), og 32 31 false (.mv (.t 7)), o 33 (.pick (.t 31) (.c (.bool true)) (.t 32)), o 26 (.mv (.t 33))]) (.cond (.t 26) C.protocol_ruleError_5 C.protocol_ruleError_6)
def C.protocol_ruleError_10 : ACode := .seq (.reg false [o 59 (.mv (.t 8)), o 4 (.mv (.t 59))]) .ret
def C.protocol_ruleError_9 : ACode := .seq (.reg false [o 57 (.mv (.t 8)), o 58 (.bin .neq (.t 57) (.c (.int 0)))]) (.cond (.t 58) C.protocol_ruleError_10 .skip)
def C.protocol_ruleError_8 : ACode := .seq (.reg true [o 47 (.fa 2 0 (.t 5)), o 48 (.ld 0 (.t 47)), o 49 (.mv (.t 6)), o 51 (.fa 3 0 (.t 5)), o 52 (.ld 0 (.t 51)), o 53 (.mv (.t
  6)), o 50 (.call F.protocol_index [(.t 48), (.t 49)]), o 54 (.call F.protocol_index [(.t 52), (.t 53)]), o 55 (.ms Y.api_Errno 0 (.int 0) 2 [(0, (.t 50)), (1, (.t 54))]), o 56
  (.call F.protocol_first [(.t 55)]), o 8 (.mv (.t 56))]) C.protocol_ruleError_9
def C.protocol_ruleError_13 : ACode := .seq (.reg true [o 64 (.ld 11 (.t 2)), o 65 (.fa 7 0 (.t 5)), o 66 (.ld 0 (.t 65)), o 68 (.fa 8 0 (.t 5)), o 69 (.ld 0 (.t 68)), o 70 (.mv
  (.t 6)), o 72 (.fa 9 0 (.t 5)), o 73 (.ld 0 (.t 72)), o 74 (.mv (.t 6)), o 76 (.ld 11 (.t 2)), o 77 (.fa 10 0 (.t 5)), o 78 (.ld 0 (.t 77)), o 80 (.ld 11 (.t 2)), o 81 (.fa 11 0
  (.t 5)), o 82 (.ld 0 (.t 81)), o 84 (.fa 12 0 (.t 5)), o 85 (.ld 0 (.t 84)), o 86 (.fa 3 0 (.t 2)), o 87 (.ld 0 (.t 86)), o 88 (.len false (.t 87)), o 67 (.call F.protocol_guards
  [(.t 64), (.t 66)]), o 71 (.call F.protocol_set [(.t 69), (.t 70)]), o 75 (.call F.protocol_set [(.t 73), (.t 74)]), o 79 (.call F.protocol_value [(.t 76), (.t 78)]), o 83 (.call
  F.protocol_value [(.t 80), (.t 82)]), o 89 (.call F.protocol_set [(.t 85), (.t 88)]), o 90 (.ms Y.api_Errno 0 (.int 0) 6 [(0, (.t 67)), (1, (.t 71)), (2, (.t 75)), (3, (.t 79)),
  (4, (.t 83)), (5, (.t 89))]), o 91 (.call F.protocol_first [(.t 90)]), o 4 (.mv (.t 91))]) .ret
def C.protocol_ruleError_15 : ACode := .seq (.reg true [o 94 (.fa 4 0 (.t 5)), o 95 (.ld 0 (.t 94)), o 96 (.mv (.t 6)), o 98 (.fa 5 0 (.t 5)), o 99 (.ld 0 (.t 98)), o 100 (.mv (.t
  6)), o 102 (.ld 11 (.t 2)), o 103 (.fa 10 0 (.t 5)), o 104 (.ld 0 (.t 103)), o 106 (.ld 11 (.t 2)), o 107 (.fa 11 0 (.t 5)), o 108 (.ld 0 (.t 107)), o 97 (.call F.protocol_index
  [(.t 95), (.t 96)]), o 101 (.call F.protocol_index [(.t 99), (.t 100)]), o 105 (.call F.protocol_value [(.t 102), (.t 104)]), o 109 (.call F.protocol_value [(.t 106), (.t 108)]),
  o 110 (.ms Y.api_Errno 0 (.int 0) 4 [(0, (.t 97)), (1, (.t 101)), (2, (.t 105)), (3, (.t 109))]), o 111 (.call F.protocol_first [(.t 110)]), o 4 (.mv (.t 111))]) .ret
def C.protocol_ruleError_17 : ACode := .seq (.reg true [o 114 (.fa 6 0 (.t 5)), o 115 (.ld 0 (.t 114)), o 116 (.mv (.t 6)), o 118 (.ld 11 (.t 2)), o 119 (.fa 10 0 (.t 5)), o 120
  (.ld 0 (.t 119)), o 122 (.ld 11 (.t 2)), o 123 (.fa 11 0 (.t 5)), o 124 (.ld 0 (.t 123)), o 117 (.call F.protocol_responses [(.t 115), (.t 116)]), o 121 (.call F.protocol_value
  [(.t 118), (.t 120)]), o 125 (.call F.protocol_value [(.t 122), (.t 124)]), o 126 (.ms Y.api_Errno 0 (.int 0) 3 [(0, (.t 117)), (1, (.t 121)), (2, (.t 125))]), o 127 (.call
  F.protocol_first [(.t 126)]), o 4 (.mv (.t 127))]) .ret
def C.protocol_ruleError_20 : ACode := .seq (.reg true [o 148 (.fa 14 0 (.t 5)), o 149 (.ld 0 (.t 148)), o 150 (.mv (.t 6)), o 152 (.fa 15 0 (.t 5)), o 153 (.ld 0 (.t 152)), o 154
  (.mv (.t 6)), o 156 (.fa 16 0 (.t 5)), o 157 (.ld 0 (.t 156)), o 158 (.mv (.t 6)), o 160 (.mv (.t 9)), o 151 (.call F.protocol_set [(.t 149), (.t 150)]), o 155 (.call
  F.protocol_set [(.t 153), (.t 154)]), o 159 (.call F.protocol_set [(.t 157), (.t 158)]), o 161 (.call F.protocol_when [(.t 160), (.c (.int 1))]), o 162 (.ms Y.api_Errno 0 (.int
  0) 4 [(0, (.t 151)), (1, (.t 155)), (2, (.t 159)), (3, (.t 161))]), o 163 (.call F.protocol_first [(.t 162)]), o 4 (.mv (.t 163))]) .ret
def C.protocol_ruleError_19 : ACode := .seq (.reg false [o 130 (.fa 13 0 (.t 5)), o 131 (.ld 0 (.t 130)), o 132 (.bin .lss (.t 131) (.c (.int 0))), o 133 (.mv (.t 132)), og 134 133
  false (.fa 13 0 (.t 5)), og 135 133 false (.ld 0 (.t 134)), og 136 133 false (.bin .gtr (.t 135) (.c (.int 2))), o 137 (.pick (.t 133) (.c (.bool true)) (.t 136)), o 138 (.mv (.t
  137)), og 139 138 false (.fa 13 0 (.t 5)), og 140 138 false (.ld 0 (.t 139)), og 141 138 false (.bin .neq (.t 140) (.c (.int 0))), og 142 138 false (.mv (.t 141)), og 143 142
  true (.fa 1 0 (.t 2)), og 144 142 true (.ld 0 (.t 143)), og 145 142 true (.bin .eql (.t 144) (.c (.int 3))), og 146 138 false (.pick (.t 142) (.t 145) (.c (.bool false))), o 147
  (.pick (.t 138) (.c (.bool true)) (.t 146)), o 9 (.mv (.t 147))]) C.protocol_ruleError_20
def C.protocol_ruleError_18 : ACode := .seq (.reg false [o 129 (.bin .eql (.t 61) (.c (.int 4))), o 128 (.mv (.t 129))]) (.cond (.t 128) C.protocol_ruleError_19 .skip)
def C.protocol_ruleError_16 : ACode := .seq (.reg false [o 113 (.bin .eql (.t 61) (.c (.int 3))), o 112 (.mv (.t 113))]) (.cond (.t 112) C.protocol_ruleError_17
  C.protocol_ruleError_18)
def C.protocol_ruleError_14 : ACode := .seq (.reg false [o 93 (.bin .eql (.t 61) (.c (.int 2))), o 92 (.mv (.t 93))]) (.cond (.t 92) C.protocol_ruleError_15
  C.protocol_ruleError_16)
def C.protocol_ruleError_12 : ACode := .seq (.reg false [o 63 (.bin .eql (.t 61) (.c (.int 1))), o 62 (.mv (.t 63))]) (.cond (.t 62) C.protocol_ruleError_13
  C.protocol_ruleError_14)
def C.protocol_ruleError_11 : ACode := .seq (.reg false [o 60 (.fa 1 0 (.t 5)), o 61 (.ld 0 (.t 60))]) (.blk 1 C.protocol_ruleError_12)
def C.protocol_ruleError_22 : ACode := .seq (.reg false [o 164 (.fa 1 0 (.t 2)), o 165 (.ld 0 (.t 164)), o 166 (.bin .eql (.t 165) (.c (.int 4)))]) (.cond (.t 166) (.reg false [o
  10 (.mv (.c (.int 3))), o 11 (.mv (.c (.int 4)))]) .skip)
def C.protocol_ruleError_23 : ACode := .seq (.reg true [o 167 (.fa 4 0 (.t 5)), o 168 (.ld 0 (.t 167)), o 169 (.mv (.t 6)), o 171 (.fa 5 0 (.t 5)), o 172 (.ld 0 (.t 171)), o 173
  (.mv (.t 6)), o 175 (.fa 17 0 (.t 5)), o 176 (.ld 0 (.t 175)), o 177 (.mv (.t 10)), o 178 (.bin .lss (.t 176) (.t 177)), o 170 (.call F.protocol_index [(.t 168), (.t 169)]), o
  174 (.call F.protocol_index [(.t 172), (.t 173)]), o 179 (.mv (.t 178)), og 180 179 false (.fa 17 0 (.t 5)), og 181 179 false (.ld 0 (.t 180)), og 182 179 false (.mv (.t 11)), og
  183 179 false (.bin .gtr (.t 181) (.t 182)), o 184 (.pick (.t 179) (.c (.bool true)) (.t 183)), o 185 (.call F.protocol_when [(.t 184), (.c (.int 1))]), o 186 (.ms Y.api_Errno 0
  (.int 0) 3 [(0, (.t 170)), (1, (.t 174)), (2, (.t 185))]), o 187 (.call F.protocol_first [(.t 186)]), o 4 (.mv (.t 187))]) .ret
def C.protocol_ruleError_21 : ACode := .seq (.reg false [o 10 (.mv (.c (.int 1))), o 11 (.mv (.c (.int 2)))]) (.seq C.protocol_ruleError_22 C.protocol_ruleError_23)
def C.protocol_ruleError_3 : ACode := .seq (.reg false [o 20 (.fa 9 0 (.t 2)), o 21 (.ld 0 (.t 20)), o 22 (.mv (.t 1)), o 23 (.slx 19 (.t 21) none (some (.t 22)) none), o 24 (.mf
  F.protocol_ruleError_c1 [(.t 5)]), o 25 (.call F.slices_ContainsFunc_Lapi_Rule_api_Rule [(.t 23), (.t 24)]), o 7 (.mv (.t 25))]) (.seq (.blk 0 C.protocol_ruleError_4) (.seq
  C.protocol_ruleError_8 (.seq C.protocol_ruleError_11 C.protocol_ruleError_21)))
def C.protocol_ruleError_2 : ACode := .seq (.reg false [o 17 (.fa 2 0 (.t 2)), o 18 (.ld 0 (.t 17)), o 19 (.len false (.t 18)), o 6 (.mv (.t 19))]) C.protocol_ruleError_3
def C.protocol_ruleError_1 : ACode := .seq (.reg false [o 12 (.fa 9 0 (.t 2)), o 13 (.ld 0 (.t 12)), o 14 (.mv (.t 1)), o 15 (.ia 19 (.t 13) (.t 14)), o 16 (.ld 19 (.t 15)), o 5
  (.al Y.api_Rule 19 (.agg [(.lit (.string (bs []))), (.int 0), (.int 0), (.int 0), (.int 0), (.int 0), .nil, .nil, .nil, .nil, (.int 0), (.int 0), .nil, (.int 0), .nil, .nil,
  .nil, (.int 0)])), ov (.st 19 (.t 5) (.t 16))]) C.protocol_ruleError_2
def C.protocol_ruleError_0 : ACode := .seq (.reg false [o 2 (.box Y.api_Protocol 11 (.t 0)), o 4 (.mv (.c (.int 0)))]) C.protocol_ruleError_1
def C.protocol_ruleError : ACode := C.protocol_ruleError_0
theorem C.protocol_ruleError_eq : comp Tryz.prog (Tryz.f104.body.getD .skip) = some C.protocol_ruleError := by kernel_rfl
theorem Bd.protocol_ruleError : Body Tryz.prog F.protocol_ruleError C.protocol_ruleError [.slot 4] 188 := ⟨⟨_, _, Tryz.func104, by kernel_rfl, C.protocol_ruleError_eq, by kernel_rfl, by kernel_rfl⟩, Tryz.call104, by kernel_rfl⟩
def C.protocol_thresholds_8 : ACode := .seq (.reg false [o 22 (.mv (.t 3)), o 23 (.ld 7 (.t 7)), o 24 (.call F.slices_Contains_Lapi_Threshold_api_Threshold [(.t 22), (.t 23)]), o
  25 (.not (.t 24))]) (.cond (.t 25) (.reg false [o 26 (.mv (.t 3)), o 27 (.ld 7 (.t 7)), o 28 (.ms Y.api_Threshold 7 (.agg [(.int 0), (.int 0), (.int 0), (.int 0), (.int 0), (.int
  0)]) 1 [(0, (.t 27))]), o 29 (.app Y.api_Threshold 7 48 (.t 26) (.t 28)), o 3 (.mv (.t 29))]) .skip)
def C.protocol_thresholds_7 : ACode := .seq (.reg false [o 20 (.ia 7 (.t 16) (.t 18)), o 21 (.ld 7 (.t 20)), o 7 (.al Y.api_Threshold 7 (.agg [(.int 0), (.int 0), (.int 0), (.int
  0), (.int 0), (.int 0)])), ov (.st 7 (.t 7) (.t 21))]) C.protocol_thresholds_8
def C.protocol_thresholds_6 : ACode := .seq (.reg false [o 19 (.bin .lss (.t 18) (.t 17))]) (.seq (.cond (.t 19) .skip (.exit 2)) (.seq (.blk 3 C.protocol_thresholds_7) (.reg false
  [o 30 (.bin .add (.t 18) (.c (.int 1))), o 18 (.mv (.t 30))])))
def C.protocol_thresholds_5 : ACode := .seq (.reg false [o 15 (.fa 7 0 (.t 5)), o 16 (.ld 0 (.t 15)), o 17 (.len false (.t 16)), o 18 (.mv (.c (.int 0)))]) (.blk 2 (.loop
  C.protocol_thresholds_6))
def C.protocol_thresholds_4 : ACode := .seq (.reg false [o 13 (.ia 19 (.t 9) (.t 11)), o 14 (.ld 19 (.t 13)), o 5 (.al Y.api_Rule 19 (.agg [(.lit (.string (bs []))), (.int 0),
  (.int 0), (.int 0), (.int 0), (.int 0), .nil, .nil, .nil, .nil, (.int 0), (.int 0), .nil, (.int 0), .nil, .nil, .nil, (.int 0)])), ov (.st 19 (.t 5) (.t 14))])
  C.protocol_thresholds_5
def C.protocol_thresholds_3 : ACode := .seq (.reg false [o 12 (.bin .lss (.t 11) (.t 10))]) (.seq (.cond (.t 12) .skip (.exit 0)) (.seq (.blk 1 C.protocol_thresholds_4) (.reg false
  [o 31 (.bin .add (.t 11) (.c (.int 1))), o 11 (.mv (.t 31))])))
def C.protocol_thresholds_2 : ACode := .seq (.reg false [o 8 (.fa 9 0 (.t 1)), o 9 (.ld 0 (.t 8)), o 10 (.len false (.t 9)), o 11 (.mv (.c (.int 0)))]) (.blk 0 (.loop
  C.protocol_thresholds_3))
def C.protocol_thresholds_9 : ACode := .seq (.reg false [o 32 (.mv (.t 3)), o 2 (.mv (.t 32))]) .ret
def C.protocol_thresholds_1 : ACode := .seq (.reg false [o 3 (.mv (.c .nil))]) (.seq C.protocol_thresholds_2 C.protocol_thresholds_9)
def C.protocol_thresholds_0 : ACode := .seq (.reg false [o 1 (.box Y.api_Protocol 11 (.t 0)), o 2 (.mv (.c .nil))]) C.protocol_thresholds_1
def C.protocol_thresholds : ACode := C.protocol_thresholds_0
theorem C.protocol_thresholds_eq : comp Tryz.prog (Tryz.f105.body.getD .skip) = some C.protocol_thresholds := by kernel_rfl
theorem Bd.protocol_thresholds : Body Tryz.prog F.protocol_thresholds C.protocol_thresholds [.slot 2] 33 := ⟨⟨_, _, Tryz.func105, by kernel_rfl, C.protocol_thresholds_eq, by kernel_rfl, by kernel_rfl⟩, Tryz.call105, by kernel_rfl⟩
def C.protocol_isReserved_1 : ACode := .seq (.reg false [o 3 (.call F.strings_Fields [(.c (.lit (.string (bs [112, 114, 111, 116, 111, 99, 111, 108, 32, 116, 111, 112, 111, 108,
  111, 103, 121, 32, 115, 116, 97, 116, 101, 115, 32, 109, 101, 115, 115, 97, 103, 101, 115, 32, 118, 97, 108, 117, 101, 115, 32, 102, 97, 117, 108, 116, 115, 32, 114, 101, 115,
  105, 108, 105, 101, 110, 99, 101, 32, 105, 110, 105, 116, 105, 97, 108, 32, 108, 101, 97, 100, 101, 114, 32, 114, 117, 108, 101, 32, 108, 111, 99, 97, 108, 32, 112, 97, 105, 114,
  32, 98, 114, 111, 97, 100, 99, 97, 115, 116, 32, 110, 101, 105, 103, 104, 98, 111, 114, 32, 112, 97, 115, 115, 32, 119, 104, 101, 110, 32, 101, 120, 105, 115, 116, 115, 32, 102,
  111, 114, 97, 108, 108, 32, 114, 101, 97, 100, 32, 119, 114, 105, 116, 101, 32, 115, 101, 110, 100, 32, 97, 108, 108, 32, 97, 116, 32, 102, 105, 114, 115, 116, 32, 108, 97, 115,
  116, 32, 108, 101, 102, 116, 32, 114, 105, 103, 104, 116, 32, 112, 97, 114, 101, 110, 116, 32, 99, 104, 105, 108, 100, 32, 112, 114, 111, 112, 101, 114, 116, 121, 32, 110, 101,
  118, 101, 114, 32, 101, 118, 101, 110, 116, 117, 97, 108, 108, 121, 32, 115, 116, 97, 114, 116, 32, 99, 111, 117, 110, 116, 32, 97, 100, 106, 97, 99, 101, 110, 116, 32, 103, 111,
  97, 108, 32, 99, 108, 105, 113, 117, 101, 32, 108, 105, 110, 101, 32, 114, 105, 110, 103, 32, 116, 114, 101, 101, 32, 99, 114, 97, 115, 104, 32, 111, 109, 105, 115, 115, 105,
  111, 110, 32, 97, 114, 98, 105, 116, 114, 97, 114, 121]))))]), o 4 (.mv (.t 0)), o 5 (.call F.slices_Contains_Lstring_string [(.t 3), (.t 4)]), o 2 (.mv (.t 5))]) .ret
def C.protocol_isReserved_0 : ACode := .seq (.reg false [o 2 (.mv (.c (.bool false)))]) C.protocol_isReserved_1
def C.protocol_isReserved : ACode := C.protocol_isReserved_0
theorem C.protocol_isReserved_eq : comp Tryz.prog (Tryz.f106.body.getD .skip) = some C.protocol_isReserved := by kernel_rfl
theorem Bd.protocol_isReserved : Body Tryz.prog F.protocol_isReserved C.protocol_isReserved [.slot 2] 6 := ⟨⟨_, _, Tryz.func106, by kernel_rfl, C.protocol_isReserved_eq, by kernel_rfl, by kernel_rfl⟩, Tryz.call106, by kernel_rfl⟩
def C.protocol_index_1 : ACode := .seq (.reg false [o 5 (.mv (.t 0)), o 6 (.bin .lss (.t 5) (.c (.int 0))), o 7 (.mv (.t 6)), og 8 7 false (.mv (.t 0)), og 9 7 false (.mv (.t 1)),
  og 10 7 false (.bin .geq (.t 8) (.t 9)), o 11 (.pick (.t 7) (.c (.bool true)) (.t 10)), o 12 (.call F.protocol_when [(.t 11), (.c (.int 5))]), o 4 (.mv (.t 12))]) .ret
def C.protocol_index_0 : ACode := .seq (.reg false [o 4 (.mv (.c (.int 0)))]) C.protocol_index_1
def C.protocol_index : ACode := C.protocol_index_0
theorem C.protocol_index_eq : comp Tryz.prog (Tryz.f107.body.getD .skip) = some C.protocol_index := by kernel_rfl
theorem Bd.protocol_index : Body Tryz.prog F.protocol_index C.protocol_index [.slot 4] 13 := ⟨⟨_, _, Tryz.func107, by kernel_rfl, C.protocol_index_eq, by kernel_rfl, by kernel_rfl⟩, Tryz.call107, by kernel_rfl⟩
def C.cover_before_3 : ACode := .seq (.reg false [o 6 (.mv (.c .nil)), o 7 (.mv (.c (.int 0)))]) .ret
def C.cover_before_2 : ACode := .seq (.reg false [o 21 (.mv (.t 8)), o 22 (.len false (.t 21)), o 23 (.bin .eql (.t 22) (.c (.int 0)))]) (.cond (.t 23) C.cover_before_3 .skip)
def C.cover_before_6 : ACode := .seq (.reg false [o 6 (.mv (.c .nil)), o 7 (.mv (.c (.int 4)))]) .ret
def C.cover_before_5 : ACode := .seq (.reg false [o 31 (.mv (.t 10)), o 32 (.not (.t 31)), o 33 (.mv (.t 32)), og 34 33 false (.mv (.t 9)), og 35 33 false (.len false (.t 34)), og
  36 33 false (.mv (.t 8)), og 37 33 false (.len false (.t 36)), og 38 33 false (.bin .mul (.t 35) (.t 37)), og 39 33 false (.bin .gtr (.t 38) (.c (.int 100))), o 40 (.pick (.t 33)
  (.c (.bool true)) (.t 39))]) (.cond (.t 40) C.cover_before_6 .skip)
def C.cover_before_16 : ACode := .seq (.reg false [o 6 (.mv (.c .nil)), o 7 (.mv (.c (.int 4)))]) .ret
def C.cover_before_15 : ACode := .seq (.reg false [o 60 (.mv (.t 15)), o 61 (.call F.cover_inRange [(.t 60)]), o 62 (.not (.t 61))]) (.cond (.t 62) C.cover_before_16 .skip)
def C.cover_before_14 : ACode := .seq (.reg false [o 53 (.mv (.t 11)), o 54 (.mv (.t 13)), o 55 (.mv (.t 15)), o 56 (.app Y.int 0 8 (.c .nil) (.t 55)), o 57 (.mk [(.int 0), .nil]
  [(0, 1, (.t 54)), (1, 1, (.t 56))]), o 58 (.mso Y.api_Element 3 (.agg [(.int 0), .nil]) 1 [(0, (.t 57))]), o 59 (.app Y.api_Element 3 32 (.t 53) (.t 58)), o 11 (.mv (.t 59))])
  C.cover_before_15
def C.cover_before_13 : ACode := .seq (.reg false [o 51 (.ia 0 (.t 47) (.t 49)), o 52 (.ld 0 (.t 51)), o 15 (.mv (.t 52))]) C.cover_before_14
def C.cover_before_12 : ACode := .seq (.reg false [o 50 (.bin .lss (.t 49) (.t 48))]) (.seq (.cond (.t 50) .skip (.exit 2)) (.seq (.blk 3 C.cover_before_13) (.reg false [o 63 (.bin
  .add (.t 49) (.c (.int 1))), o 49 (.mv (.t 63))])))
def C.cover_before_11 : ACode := .seq (.reg false [o 47 (.mv (.t 9)), o 48 (.len false (.t 47)), o 49 (.mv (.c (.int 0)))]) (.blk 2 (.loop C.cover_before_12))
def C.cover_before_10 : ACode := .seq (.reg false [o 45 (.ia 0 (.t 41) (.t 43)), o 46 (.ld 0 (.t 45)), o 13 (.mv (.t 46))]) C.cover_before_11
def C.cover_before_9 : ACode := .seq (.reg false [o 44 (.bin .lss (.t 43) (.t 42))]) (.seq (.cond (.t 44) .skip (.exit 0)) (.seq (.blk 1 C.cover_before_10) (.reg false [o 64 (.bin
  .add (.t 43) (.c (.int 1))), o 43 (.mv (.t 64))])))
def C.cover_before_8 : ACode := .seq (.reg false [o 41 (.mv (.t 8)), o 42 (.len false (.t 41)), o 43 (.mv (.c (.int 0)))]) (.blk 0 (.loop C.cover_before_9))
def C.cover_before_17 : ACode := .seq (.reg false [o 65 (.mv (.t 11)), o 66 (.call F.cover_Minimize [(.t 65)]), o 6 (.mv (.t 66)), o 7 (.mv (.c (.int 0)))]) .ret
def C.cover_before_7 : ACode := .seq (.reg false [o 11 (.mv (.c .nil))]) (.seq C.cover_before_8 C.cover_before_17)
def C.cover_before_4 : ACode := .seq (.reg false [o 25 (.ld 19 (.t 4)), o 26 (.fa 1 0 (.t 5)), o 27 (.ld 0 (.t 26)), o 28 (.call F.cover_countsBefore [(.t 25), (.t 27)]), o 24 (.mv
  (.t 28)), o 29 (.ex (.t 24) 0), o 30 (.ex (.t 24) 1), o 9 (.mv (.t 29)), o 10 (.mv (.t 30))]) (.seq C.cover_before_5 C.cover_before_7)
def C.cover_before_1 : ACode := .seq (.reg false [o 16 (.ld 11 (.t 3)), o 17 (.ld 19 (.t 4)), o 18 (.fa 0 0 (.t 5)), o 19 (.ld 0 (.t 18)), o 20 (.call F.cover_valuesBefore [(.t
  16), (.t 17), (.t 19)]), o 8 (.mv (.t 20))]) (.seq C.cover_before_2 C.cover_before_4)
def C.cover_before_0 : ACode := .seq (.reg false [o 3 (.box Y.api_Protocol 11 (.t 0)), o 4 (.box Y.api_Rule 19 (.t 1)), o 5 (.box Y.api_Element 3 (.t 2)), o 6 (.mv (.c .nil)), o 7
  (.mv (.c (.int 0)))]) C.cover_before_1
def C.cover_before : ACode := C.cover_before_0
theorem C.cover_before_eq : comp Tryz.prog (Tryz.f108.body.getD .skip) = some C.cover_before := by kernel_rfl
theorem Bd.cover_before : Body Tryz.prog F.cover_before C.cover_before [.slot 6, .slot 7] 67 := ⟨⟨_, _, Tryz.func108, by kernel_rfl, C.cover_before_eq, by kernel_rfl, by kernel_rfl⟩, Tryz.call108, by kernel_rfl⟩
def C.cover_Minimize_8 : ACode := .seq (.reg false [o 22 (.fa 2 0 (.t 6)), o 23 (.ld 0 (.t 22)), o 24 (.not (.t 23))]) (.cond (.t 24) (.reg false [o 25 (.mv (.t 3)), o 26 (.ld 4
  (.t 6)), o 27 (.call F.cover_item_copied [(.t 26)]), o 28 (.mso Y.api_Element 3 (.agg [(.int 0), .nil]) 1 [(0, (.t 27))]), o 29 (.app Y.api_Element 3 32 (.t 25) (.t 28)), o 3
  (.mv (.t 29))]) .skip)
def C.cover_Minimize_7 : ACode := .seq (.reg false [o 18 (.mv (.t 0)), o 19 (.mv (.t 7)), o 20 (.call F.slices_ContainsFunc_Lapi_Element_api_Element [(.t 18), (.t 19)]), o 21 (.fa
  2 0 (.t 6)), ov (.st 0 (.t 21) (.t 20))]) C.cover_Minimize_8
def C.cover_Minimize_6 : ACode := .seq (.reg false [o 16 (.ld 4 (.t 6)), o 17 (.mb F.cover_item_above (.t 16)), o 7 (.mv (.t 17))]) C.cover_Minimize_7
def C.cover_Minimize_5 : ACode := .seq (.reg false [o 14 (.ld 3 (.t 5)), o 15 (.mk [(.int 0), .nil, (.bool false)] [(0, 2, (.t 14))]), o 6 (.al Y.cover_item 4 (.agg [(.int 0),
  .nil, (.bool false)])), ov (.st 4 (.t 6) (.t 15))]) C.cover_Minimize_6
def C.cover_Minimize_4 : ACode := .seq (.reg false [o 12 (.ia 3 (.t 8) (.t 10)), o 13 (.ld 3 (.t 12)), o 5 (.al Y.api_Element 3 (.agg [(.int 0), .nil])), ov (.st 3 (.t 5) (.t
  13))]) C.cover_Minimize_5
def C.cover_Minimize_3 : ACode := .seq (.reg false [o 11 (.bin .lss (.t 10) (.t 9))]) (.seq (.cond (.t 11) .skip (.exit 0)) (.seq (.blk 1 C.cover_Minimize_4) (.reg false [o 30
  (.bin .add (.t 10) (.c (.int 1))), o 10 (.mv (.t 30))])))
def C.cover_Minimize_2 : ACode := .seq (.reg false [o 8 (.mv (.t 0)), o 9 (.len false (.t 8)), o 10 (.mv (.c (.int 0)))]) (.blk 0 (.loop C.cover_Minimize_3))
def C.cover_Minimize_9 : ACode := .seq (.reg false [o 31 (.mv (.t 3)), o 32 (.call F.cover_tidy [(.t 31)]), o 2 (.mv (.t 32))]) .ret
def C.cover_Minimize_1 : ACode := .seq (.reg false [o 3 (.mv (.c .nil))]) (.seq C.cover_Minimize_2 C.cover_Minimize_9)
def C.cover_Minimize_0 : ACode := .seq (.reg false [o 2 (.mv (.c .nil))]) C.cover_Minimize_1
def C.cover_Minimize : ACode := C.cover_Minimize_0
theorem C.cover_Minimize_eq : comp Tryz.prog (Tryz.f109.body.getD .skip) = some C.cover_Minimize := by kernel_rfl
theorem Bd.cover_Minimize : Body Tryz.prog F.cover_Minimize C.cover_Minimize [.slot 2] 33 := ⟨⟨_, _, Tryz.func109, by kernel_rfl, C.cover_Minimize_eq, by kernel_rfl, by kernel_rfl⟩, Tryz.call109, by kernel_rfl⟩
def C.cover_checkCover_3 : ACode := .seq (.reg false [o 2 (.mv (.c (.int 7)))]) .ret
def C.cover_checkCover_2 : ACode := .seq (.reg false [o 10 (.mv (.t 4)), o 11 (.bin .eql (.t 10) (.c (.int 0))), o 12 (.mv (.t 11)), og 13 12 true (.fa 1 0 (.t 3)), og 14 12 true
  (.ld 0 (.t 13)), og 15 12 true (.not (.t 14)), o 16 (.pick (.t 12) (.t 15) (.c (.bool false)))]) (.cond (.t 16) C.cover_checkCover_3 .skip)
def C.cover_checkCover_4 : ACode := .seq (.reg false [o 17 (.mv (.t 4)), o 2 (.mv (.t 17))]) .ret
def C.cover_checkCover_1 : ACode := .seq (.reg false [o 6 (.ld 11 (.t 1)), o 7 (.call F.protocol_Classify [(.t 6)]), o 5 (.mv (.t 7)), o 8 (.ex (.t 5) 0), o 9 (.ex (.t 5) 1), o 3
  (.al Y.protocol_Classes 6 (.agg [(.bool false), (.bool false), (.bool false), (.bool false), (.bool false)])), ov (.st 6 (.t 3) (.t 8)), o 4 (.mv (.t 9))]) (.seq
  C.cover_checkCover_2 C.cover_checkCover_4)
def C.cover_checkCover_0 : ACode := .seq (.reg false [o 1 (.box Y.api_Protocol 11 (.t 0)), o 2 (.mv (.c (.int 0)))]) C.cover_checkCover_1
def C.cover_checkCover : ACode := C.cover_checkCover_0
theorem C.cover_checkCover_eq : comp Tryz.prog (Tryz.f110.body.getD .skip) = some C.cover_checkCover := by kernel_rfl
theorem Bd.cover_checkCover : Body Tryz.prog F.cover_checkCover C.cover_checkCover [.slot 2] 18 := ⟨⟨_, _, Tryz.func110, by kernel_rfl, C.cover_checkCover_eq, by kernel_rfl, by kernel_rfl⟩, Tryz.call110, by kernel_rfl⟩
def C.slices_insertionSortCmpFunc_api_Element_1 : ACode := .seq (.reg false [o 12 (.mv (.t 8)), o 13 (.mv (.t 2)), o 14 (.bin .lss (.t 12) (.t 13))]) (.cond (.t 14) .skip (.exit
  0))
def C.slices_insertionSortCmpFunc_api_Element_3 : ACode := .seq (.reg true [o 18 (.mv (.t 9)), o 19 (.mv (.t 1)), o 20 (.bin .gtr (.t 18) (.t 19)), o 21 (.mv (.t 20)), og 22 21
  true (.mv (.t 3)), og 23 21 true (.mv (.t 0)), og 24 21 true (.mv (.t 9)), og 25 21 true (.ia 3 (.t 23) (.t 24)), og 26 21 true (.ld 3 (.t 25)), og 27 21 true (.mv (.t 0)), og 28
  21 true (.mv (.t 9)), og 29 21 true (.bin .sub (.t 28) (.c (.int 1))), og 30 21 true (.ia 3 (.t 27) (.t 29)), og 31 21 true (.ld 3 (.t 30)), og 32 21 true (.callv (.t 22) [(.t
  26), (.t 31)]), og 33 21 true (.bin .lss (.t 32) (.c (.int 0))), o 34 (.pick (.t 21) (.t 33) (.c (.bool false)))]) (.cond (.t 34) .skip (.exit 2))
def C.slices_insertionSortCmpFunc_api_Element_2 : ACode := .seq (.reg false [o 17 (.mv (.t 8)), o 9 (.mv (.t 17))]) (.blk 2 (.loop (.seq C.slices_insertionSortCmpFunc_api_Element_3
  (.seq (.blk 3 (.reg true [o 37 (.mv (.t 0)), o 38 (.mv (.t 9)), o 39 (.mv (.t 0)), o 40 (.mv (.t 9)), o 41 (.bin .sub (.t 40) (.c (.int 1))), o 42 (.mv (.t 0)), o 43 (.mv (.t
  9)), o 44 (.bin .sub (.t 43) (.c (.int 1))), o 45 (.ia 3 (.t 42) (.t 44)), o 46 (.ld 3 (.t 45)), o 47 (.mv (.t 0)), o 48 (.mv (.t 9)), o 49 (.ia 3 (.t 47) (.t 48)), o 50 (.ld 3
  (.t 49)), o 51 (.ia 3 (.t 37) (.t 38)), ov (.st 3 (.t 51) (.t 46)), o 52 (.ia 3 (.t 39) (.t 41)), ov (.st 3 (.t 52) (.t 50))])) (.reg false [o 35 (.mv (.t 9)), o 36 (.bin .sub
  (.t 35) (.c (.int 1))), o 9 (.mv (.t 36))])))))
def C.slices_insertionSortCmpFunc_api_Element_0 : ACode := .seq (.reg false [o 10 (.mv (.t 1)), o 11 (.bin .add (.t 10) (.c (.int 1))), o 8 (.mv (.t 11))]) (.blk 0 (.loop (.seq
  C.slices_insertionSortCmpFunc_api_Element_1 (.seq (.blk 1 C.slices_insertionSortCmpFunc_api_Element_2) (.reg false [o 15 (.mv (.t 8)), o 16 (.bin .add (.t 15) (.c (.int 1))), o 8
  (.mv (.t 16))])))))
def C.slices_insertionSortCmpFunc_api_Element : ACode := C.slices_insertionSortCmpFunc_api_Element_0
theorem C.slices_insertionSortCmpFunc_api_Element_eq : comp Tryz.prog (Tryz.f111.body.getD .skip) = some C.slices_insertionSortCmpFunc_api_Element := by kernel_rfl
theorem Bd.slices_insertionSortCmpFunc_api_Element : Body Tryz.prog F.slices_insertionSortCmpFunc_api_Element C.slices_insertionSortCmpFunc_api_Element [] 53 := ⟨⟨_, _, Tryz.func111, by kernel_rfl, C.slices_insertionSortCmpFunc_api_Element_eq, by kernel_rfl, by kernel_rfl⟩, Tryz.call111, by kernel_rfl⟩
def C.math_bits_Len64_2 : ACode := .seq (.reg false [o 5 (.mv (.t 0)), o 6 (.bin .shr (.t 5) (.c (.lit (.int .u64 32)))), o 0 (.mv (.t 6))]) (.reg false [o 2 (.mv (.c (.int 32)))])
def C.math_bits_Len64_1 : ACode := .seq (.reg false [o 3 (.mv (.t 0)), o 4 (.bin .geq (.t 3) (.c (.lit (.int .u64 4294967296))))]) (.cond (.t 4) C.math_bits_Len64_2 .skip)
def C.math_bits_Len64_4 : ACode := .seq (.reg false [o 9 (.mv (.t 0)), o 10 (.bin .shr (.t 9) (.c (.lit (.int .u64 16)))), o 0 (.mv (.t 10))]) (.reg false [o 11 (.mv (.t 2)), o 12
  (.bin .add (.t 11) (.c (.int 16))), o 2 (.mv (.t 12))])
def C.math_bits_Len64_3 : ACode := .seq (.reg false [o 7 (.mv (.t 0)), o 8 (.bin .geq (.t 7) (.c (.lit (.int .u64 65536))))]) (.cond (.t 8) C.math_bits_Len64_4 .skip)
def C.math_bits_Len64_6 : ACode := .seq (.reg false [o 15 (.mv (.t 0)), o 16 (.bin .shr (.t 15) (.c (.lit (.int .u64 8)))), o 0 (.mv (.t 16))]) (.reg false [o 17 (.mv (.t 2)), o 18
  (.bin .add (.t 17) (.c (.int 8))), o 2 (.mv (.t 18))])
def C.math_bits_Len64_5 : ACode := .seq (.reg false [o 13 (.mv (.t 0)), o 14 (.bin .geq (.t 13) (.c (.lit (.int .u64 256))))]) (.cond (.t 14) C.math_bits_Len64_6 .skip)
def C.math_bits_Len64_7 : ACode := .seq (.reg false [o 19 (.mv (.t 2)), o 20 (.mv (.t 0)), o 21 (.conv .u8 (.t 20)), o 22 (.ch (.c (.lit (.string (bs [0, 1, 2, 2, 3, 3, 3, 3, 4, 4,
  4, 4, 4, 4, 4, 4, 5, 5, 5, 5, 5, 5, 5, 5, 5, 5, 5, 5, 5, 5, 5, 5, 6, 6, 6, 6, 6, 6, 6, 6, 6, 6, 6, 6, 6, 6, 6, 6, 6, 6, 6, 6, 6, 6, 6, 6, 6, 6, 6, 6, 6, 6, 6, 6, 7, 7, 7, 7, 7,
  7, 7, 7, 7, 7, 7, 7, 7, 7, 7, 7, 7, 7, 7, 7, 7, 7, 7, 7, 7, 7, 7, 7, 7, 7, 7, 7, 7, 7, 7, 7, 7, 7, 7, 7, 7, 7, 7, 7, 7, 7, 7, 7, 7, 7, 7, 7, 7, 7, 7, 7, 7, 7, 7, 7, 7, 7, 7, 7,
  8, 8, 8, 8, 8, 8, 8, 8, 8, 8, 8, 8, 8, 8, 8, 8, 8, 8, 8, 8, 8, 8, 8, 8, 8, 8, 8, 8, 8, 8, 8, 8, 8, 8, 8, 8, 8, 8, 8, 8, 8, 8, 8, 8, 8, 8, 8, 8, 8, 8, 8, 8, 8, 8, 8, 8, 8, 8, 8,
  8, 8, 8, 8, 8, 8, 8, 8, 8, 8, 8, 8, 8, 8, 8, 8, 8, 8, 8, 8, 8, 8, 8, 8, 8, 8, 8, 8, 8, 8, 8, 8, 8, 8, 8, 8, 8, 8, 8, 8, 8, 8, 8, 8, 8, 8, 8, 8, 8, 8, 8, 8, 8, 8, 8, 8, 8, 8, 8,
  8, 8, 8, 8, 8, 8, 8, 8, 8, 8])))) (.t 21)), o 23 (.conv .i64 (.t 22)), o 24 (.bin .add (.t 19) (.t 23)), o 2 (.mv (.t 24))]) .ret
def C.math_bits_Len64_0 : ACode := .seq (.reg false [o 2 (.mv (.c (.int 0)))]) (.seq C.math_bits_Len64_1 (.seq C.math_bits_Len64_3 (.seq C.math_bits_Len64_5 C.math_bits_Len64_7)))
def C.math_bits_Len64 : ACode := C.math_bits_Len64_0
theorem C.math_bits_Len64_eq : comp Tryz.prog (Tryz.f120.body.getD .skip) = some C.math_bits_Len64 := by kernel_rfl
theorem Bd.math_bits_Len64 : Body Tryz.prog F.math_bits_Len64 C.math_bits_Len64 [.slot 2] 25 := ⟨⟨_, _, Tryz.func120, by kernel_rfl, C.math_bits_Len64_eq, by kernel_rfl, by kernel_rfl⟩, Tryz.call120, by kernel_rfl⟩
def C.r02_SameThreshold_1 : ACode := .seq (.reg false [o 5 (.fa 0 0 (.t 2)), o 6 (.ld 0 (.t 5)), o 7 (.fa 0 0 (.t 3)), o 8 (.ld 0 (.t 7)), o 9 (.bin .eql (.t 6) (.t 8)), o 10 (.mv
  (.t 9)), og 11 10 true (.fa 1 0 (.t 2)), og 12 10 true (.ld 0 (.t 11)), og 13 10 true (.fa 1 0 (.t 3)), og 14 10 true (.ld 0 (.t 13)), og 15 10 true (.bin .eql (.t 12) (.t 14)),
  o 16 (.pick (.t 10) (.t 15) (.c (.bool false))), o 17 (.mv (.t 16)), og 18 17 true (.fa 2 5 (.t 2)), og 19 17 true (.ld 5 (.t 18)), og 20 17 true (.fa 2 5 (.t 3)), og 21 17 true
  (.ld 5 (.t 20)), og 22 17 true (.eqs false 4 (.t 19) (.t 21)), o 23 (.pick (.t 17) (.t 22) (.c (.bool false))), o 4 (.mv (.t 23))]) .ret
def C.r02_SameThreshold_0 : ACode := .seq (.reg false [o 2 (.box Y.api_Threshold 7 (.t 0)), o 3 (.box Y.api_Threshold 7 (.t 1)), o 4 (.mv (.c (.bool false)))])
  C.r02_SameThreshold_1
def C.r02_SameThreshold : ACode := C.r02_SameThreshold_0
theorem C.r02_SameThreshold_eq : comp Tryz.prog (Tryz.f121.body.getD .skip) = some C.r02_SameThreshold := by kernel_rfl
theorem Bd.r02_SameThreshold : Body Tryz.prog F.r02_SameThreshold C.r02_SameThreshold [.slot 4] 24 := ⟨⟨_, _, Tryz.func121, by kernel_rfl, C.r02_SameThreshold_eq, by kernel_rfl, by kernel_rfl⟩, Tryz.call121, by kernel_rfl⟩
def C.slices_stableCmpFunc_api_Element_2 : ACode := .seq (.reg false [o 11 (.mv (.t 8)), o 12 (.mv (.t 1)), o 13 (.bin .leq (.t 11) (.t 12))]) (.cond (.t 13) .skip (.exit 0))
def C.slices_stableCmpFunc_api_Element_4 : ACode := .seq (.reg false [o 19 (.mv (.t 8)), o 7 (.mv (.t 19))]) (.reg false [o 20 (.mv (.t 8)), o 21 (.mv (.t 6)), o 22 (.bin .add (.t
  20) (.t 21)), o 8 (.mv (.t 22))])
def C.slices_stableCmpFunc_api_Element_3 : ACode := .seq (.reg false [o 14 (.mv (.t 0)), o 15 (.mv (.t 7)), o 16 (.mv (.t 8)), o 17 (.mv (.t 2)), o 18 (.call
  F.slices_insertionSortCmpFunc_api_Element [(.t 14), (.t 15), (.t 16), (.t 17)])]) C.slices_stableCmpFunc_api_Element_4
def C.slices_stableCmpFunc_api_Element_6 : ACode := .seq (.reg false [o 28 (.mv (.t 6)), o 29 (.mv (.t 1)), o 30 (.bin .lss (.t 28) (.t 29))]) (.cond (.t 30) .skip (.exit 2))
def C.slices_stableCmpFunc_api_Element_8 : ACode := .seq (.reg false [o 33 (.mv (.t 8)), o 34 (.mv (.t 1)), o 35 (.bin .leq (.t 33) (.t 34))]) (.cond (.t 35) .skip (.exit 4))
def C.slices_stableCmpFunc_api_Element_10 : ACode := .seq (.reg false [o 44 (.mv (.t 8)), o 7 (.mv (.t 44))]) (.reg false [o 45 (.mv (.t 8)), o 46 (.mv (.t 6)), o 47 (.bin .mul (.c
  (.int 2)) (.t 46)), o 48 (.bin .add (.t 45) (.t 47)), o 8 (.mv (.t 48))])
def C.slices_stableCmpFunc_api_Element_9 : ACode := .seq (.reg false [o 36 (.mv (.t 0)), o 37 (.mv (.t 7)), o 38 (.mv (.t 7)), o 39 (.mv (.t 6)), o 40 (.bin .add (.t 38) (.t 39)),
  o 41 (.mv (.t 8)), o 42 (.mv (.t 2)), o 43 (.call F.slices_symMergeCmpFunc_api_Element [(.t 36), (.t 37), (.t 40), (.t 41), (.t 42)])]) C.slices_stableCmpFunc_api_Element_10
def C.slices_stableCmpFunc_api_Element_12 : ACode := .seq (.reg false [o 52 (.mv (.t 9)), o 53 (.mv (.t 1)), o 54 (.bin .lss (.t 52) (.t 53))]) (.cond (.t 54) (.reg false [o 55
  (.mv (.t 0)), o 56 (.mv (.t 7)), o 57 (.mv (.t 9)), o 58 (.mv (.t 1)), o 59 (.mv (.t 2)), o 60 (.call F.slices_symMergeCmpFunc_api_Element [(.t 55), (.t 56), (.t 57), (.t 58),
  (.t 59)])]) .skip)
def C.slices_stableCmpFunc_api_Element_11 : ACode := .seq (.reg false [o 49 (.mv (.t 7)), o 50 (.mv (.t 6)), o 51 (.bin .add (.t 49) (.t 50)), o 9 (.mv (.t 51))])
  C.slices_stableCmpFunc_api_Element_12
def C.slices_stableCmpFunc_api_Element_7 : ACode := .seq (.reg false [o 31 (.mv (.t 6)), o 32 (.bin .mul (.c (.int 2)) (.t 31)), o 7 (.mv (.c (.int 0))), o 8 (.mv (.t 32))]) (.seq
  (.blk 4 (.loop (.seq C.slices_stableCmpFunc_api_Element_8 (.blk 5 C.slices_stableCmpFunc_api_Element_9)))) (.seq C.slices_stableCmpFunc_api_Element_11 (.reg false [o 61 (.mv (.t
  6)), o 62 (.bin .mul (.t 61) (.c (.int 2))), o 6 (.mv (.t 62))])))
def C.slices_stableCmpFunc_api_Element_5 : ACode := .seq (.reg false [o 23 (.mv (.t 0)), o 24 (.mv (.t 7)), o 25 (.mv (.t 1)), o 26 (.mv (.t 2)), o 27 (.call
  F.slices_insertionSortCmpFunc_api_Element [(.t 23), (.t 24), (.t 25), (.t 26)])]) (.blk 2 (.loop (.seq C.slices_stableCmpFunc_api_Element_6 (.blk 3
  C.slices_stableCmpFunc_api_Element_7))))
def C.slices_stableCmpFunc_api_Element_1 : ACode := .seq (.reg false [o 10 (.mv (.t 6)), o 7 (.mv (.c (.int 0))), o 8 (.mv (.t 10))]) (.seq (.blk 0 (.loop (.seq
  C.slices_stableCmpFunc_api_Element_2 (.blk 1 C.slices_stableCmpFunc_api_Element_3)))) C.slices_stableCmpFunc_api_Element_5)
def C.slices_stableCmpFunc_api_Element_0 : ACode := .seq (.reg false [o 6 (.mv (.c (.int 20)))]) C.slices_stableCmpFunc_api_Element_1
def C.slices_stableCmpFunc_api_Element : ACode := C.slices_stableCmpFunc_api_Element_0
theorem C.slices_stableCmpFunc_api_Element_eq : comp Tryz.prog (Tryz.f122.body.getD .skip) = some C.slices_stableCmpFunc_api_Element := by kernel_rfl
theorem Bd.slices_stableCmpFunc_api_Element : Body Tryz.prog F.slices_stableCmpFunc_api_Element C.slices_stableCmpFunc_api_Element [] 63 := ⟨⟨_, _, Tryz.func122, by kernel_rfl, C.slices_stableCmpFunc_api_Element_eq, by kernel_rfl, by kernel_rfl⟩, Tryz.call122, by kernel_rfl⟩
def C.slices_Concat_Lstring_string_6 : ACode := .seq (.reg false [o 19 (.mv (.t 3)), o 20 (.bin .lss (.t 19) (.c (.int 0)))]) (.cond (.t 20) (.reg false [o 21 (.bot), ov (.bot)])
  .skip)
def C.slices_Concat_Lstring_string_5 : ACode := .seq (.reg false [o 15 (.mv (.t 3)), o 16 (.mv (.t 5)), o 17 (.len false (.t 16)), o 18 (.bin .add (.t 15) (.t 17)), o 3 (.mv (.t
  18))]) C.slices_Concat_Lstring_string_6
def C.slices_Concat_Lstring_string_4 : ACode := .seq (.reg false [o 13 (.ia 0 (.t 9) (.t 11)), o 14 (.ld 0 (.t 13)), o 5 (.mv (.t 14))]) C.slices_Concat_Lstring_string_5
def C.slices_Concat_Lstring_string_3 : ACode := .seq (.reg false [o 12 (.bin .lss (.t 11) (.t 10))]) (.seq (.cond (.t 12) .skip (.exit 0)) (.seq (.blk 1
  C.slices_Concat_Lstring_string_4) (.reg false [o 22 (.bin .add (.t 11) (.c (.int 1))), o 11 (.mv (.t 22))])))
def C.slices_Concat_Lstring_string_2 : ACode := .seq (.reg false [o 9 (.mv (.t 0)), o 10 (.len false (.t 9)), o 11 (.mv (.c (.int 0)))]) (.blk 0 (.loop
  C.slices_Concat_Lstring_string_3))
def C.slices_Concat_Lstring_string_10 : ACode := .seq (.reg false [o 29 (.ia 0 (.t 25) (.t 27)), o 30 (.ld 0 (.t 29)), o 8 (.mv (.t 30))]) (.reg false [o 31 (.mv (.t 6)), o 32 (.mv
  (.t 8)), o 33 (.app Y.string 0 16 (.t 31) (.t 32)), o 6 (.mv (.t 33))])
def C.slices_Concat_Lstring_string_9 : ACode := .seq (.reg false [o 28 (.bin .lss (.t 27) (.t 26))]) (.seq (.cond (.t 28) .skip (.exit 2)) (.seq (.blk 3
  C.slices_Concat_Lstring_string_10) (.reg false [o 34 (.bin .add (.t 27) (.c (.int 1))), o 27 (.mv (.t 34))])))
def C.slices_Concat_Lstring_string_8 : ACode := .seq (.reg false [o 25 (.mv (.t 0)), o 26 (.len false (.t 25)), o 27 (.mv (.c (.int 0)))]) (.blk 2 (.loop
  C.slices_Concat_Lstring_string_9))
def C.slices_Concat_Lstring_string_11 : ACode := .seq (.reg false [o 35 (.mv (.t 6)), o 2 (.mv (.t 35))]) .ret
def C.slices_Concat_Lstring_string_7 : ACode := .seq (.reg false [o 23 (.mv (.t 3)), o 24 (.call F.slices_Grow_Lstring_string [(.c .nil), (.t 23)]), o 6 (.mv (.t 24))]) (.seq
  C.slices_Concat_Lstring_string_8 C.slices_Concat_Lstring_string_11)
def C.slices_Concat_Lstring_string_1 : ACode := .seq (.reg false [o 3 (.mv (.c (.int 0)))]) (.seq C.slices_Concat_Lstring_string_2 C.slices_Concat_Lstring_string_7)
def C.slices_Concat_Lstring_string_0 : ACode := .seq (.reg false [o 2 (.mv (.c .nil))]) C.slices_Concat_Lstring_string_1
def C.slices_Concat_Lstring_string : ACode := C.slices_Concat_Lstring_string_0
theorem C.slices_Concat_Lstring_string_eq : comp Tryz.prog (Tryz.f124.body.getD .skip) = some C.slices_Concat_Lstring_string := by kernel_rfl
theorem Bd.slices_Concat_Lstring_string : Body Tryz.prog F.slices_Concat_Lstring_string C.slices_Concat_Lstring_string [.slot 2] 36 := ⟨⟨_, _, Tryz.func124, by kernel_rfl, C.slices_Concat_Lstring_string_eq, by kernel_rfl, by kernel_rfl⟩, Tryz.call124, by kernel_rfl⟩
def C.slices_Contains_Lstring_string_1 : ACode := .seq (.reg false [o 5 (.mv (.t 0)), o 6 (.mv (.t 1)), o 7 (.call F.slices_Index_Lstring_string [(.t 5), (.t 6)]), o 8 (.bin .geq
  (.t 7) (.c (.int 0))), o 4 (.mv (.t 8))]) .ret
def C.slices_Contains_Lstring_string_0 : ACode := .seq (.reg false [o 4 (.mv (.c (.bool false)))]) C.slices_Contains_Lstring_string_1
def C.slices_Contains_Lstring_string : ACode := C.slices_Contains_Lstring_string_0
theorem C.slices_Contains_Lstring_string_eq : comp Tryz.prog (Tryz.f125.body.getD .skip) = some C.slices_Contains_Lstring_string := by kernel_rfl
theorem Bd.slices_Contains_Lstring_string : Body Tryz.prog F.slices_Contains_Lstring_string C.slices_Contains_Lstring_string [.slot 4] 9 := ⟨⟨_, _, Tryz.func125, by kernel_rfl, C.slices_Contains_Lstring_string_eq, by kernel_rfl, by kernel_rfl⟩, Tryz.call125, by kernel_rfl⟩
def C.protocol_factor_1 : ACode := .seq (.reg false [o 3 (.mv (.t 0)), o 4 (.bin .geq (.t 3) (.c (.int (-100)))), o 5 (.mv (.t 4)), og 6 5 true (.mv (.t 0)), og 7 5 true (.bin .leq
  (.t 6) (.c (.int 100))), o 8 (.pick (.t 5) (.t 7) (.c (.bool false))), o 2 (.mv (.t 8))]) .ret
def C.protocol_factor_0 : ACode := .seq (.reg false [o 2 (.mv (.c (.bool false)))]) C.protocol_factor_1
def C.protocol_factor : ACode := C.protocol_factor_0
theorem C.protocol_factor_eq : comp Tryz.prog (Tryz.f126.body.getD .skip) = some C.protocol_factor := by kernel_rfl
theorem Bd.protocol_factor : Body Tryz.prog F.protocol_factor C.protocol_factor [.slot 2] 9 := ⟨⟨_, _, Tryz.func126, by kernel_rfl, C.protocol_factor_eq, by kernel_rfl, by kernel_rfl⟩, Tryz.call126, by kernel_rfl⟩
def C.slices_ContainsFunc_Lapi_Rule_api_Rule_1 : ACode := .seq (.reg false [o 5 (.mv (.t 0)), o 6 (.mv (.t 1)), o 7 (.call F.slices_IndexFunc_Lapi_Rule_api_Rule [(.t 5), (.t 6)]),
  o 8 (.bin .geq (.t 7) (.c (.int 0))), o 4 (.mv (.t 8))]) .ret
def C.slices_ContainsFunc_Lapi_Rule_api_Rule_0 : ACode := .seq (.reg false [o 4 (.mv (.c (.bool false)))]) C.slices_ContainsFunc_Lapi_Rule_api_Rule_1
def C.slices_ContainsFunc_Lapi_Rule_api_Rule : ACode := C.slices_ContainsFunc_Lapi_Rule_api_Rule_0
theorem C.slices_ContainsFunc_Lapi_Rule_api_Rule_eq : comp Tryz.prog (Tryz.f127.body.getD .skip) = some C.slices_ContainsFunc_Lapi_Rule_api_Rule := by kernel_rfl
theorem Bd.slices_ContainsFunc_Lapi_Rule_api_Rule : Body Tryz.prog F.slices_ContainsFunc_Lapi_Rule_api_Rule C.slices_ContainsFunc_Lapi_Rule_api_Rule [.slot 4] 9 := ⟨⟨_, _, Tryz.func127, by kernel_rfl, C.slices_ContainsFunc_Lapi_Rule_api_Rule_eq, by kernel_rfl, by kernel_rfl⟩, Tryz.call127, by kernel_rfl⟩
def C.protocol_ruleError_c1_1 : ACode := .seq (.reg false [o 4 (.fa 0 0 (.t 2)), o 5 (.ld 0 (.t 4)), o 6 (.fa 0 0 (.t 1)), o 7 (.ld 0 (.t 6)), o 8 (.bin .eql (.t 5) (.t 7)), o 3
  (.mv (.t 8))]) .ret
def C.protocol_ruleError_c1_0 : ACode := .seq (.reg false [o 2 (.box Y.api_Rule 19 (.t 0)), o 3 (.mv (.c (.bool false)))]) C.protocol_ruleError_c1_1
def C.protocol_ruleError_c1 : ACode := C.protocol_ruleError_c1_0
theorem C.protocol_ruleError_c1_eq : comp Tryz.prog (Tryz.f128.body.getD .skip) = some C.protocol_ruleError_c1 := by kernel_rfl
theorem Bd.protocol_ruleError_c1 : Body Tryz.prog F.protocol_ruleError_c1 C.protocol_ruleError_c1 [.slot 3] 9 := ⟨⟨_, _, Tryz.func128, by kernel_rfl, C.protocol_ruleError_c1_eq, by kernel_rfl, by kernel_rfl⟩, Tryz.call128, by kernel_rfl⟩
def C.protocol_fits_3 : ACode := .seq (.reg false [o 8 (.bin .eql (.t 5) (.c (.int 2))), o 6 (.mv (.t 8))]) (.cond (.t 6) .skip (.reg false [o 9 (.bin .eql (.t 5) (.c (.int 3))), o
  6 (.mv (.t 9))]))
def C.protocol_fits_2 : ACode := .seq (.reg false [o 7 (.bin .eql (.t 5) (.c (.int 1))), o 6 (.mv (.t 7))]) (.cond (.t 6) .skip C.protocol_fits_3)
def C.protocol_fits_4 : ACode := .seq (.reg false [o 10 (.mv (.t 1)), o 11 (.bin .eql (.t 10) (.c (.int 1))), o 4 (.mv (.t 11))]) .ret
def C.protocol_fits_5 : ACode := .seq (.reg false [o 13 (.bin .eql (.t 5) (.c (.int 4))), o 12 (.mv (.t 13))]) (.cond (.t 12) .skip (.reg false [o 14 (.bin .eql (.t 5) (.c (.int
  5))), o 12 (.mv (.t 14))]))
def C.protocol_fits_6 : ACode := .seq (.reg false [o 15 (.mv (.t 1)), o 16 (.bin .neq (.t 15) (.c (.int 1))), o 4 (.mv (.t 16))]) .ret
def C.protocol_fits_1 : ACode := .seq (.reg false [o 5 (.mv (.t 0))]) (.blk 0 (.seq C.protocol_fits_2 (.cond (.t 6) C.protocol_fits_4 (.seq C.protocol_fits_5 (.cond (.t 12)
  C.protocol_fits_6 .skip)))))
def C.protocol_fits_7 : ACode := .seq (.reg false [o 4 (.mv (.c (.bool false)))]) .ret
def C.protocol_fits_0 : ACode := .seq (.reg false [o 4 (.mv (.c (.bool false)))]) (.seq C.protocol_fits_1 C.protocol_fits_7)
def C.protocol_fits : ACode := C.protocol_fits_0
theorem C.protocol_fits_eq : comp Tryz.prog (Tryz.f129.body.getD .skip) = some C.protocol_fits := by kernel_rfl
theorem Bd.protocol_fits : Body Tryz.prog F.protocol_fits C.protocol_fits [.slot 4] 17 := ⟨⟨_, _, Tryz.func129, by kernel_rfl, C.protocol_fits_eq, by kernel_rfl, by kernel_rfl⟩, Tryz.call129, by kernel_rfl⟩
def C.protocol_surplus_2 : ACode := .seq (.reg false [o 9 (.bin .eql (.t 7) (.c (.int 1))), o 8 (.mv (.t 9))]) (.cond (.t 8) (.exit 1) .skip)
def C.protocol_surplus_3 : ACode := .seq (.reg false [o 11 (.bin .eql (.t 7) (.c (.int 2))), o 10 (.mv (.t 11))]) (.cond (.t 10) (.exit 2) .skip)
def C.protocol_surplus_4 : ACode := .seq (.reg false [o 13 (.bin .eql (.t 7) (.c (.int 3))), o 12 (.mv (.t 13))]) (.cond (.t 12) (.exit 3) .skip)
def C.protocol_surplus_5 : ACode := .seq (.reg false [o 15 (.bin .eql (.t 7) (.c (.int 4))), o 14 (.mv (.t 15))]) (.cond (.t 14) (.exit 4) .skip)
def C.protocol_surplus_6 : ACode := .seq (.reg false [o 17 (.bin .eql (.t 7) (.c (.int 5))), o 16 (.mv (.t 17))]) (.cond (.t 16) (.exit 5) .skip)
def C.protocol_surplus_7 : ACode := .seq (.reg false [o 18 (.fa 7 0 (.t 2)), ov (.st 0 (.t 18) (.c .nil)), o 19 (.fa 8 0 (.t 2)), ov (.st 0 (.t 19) (.c .nil)), o 20 (.fa 9 0 (.t
  2)), ov (.st 0 (.t 20) (.c .nil)), o 21 (.fa 12 0 (.t 2)), ov (.st 0 (.t 21) (.c .nil))]) (.reg false [o 22 (.fa 10 0 (.t 2)), ov (.st 0 (.t 22) (.c (.int (-1)))), o 23 (.fa 11 0
  (.t 2)), ov (.st 0 (.t 23) (.c (.int (-1))))])
def C.protocol_surplus_9 : ACode := .seq (.reg false [o 4 (.mv (.c (.bool true)))]) .ret
def C.protocol_surplus_8 : ACode := .seq (.reg false [o 24 (.fa 6 0 (.t 2)), o 25 (.ld 0 (.t 24)), o 26 (.len false (.t 25)), o 27 (.bin .gtr (.t 26) (.c (.int 0)))]) (.cond (.t
  27) C.protocol_surplus_9 .skip)
def C.protocol_surplus_10 : ACode := .seq (.reg false [o 30 (.fa 6 0 (.t 2)), ov (.st 0 (.t 30) (.c .nil))]) (.reg false [o 31 (.fa 10 0 (.t 2)), ov (.st 0 (.t 31) (.c (.int
  (-1)))), o 32 (.fa 11 0 (.t 2)), ov (.st 0 (.t 32) (.c (.int (-1))))])
def C.protocol_surplus_12 : ACode := .seq (.reg false [o 36 (.mv (.t 1)), o 37 (.bin .eql (.t 36) (.c (.int 4)))]) (.cond (.t 37) (.reg false [o 38 (.fa 16 0 (.t 2)), ov (.st 0 (.t
  38) (.c .nil))]) .skip)
def C.protocol_surplus_11 : ACode := .seq (.reg false [o 33 (.fa 13 0 (.t 2)), ov (.st 0 (.t 33) (.c (.int 0))), o 34 (.fa 14 0 (.t 2)), ov (.st 0 (.t 34) (.c .nil)), o 35 (.fa 15
  0 (.t 2)), ov (.st 0 (.t 35) (.c .nil))]) C.protocol_surplus_12
def C.protocol_surplus_13 : ACode := .seq (.reg false [o 39 (.fa 4 0 (.t 2)), ov (.st 0 (.t 39) (.c (.int 0))), o 40 (.fa 5 0 (.t 2)), ov (.st 0 (.t 40) (.c (.int 0))), o 41 (.fa
  17 0 (.t 2)), ov (.st 0 (.t 41) (.c (.int 0)))]) (.exit 0)
def C.protocol_surplus_1 : ACode := .seq (.reg false [o 6 (.fa 1 0 (.t 2)), o 7 (.ld 0 (.t 6))]) (.blk 0 (.seq (.blk 5 (.seq (.blk 4 (.seq (.blk 3 (.seq (.blk 2 (.seq (.blk 1 (.seq
  (.seq C.protocol_surplus_2 (.seq C.protocol_surplus_3 (.seq C.protocol_surplus_4 (.seq C.protocol_surplus_5 C.protocol_surplus_6)))) (.exit 0))) (.seq C.protocol_surplus_7 (.exit
  0)))) (.seq C.protocol_surplus_8 (.reg false [o 28 (.fa 4 0 (.t 2)), ov (.st 0 (.t 28) (.c (.int 0))), o 29 (.fa 5 0 (.t 2)), ov (.st 0 (.t 29) (.c (.int 0)))])))) (.seq
  C.protocol_surplus_10 (.exit 0)))) (.seq C.protocol_surplus_11 (.exit 0)))) C.protocol_surplus_13))
def C.protocol_surplus_15 : ACode := .seq (.reg false [o 73 (.mv (.t 5)), o 74 (.bin .gtr (.t 73) (.c (.int 0))), o 75 (.mv (.t 74)), og 76 75 false (.fa 4 0 (.t 2)), og 77 75
  false (.ld 0 (.t 76)), og 78 75 false (.bin .neq (.t 77) (.c (.int 0))), o 79 (.pick (.t 75) (.c (.bool true)) (.t 78)), o 80 (.mv (.t 79)), og 81 80 false (.fa 5 0 (.t 2)), og
  82 80 false (.ld 0 (.t 81)), og 83 80 false (.bin .neq (.t 82) (.c (.int 0))), o 84 (.pick (.t 80) (.c (.bool true)) (.t 83)), o 85 (.mv (.t 84)), og 86 85 false (.fa 13 0 (.t
  2)), og 87 85 false (.ld 0 (.t 86)), og 88 85 false (.bin .neq (.t 87) (.c (.int 0))), o 89 (.pick (.t 85) (.c (.bool true)) (.t 88)), o 90 (.mv (.t 89)), og 91 90 false (.fa 17
  0 (.t 2)), og 92 90 false (.ld 0 (.t 91)), og 93 90 false (.bin .neq (.t 92) (.c (.int 0))), o 94 (.pick (.t 90) (.c (.bool true)) (.t 93)), o 95 (.mv (.t 94)), og 96 95 false
  (.fa 10 0 (.t 2)), og 97 95 false (.ld 0 (.t 96)), og 98 95 false (.bin .neq (.t 97) (.c (.int (-1)))), o 99 (.pick (.t 95) (.c (.bool true)) (.t 98)), o 100 (.mv (.t 99)), og
  101 100 false (.fa 11 0 (.t 2)), og 102 100 false (.ld 0 (.t 101)), og 103 100 false (.bin .neq (.t 102) (.c (.int (-1)))), o 104 (.pick (.t 100) (.c (.bool true)) (.t 103)), o 4
  (.mv (.t 104))]) .ret
def C.protocol_surplus_14 : ACode := .seq (.reg false [o 42 (.fa 6 0 (.t 2)), o 43 (.ld 0 (.t 42)), o 44 (.len false (.t 43)), o 45 (.fa 7 0 (.t 2)), o 46 (.ld 0 (.t 45)), o 47
  (.len false (.t 46)), o 48 (.bin .add (.t 44) (.t 47)), o 49 (.fa 8 0 (.t 2)), o 50 (.ld 0 (.t 49)), o 51 (.len false (.t 50)), o 52 (.bin .add (.t 48) (.t 51)), o 53 (.fa 9 0
  (.t 2)), o 54 (.ld 0 (.t 53)), o 55 (.len false (.t 54)), o 56 (.bin .add (.t 52) (.t 55)), o 57 (.fa 12 0 (.t 2)), o 58 (.ld 0 (.t 57)), o 59 (.len false (.t 58)), o 60 (.bin
  .add (.t 56) (.t 59)), o 61 (.fa 14 0 (.t 2)), o 62 (.ld 0 (.t 61)), o 63 (.len false (.t 62)), o 64 (.bin .add (.t 60) (.t 63)), o 65 (.fa 15 0 (.t 2)), o 66 (.ld 0 (.t 65)), o
  67 (.len false (.t 66)), o 68 (.bin .add (.t 64) (.t 67)), o 69 (.fa 16 0 (.t 2)), o 70 (.ld 0 (.t 69)), o 71 (.len false (.t 70)), o 72 (.bin .add (.t 68) (.t 71)), o 5 (.mv (.t
  72))]) C.protocol_surplus_15
def C.protocol_surplus_0 : ACode := .seq (.reg false [o 2 (.box Y.api_Rule 19 (.t 0)), o 4 (.mv (.c (.bool false)))]) (.seq C.protocol_surplus_1 C.protocol_surplus_14)
def C.protocol_surplus : ACode := C.protocol_surplus_0
theorem C.protocol_surplus_eq : comp Tryz.prog (Tryz.f130.body.getD .skip) = some C.protocol_surplus := by kernel_rfl
theorem Bd.protocol_surplus : Body Tryz.prog F.protocol_surplus C.protocol_surplus [.slot 4] 105 := ⟨⟨_, _, Tryz.func130, by kernel_rfl, C.protocol_surplus_eq, by kernel_rfl, by kernel_rfl⟩, Tryz.call130, by kernel_rfl⟩
def C.protocol_guards_6 : ACode := .seq (.reg false [o 38 (.mv (.t 7)), o 4 (.mv (.t 38))]) .ret
def C.protocol_guards_5 : ACode := .seq (.reg false [o 36 (.mv (.t 7)), o 37 (.bin .neq (.t 36) (.c (.int 0)))]) (.cond (.t 37) C.protocol_guards_6 .skip)
def C.protocol_guards_4 : ACode := .seq (.reg true [o 14 (.fa 0 0 (.t 6)), o 15 (.ld 0 (.t 14)), o 16 (.fa 3 0 (.t 2)), o 17 (.ld 0 (.t 16)), o 18 (.len false (.t 17)), o 20 (.fa 1
  0 (.t 6)), o 21 (.ld 0 (.t 20)), o 22 (.bin .lss (.t 21) (.c (.int 1))), o 29 (.fa 2 5 (.t 6)), o 30 (.ld 5 (.t 29)), o 19 (.call F.protocol_index [(.t 15), (.t 18)]), o 23 (.mv
  (.t 22)), og 24 23 false (.fa 1 0 (.t 6)), og 25 23 false (.ld 0 (.t 24)), og 26 23 false (.bin .gtr (.t 25) (.c (.int 100))), o 27 (.pick (.t 23) (.c (.bool true)) (.t 26)), o
  28 (.call F.protocol_when [(.t 27), (.c (.int 1))]), o 31 (.call F.protocol_bounded [(.t 30)]), o 32 (.not (.t 31)), o 33 (.call F.protocol_when [(.t 32), (.c (.int 4))]), o 34
  (.ms Y.api_Errno 0 (.int 0) 3 [(0, (.t 19)), (1, (.t 28)), (2, (.t 33))]), o 35 (.call F.protocol_first [(.t 34)]), o 7 (.mv (.t 35))]) C.protocol_guards_5
def C.protocol_guards_3 : ACode := .seq (.reg false [o 12 (.ia 7 (.t 8) (.t 10)), o 13 (.ld 7 (.t 12)), o 6 (.al Y.api_Threshold 7 (.agg [(.int 0), (.int 0), (.int 0), (.int 0),
  (.int 0), (.int 0)])), ov (.st 7 (.t 6) (.t 13))]) C.protocol_guards_4
def C.protocol_guards_2 : ACode := .seq (.reg false [o 11 (.bin .lss (.t 10) (.t 9))]) (.seq (.cond (.t 11) .skip (.exit 0)) (.seq (.blk 1 C.protocol_guards_3) (.reg false [o 39
  (.bin .add (.t 10) (.c (.int 1))), o 10 (.mv (.t 39))])))
def C.protocol_guards_1 : ACode := .seq (.reg false [o 8 (.mv (.t 1)), o 9 (.len false (.t 8)), o 10 (.mv (.c (.int 0)))]) (.blk 0 (.loop C.protocol_guards_2))
def C.protocol_guards_7 : ACode := .seq (.reg false [o 40 (.mv (.t 1)), o 41 (.len false (.t 40)), o 42 (.bin .gtr (.t 41) (.c (.int 2))), o 43 (.call F.protocol_when [(.t 42), (.c
  (.int 4))]), o 4 (.mv (.t 43))]) .ret
def C.protocol_guards_0 : ACode := .seq (.reg false [o 2 (.box Y.api_Protocol 11 (.t 0)), o 4 (.mv (.c (.int 0)))]) (.seq C.protocol_guards_1 C.protocol_guards_7)
def C.protocol_guards : ACode := C.protocol_guards_0
theorem C.protocol_guards_eq : comp Tryz.prog (Tryz.f131.body.getD .skip) = some C.protocol_guards := by kernel_rfl
theorem Bd.protocol_guards : Body Tryz.prog F.protocol_guards C.protocol_guards [.slot 4] 44 := ⟨⟨_, _, Tryz.func131, by kernel_rfl, C.protocol_guards_eq, by kernel_rfl, by kernel_rfl⟩, Tryz.call131, by kernel_rfl⟩
def C.protocol_value_1 : ACode := .seq (.reg false [o 5 (.mv (.t 1)), o 6 (.bin .lss (.t 5) (.c (.int (-1)))), o 7 (.mv (.t 6)), og 8 7 false (.mv (.t 1)), og 9 7 false (.fa 4 0
  (.t 2)), og 10 7 false (.ld 0 (.t 9)), og 11 7 false (.len false (.t 10)), og 12 7 false (.bin .geq (.t 8) (.t 11)), o 13 (.pick (.t 7) (.c (.bool true)) (.t 12)), o 14 (.call
  F.protocol_when [(.t 13), (.c (.int 5))]), o 4 (.mv (.t 14))]) .ret
def C.protocol_value_0 : ACode := .seq (.reg false [o 2 (.box Y.api_Protocol 11 (.t 0)), o 4 (.mv (.c (.int 0)))]) C.protocol_value_1
def C.protocol_value : ACode := C.protocol_value_0
theorem C.protocol_value_eq : comp Tryz.prog (Tryz.f132.body.getD .skip) = some C.protocol_value := by kernel_rfl
theorem Bd.protocol_value : Body Tryz.prog F.protocol_value C.protocol_value [.slot 4] 15 := ⟨⟨_, _, Tryz.func132, by kernel_rfl, C.protocol_value_eq, by kernel_rfl, by kernel_rfl⟩, Tryz.call132, by kernel_rfl⟩
def C.protocol_responses_2 : ACode := .seq (.reg false [o 4 (.mv (.c (.int 1)))]) .ret
def C.protocol_responses_1 : ACode := .seq (.reg false [o 8 (.mv (.t 0)), o 9 (.len false (.t 8)), o 10 (.mv (.t 1)), o 11 (.bin .neq (.t 9) (.t 10))]) (.cond (.t 11)
  C.protocol_responses_2 .skip)
def C.protocol_responses_8 : ACode := .seq (.reg false [o 23 (.mv (.t 7)), o 4 (.mv (.t 23))]) .ret
def C.protocol_responses_7 : ACode := .seq (.reg false [o 21 (.mv (.t 7)), o 22 (.bin .neq (.t 21) (.c (.int 0)))]) (.cond (.t 22) C.protocol_responses_8 .skip)
def C.protocol_responses_6 : ACode := .seq (.reg false [o 18 (.mv (.t 6)), o 19 (.mv (.t 1)), o 20 (.call F.protocol_index [(.t 18), (.t 19)]), o 7 (.mv (.t 20))])
  C.protocol_responses_7
def C.protocol_responses_5 : ACode := .seq (.reg false [o 16 (.ia 0 (.t 12) (.t 14)), o 17 (.ld 0 (.t 16)), o 6 (.mv (.t 17))]) C.protocol_responses_6
def C.protocol_responses_4 : ACode := .seq (.reg false [o 15 (.bin .lss (.t 14) (.t 13))]) (.seq (.cond (.t 15) .skip (.exit 0)) (.seq (.blk 1 C.protocol_responses_5) (.reg false
  [o 24 (.bin .add (.t 14) (.c (.int 1))), o 14 (.mv (.t 24))])))
def C.protocol_responses_3 : ACode := .seq (.reg false [o 12 (.mv (.t 0)), o 13 (.len false (.t 12)), o 14 (.mv (.c (.int 0)))]) (.blk 0 (.loop C.protocol_responses_4))
def C.protocol_responses_9 : ACode := .seq (.reg false [o 4 (.mv (.c (.int 0)))]) .ret
def C.protocol_responses_0 : ACode := .seq (.reg false [o 4 (.mv (.c (.int 0)))]) (.seq C.protocol_responses_1 (.seq C.protocol_responses_3 C.protocol_responses_9))
def C.protocol_responses : ACode := C.protocol_responses_0
theorem C.protocol_responses_eq : comp Tryz.prog (Tryz.f133.body.getD .skip) = some C.protocol_responses := by kernel_rfl
theorem Bd.protocol_responses : Body Tryz.prog F.protocol_responses C.protocol_responses [.slot 4] 25 := ⟨⟨_, _, Tryz.func133, by kernel_rfl, C.protocol_responses_eq, by kernel_rfl, by kernel_rfl⟩, Tryz.call133, by kernel_rfl⟩
def C.slices_Contains_Lapi_Threshold_api_Threshold_1 : ACode := .seq (.reg false [o 5 (.mv (.t 0)), o 6 (.ld 7 (.t 3)), o 7 (.call F.slices_Index_Lapi_Threshold_api_Threshold [(.t
  5), (.t 6)]), o 8 (.bin .geq (.t 7) (.c (.int 0))), o 4 (.mv (.t 8))]) .ret
def C.slices_Contains_Lapi_Threshold_api_Threshold_0 : ACode := .seq (.reg false [o 3 (.box Y.api_Threshold 7 (.t 1)), o 4 (.mv (.c (.bool false)))])
  C.slices_Contains_Lapi_Threshold_api_Threshold_1
def C.slices_Contains_Lapi_Threshold_api_Threshold : ACode := C.slices_Contains_Lapi_Threshold_api_Threshold_0
theorem C.slices_Contains_Lapi_Threshold_api_Threshold_eq : comp Tryz.prog (Tryz.f134.body.getD .skip) = some C.slices_Contains_Lapi_Threshold_api_Threshold := by kernel_rfl
theorem Bd.slices_Contains_Lapi_Threshold_api_Threshold : Body Tryz.prog F.slices_Contains_Lapi_Threshold_api_Threshold C.slices_Contains_Lapi_Threshold_api_Threshold [.slot 4] 9 := ⟨⟨_, _, Tryz.func134, by kernel_rfl, C.slices_Contains_Lapi_Threshold_api_Threshold_eq, by kernel_rfl, by kernel_rfl⟩, Tryz.call134, by kernel_rfl⟩
def C.cover_valuesBefore_2 : ACode := .seq (.reg false [o 6 (.mv (.c .nil))]) .ret
def C.cover_valuesBefore_1 : ACode := .seq (.reg false [o 9 (.fa 11 0 (.t 4)), o 10 (.ld 0 (.t 9)), o 11 (.bin .geq (.t 10) (.c (.int 0))), o 12 (.mv (.t 11)), og 13 12 true (.fa
  11 0 (.t 4)), og 14 12 true (.ld 0 (.t 13)), og 15 12 true (.mv (.t 2)), og 16 12 true (.bin .neq (.t 14) (.t 15)), o 17 (.pick (.t 12) (.t 16) (.c (.bool false)))]) (.cond (.t
  17) C.cover_valuesBefore_2 .skip)
def C.cover_valuesBefore_4 : ACode := .seq (.reg false [o 6 (.mv (.c .nil))]) .ret
def C.cover_valuesBefore_3 : ACode := .seq (.reg false [o 18 (.fa 11 0 (.t 4)), o 19 (.ld 0 (.t 18)), o 20 (.bin .lss (.t 19) (.c (.int 0))), o 21 (.mv (.t 20)), og 22 21 true (.fa
  10 0 (.t 4)), og 23 21 true (.ld 0 (.t 22)), og 24 21 true (.bin .geq (.t 23) (.c (.int 0))), o 25 (.pick (.t 21) (.t 24) (.c (.bool false))), o 26 (.mv (.t 25)), og 27 26 true
  (.fa 10 0 (.t 4)), og 28 26 true (.ld 0 (.t 27)), og 29 26 true (.mv (.t 2)), og 30 26 true (.bin .neq (.t 28) (.t 29)), o 31 (.pick (.t 26) (.t 30) (.c (.bool false)))]) (.cond
  (.t 31) C.cover_valuesBefore_4 .skip)
def C.cover_valuesBefore_6 : ACode := .seq (.reg false [o 35 (.fa 10 0 (.t 4)), o 36 (.ld 0 (.t 35)), o 37 (.ms Y.int 0 (.int 0) 1 [(0, (.t 36))]), o 6 (.mv (.t 37))]) .ret
def C.cover_valuesBefore_5 : ACode := .seq (.reg false [o 32 (.fa 10 0 (.t 4)), o 33 (.ld 0 (.t 32)), o 34 (.bin .geq (.t 33) (.c (.int 0)))]) (.cond (.t 34) C.cover_valuesBefore_6
  .skip)
def C.cover_valuesBefore_8 : ACode := .seq (.reg false [o 41 (.mv (.t 2)), o 42 (.ms Y.int 0 (.int 0) 1 [(0, (.t 41))]), o 6 (.mv (.t 42))]) .ret
def C.cover_valuesBefore_7 : ACode := .seq (.reg false [o 38 (.fa 11 0 (.t 4)), o 39 (.ld 0 (.t 38)), o 40 (.bin .lss (.t 39) (.c (.int 0)))]) (.cond (.t 40) C.cover_valuesBefore_8
  .skip)
def C.cover_valuesBefore_12 : ACode := .seq (.reg false [o 49 (.mv (.t 47)), o 8 (.mv (.t 49))]) (.reg false [o 50 (.mv (.t 7)), o 51 (.mv (.t 8)), o 52 (.ms Y.int 0 (.int 0) 1
  [(0, (.t 51))]), o 53 (.app Y.int 0 8 (.t 50) (.t 52)), o 7 (.mv (.t 53))])
def C.cover_valuesBefore_11 : ACode := .seq (.reg false [o 48 (.bin .lss (.t 47) (.t 46))]) (.seq (.cond (.t 48) .skip (.exit 0)) (.seq (.blk 1 C.cover_valuesBefore_12) (.reg false
  [o 54 (.bin .add (.t 47) (.c (.int 1))), o 47 (.mv (.t 54))])))
def C.cover_valuesBefore_10 : ACode := .seq (.reg false [o 43 (.fa 4 0 (.t 3)), o 44 (.ld 0 (.t 43)), o 45 (.len false (.t 44)), o 46 (.mx (.c (.int 1)) (.t 45)), o 47 (.mv (.c
  (.int 0)))]) (.blk 0 (.loop C.cover_valuesBefore_11))
def C.cover_valuesBefore_13 : ACode := .seq (.reg false [o 55 (.mv (.t 7)), o 6 (.mv (.t 55))]) .ret
def C.cover_valuesBefore_9 : ACode := .seq (.reg false [o 7 (.mv (.c .nil))]) (.seq C.cover_valuesBefore_10 C.cover_valuesBefore_13)
def C.cover_valuesBefore_0 : ACode := .seq (.reg false [o 3 (.box Y.api_Protocol 11 (.t 0)), o 4 (.box Y.api_Rule 19 (.t 1)), o 6 (.mv (.c .nil))]) (.seq C.cover_valuesBefore_1
  (.seq C.cover_valuesBefore_3 (.seq C.cover_valuesBefore_5 (.seq C.cover_valuesBefore_7 C.cover_valuesBefore_9))))
def C.cover_valuesBefore : ACode := C.cover_valuesBefore_0
theorem C.cover_valuesBefore_eq : comp Tryz.prog (Tryz.f136.body.getD .skip) = some C.cover_valuesBefore := by kernel_rfl
theorem Bd.cover_valuesBefore : Body Tryz.prog F.cover_valuesBefore C.cover_valuesBefore [.slot 6] 56 := ⟨⟨_, _, Tryz.func136, by kernel_rfl, C.cover_valuesBefore_eq, by kernel_rfl, by kernel_rfl⟩, Tryz.call136, by kernel_rfl⟩
def C.cover_countsBefore_7 : ACode := .seq (.reg true [o 35 (.mv (.t 6)), o 36 (.fa 5 0 (.t 2)), o 37 (.ld 0 (.t 36)), o 38 (.mv (.t 6)), o 39 (.fa 5 0 (.t 2)), o 40 (.ld 0 (.t
  39)), o 41 (.ia 0 (.t 38) (.t 40)), o 42 (.ld 0 (.t 41)), o 43 (.bin .sub (.t 42) (.c (.int 1))), o 44 (.mx (.t 43) (.c (.int 0))), o 45 (.ia 0 (.t 35) (.t 37)), ov (.st 0 (.t
  45) (.t 44))]) (.reg false [o 46 (.mv (.t 6)), o 47 (.fa 4 0 (.t 2)), o 48 (.ld 0 (.t 47)), o 49 (.ia 0 (.t 46) (.t 48)), o 50 (.ld 0 (.t 49)), o 51 (.bin .add (.t 50) (.c (.int
  1))), o 52 (.ia 0 (.t 46) (.t 48)), ov (.st 0 (.t 52) (.t 51))])
def C.cover_countsBefore_12 : ACode := .seq (.reg false [o 4 (.mv (.c .nil)), o 5 (.mv (.c (.bool false)))]) .ret
def C.cover_countsBefore_11 : ACode := .seq (.reg false [o 62 (.mv (.t 8)), o 63 (.not (.t 62))]) (.cond (.t 63) C.cover_countsBefore_12 .skip)
def C.cover_countsBefore_10 : ACode := .seq (.reg false [o 56 (.fa 6 0 (.t 2)), o 57 (.ld 0 (.t 56)), o 58 (.mv (.t 6)), o 59 (.call F.cover_sources [(.t 57), (.t 58)]), o 55 (.mv
  (.t 59)), o 60 (.ex (.t 55) 0), o 61 (.ex (.t 55) 1), o 7 (.mv (.t 60)), o 8 (.mv (.t 61))]) C.cover_countsBefore_11
def C.cover_countsBefore_9 : ACode := .seq (.reg false [o 8 (.mv (.c (.bool false)))]) C.cover_countsBefore_10
def C.cover_countsBefore_8 : ACode := .seq (.reg false [o 54 (.bin .eql (.t 27) (.c (.int 3))), o 53 (.mv (.t 54))]) (.cond (.t 53) C.cover_countsBefore_9 .skip)
def C.cover_countsBefore_6 : ACode := .seq (.reg false [o 34 (.bin .eql (.t 27) (.c (.int 2))), o 33 (.mv (.t 34))]) (.cond (.t 33) C.cover_countsBefore_7 C.cover_countsBefore_8)
def C.cover_countsBefore_5 : ACode := .seq (.reg false [o 29 (.bin .eql (.t 27) (.c (.int 1))), o 28 (.mv (.t 29))]) (.cond (.t 28) (.reg false [o 30 (.ld 19 (.t 2)), o 31 (.mv (.t
  6)), o 32 (.call F.cover_withWitness [(.t 30), (.t 31)]), o 7 (.mv (.t 32))]) C.cover_countsBefore_6)
def C.cover_countsBefore_4 : ACode := .seq (.reg false [o 26 (.fa 1 0 (.t 2)), o 27 (.ld 0 (.t 26))]) (.blk 0 C.cover_countsBefore_5)
def C.cover_countsBefore_15 : ACode := .seq (.reg false [o 68 (.ia 0 (.t 64) (.t 66)), o 69 (.ld 0 (.t 68)), o 10 (.mv (.t 69))]) (.reg false [o 70 (.mv (.t 10)), o 71 (.fa 2 0 (.t
  2)), o 72 (.ld 0 (.t 71)), o 73 (.ia 0 (.t 70) (.t 72)), o 74 (.ld 0 (.t 73)), o 75 (.bin .add (.t 74) (.c (.int 1))), o 76 (.ia 0 (.t 70) (.t 72)), ov (.st 0 (.t 76) (.t 75))])
def C.cover_countsBefore_14 : ACode := .seq (.reg false [o 67 (.bin .lss (.t 66) (.t 65))]) (.seq (.cond (.t 67) .skip (.exit 1)) (.seq (.blk 2 C.cover_countsBefore_15) (.reg false
  [o 77 (.bin .add (.t 66) (.c (.int 1))), o 66 (.mv (.t 77))])))
def C.cover_countsBefore_13 : ACode := .seq (.reg false [o 64 (.mv (.t 7)), o 65 (.len false (.t 64)), o 66 (.mv (.c (.int 0)))]) (.blk 1 (.loop C.cover_countsBefore_14))
def C.cover_countsBefore_16 : ACode := .seq (.reg false [o 78 (.mv (.t 7)), o 4 (.mv (.t 78)), o 5 (.mv (.c (.bool true)))]) .ret
def C.cover_countsBefore_3 : ACode := .seq (.reg false [o 24 (.mv (.t 6)), o 25 (.mso Y.Lint 0 .nil 1 [(0, (.t 24))]), o 7 (.mv (.t 25))]) (.seq C.cover_countsBefore_4 (.seq
  C.cover_countsBefore_13 C.cover_countsBefore_16))
def C.cover_countsBefore_2 : ACode := .seq (.reg true [o 13 (.mv (.t 6)), o 14 (.fa 3 0 (.t 2)), o 15 (.ld 0 (.t 14)), o 16 (.mv (.t 6)), o 17 (.fa 3 0 (.t 2)), o 18 (.ld 0 (.t
  17)), o 19 (.ia 0 (.t 16) (.t 18)), o 20 (.ld 0 (.t 19)), o 21 (.bin .sub (.t 20) (.c (.int 1))), o 22 (.mx (.t 21) (.c (.int 0))), o 23 (.ia 0 (.t 13) (.t 15)), ov (.st 0 (.t
  23) (.t 22))]) C.cover_countsBefore_3
def C.cover_countsBefore_1 : ACode := .seq (.reg false [o 11 (.mv (.t 1)), o 12 (.app Y.int 0 8 (.c .nil) (.t 11)), o 6 (.mv (.t 12))]) C.cover_countsBefore_2
def C.cover_countsBefore_0 : ACode := .seq (.reg false [o 2 (.box Y.api_Rule 19 (.t 0)), o 4 (.mv (.c .nil)), o 5 (.mv (.c (.bool false)))]) C.cover_countsBefore_1
def C.cover_countsBefore : ACode := C.cover_countsBefore_0
theorem C.cover_countsBefore_eq : comp Tryz.prog (Tryz.f137.body.getD .skip) = some C.cover_countsBefore := by kernel_rfl
theorem Bd.cover_countsBefore : Body Tryz.prog F.cover_countsBefore C.cover_countsBefore [.slot 4, .slot 5] 79 := ⟨⟨_, _, Tryz.func137, by kernel_rfl, C.cover_countsBefore_eq, by kernel_rfl, by kernel_rfl⟩, Tryz.call137, by kernel_rfl⟩
def C.cover_item_above_1 : ACode := .seq (.reg false [o 5 (.ld 3 (.t 3)), o 6 (.fa 0 3 (.t 2)), o 7 (.ld 3 (.t 6)), o 8 (.call F.cover_Leq [(.t 5), (.t 7)]), o 9 (.mv (.t 8)), og
  10 9 true (.ld 3 (.t 3)), og 11 9 true (.fa 0 3 (.t 2)), og 12 9 true (.ld 3 (.t 11)), og 13 9 true (.call F.cover_Compare [(.t 10), (.t 12)]), og 14 9 true (.bin .neq (.t 13)
  (.c (.int 0))), o 15 (.pick (.t 9) (.t 14) (.c (.bool false))), o 4 (.mv (.t 15))]) .ret
def C.cover_item_above_0 : ACode := .seq (.reg false [o 2 (.box Y.cover_item 4 (.t 0)), o 3 (.box Y.api_Element 3 (.t 1)), o 4 (.mv (.c (.bool false)))]) C.cover_item_above_1
def C.cover_item_above : ACode := C.cover_item_above_0
theorem C.cover_item_above_eq : comp Tryz.prog (Tryz.f138.body.getD .skip) = some C.cover_item_above := by kernel_rfl
theorem Bd.cover_item_above : Body Tryz.prog F.cover_item_above C.cover_item_above [.slot 4] 16 := ⟨⟨_, _, Tryz.func138, by kernel_rfl, C.cover_item_above_eq, by kernel_rfl, by kernel_rfl⟩, Tryz.call138, by kernel_rfl⟩
def C.slices_ContainsFunc_Lapi_Element_api_Element_1 : ACode := .seq (.reg false [o 5 (.mv (.t 0)), o 6 (.mv (.t 1)), o 7 (.call F.slices_IndexFunc_Lapi_Element_api_Element [(.t
  5), (.t 6)]), o 8 (.bin .geq (.t 7) (.c (.int 0))), o 4 (.mv (.t 8))]) .ret
def C.slices_ContainsFunc_Lapi_Element_api_Element_0 : ACode := .seq (.reg false [o 4 (.mv (.c (.bool false)))]) C.slices_ContainsFunc_Lapi_Element_api_Element_1
def C.slices_ContainsFunc_Lapi_Element_api_Element : ACode := C.slices_ContainsFunc_Lapi_Element_api_Element_0
theorem C.slices_ContainsFunc_Lapi_Element_api_Element_eq : comp Tryz.prog (Tryz.f139.body.getD .skip) = some C.slices_ContainsFunc_Lapi_Element_api_Element := by kernel_rfl
theorem Bd.slices_ContainsFunc_Lapi_Element_api_Element : Body Tryz.prog F.slices_ContainsFunc_Lapi_Element_api_Element C.slices_ContainsFunc_Lapi_Element_api_Element [.slot 4] 9 := ⟨⟨_, _, Tryz.func139, by kernel_rfl, C.slices_ContainsFunc_Lapi_Element_api_Element_eq, by kernel_rfl, by kernel_rfl⟩, Tryz.call139, by kernel_rfl⟩
def C.cover_item_copied_1 : ACode := .seq (.reg true [⟨some 3, .fa 0 3 (.t 1), none, true, []⟩, ⟨some 4, .fa 0 0 (.t 3), none, true, []⟩, ⟨some 5, .ld 0 (.t 4), none, true, []⟩, o
  6 (.fa 0 3 (.t 1)), o 7 (.fa 1 0 (.t 6)), o 8 (.ld 0 (.t 7)), ⟨some 9, .app Y.int 0 8 (.c .nil) (.t 8), none, true, []⟩, o 10 (.mk [(.int 0), .nil] [(0, 1, (.t 5)), (1, 1, (.t
  9))]), ov (.st 3 (.t 2) (.t 10))]) .ret
def C.cover_item_copied_0 : ACode := .seq (.reg false [o 1 (.box Y.cover_item 4 (.t 0)), o 2 (.al Y.api_Element 3 (.agg [(.int 0), .nil]))]) C.cover_item_copied_1
def C.cover_item_copied : ACode := C.cover_item_copied_0
theorem C.cover_item_copied_eq : comp Tryz.prog (Tryz.f140.body.getD .skip) = some C.cover_item_copied := by kernel_rfl
theorem Bd.cover_item_copied : Body Tryz.prog F.cover_item_copied C.cover_item_copied [.cell 2 3] 11 := ⟨⟨_, _, Tryz.func140, by kernel_rfl, C.cover_item_copied_eq, by kernel_rfl, by kernel_rfl⟩, Tryz.call140, by kernel_rfl⟩
def C.slices_symMergeCmpFunc_api_Element_3 : ACode := .seq (.reg false [o 31 (.mv (.t 10)), o 32 (.mv (.t 11)), o 33 (.bin .lss (.t 31) (.t 32))]) (.cond (.t 33) .skip (.exit 0))
def C.slices_symMergeCmpFunc_api_Element_5 : ACode := .seq (.reg true [o 40 (.mv (.t 4)), o 41 (.mv (.t 0)), o 42 (.mv (.t 12)), o 43 (.ia 3 (.t 41) (.t 42)), o 44 (.ld 3 (.t 43)),
  o 45 (.mv (.t 0)), o 46 (.mv (.t 1)), o 47 (.ia 3 (.t 45) (.t 46)), o 48 (.ld 3 (.t 47)), o 49 (.callv (.t 40) [(.t 44), (.t 48)]), o 50 (.bin .lss (.t 49) (.c (.int 0)))])
  (.cond (.t 50) (.reg false [o 51 (.mv (.t 12)), o 52 (.bin .add (.t 51) (.c (.int 1))), o 10 (.mv (.t 52))]) (.reg false [o 53 (.mv (.t 12)), o 11 (.mv (.t 53))]))
def C.slices_symMergeCmpFunc_api_Element_4 : ACode := .seq (.reg false [o 34 (.mv (.t 10)), o 35 (.mv (.t 11)), o 36 (.bin .add (.t 34) (.t 35)), o 37 (.conv .u64 (.t 36)), o 38
  (.bin .shr (.t 37) (.c (.lit (.int .u64 1)))), o 39 (.conv .i64 (.t 38)), o 12 (.mv (.t 39))]) C.slices_symMergeCmpFunc_api_Element_5
def C.slices_symMergeCmpFunc_api_Element_7 : ACode := .seq (.reg false [o 55 (.mv (.t 13)), o 56 (.mv (.t 10)), o 57 (.bin .sub (.t 56) (.c (.int 1))), o 58 (.bin .lss (.t 55) (.t
  57))]) (.cond (.t 58) .skip (.exit 2))
def C.slices_symMergeCmpFunc_api_Element_6 : ACode := .seq (.reg false [o 54 (.mv (.t 1)), o 13 (.mv (.t 54))]) (.blk 2 (.loop (.seq C.slices_symMergeCmpFunc_api_Element_7 (.seq
  (.blk 3 (.reg true [o 61 (.mv (.t 0)), o 62 (.mv (.t 13)), o 63 (.mv (.t 0)), o 64 (.mv (.t 13)), o 65 (.bin .add (.t 64) (.c (.int 1))), o 66 (.mv (.t 0)), o 67 (.mv (.t 13)), o
  68 (.bin .add (.t 67) (.c (.int 1))), o 69 (.ia 3 (.t 66) (.t 68)), o 70 (.ld 3 (.t 69)), o 71 (.mv (.t 0)), o 72 (.mv (.t 13)), o 73 (.ia 3 (.t 71) (.t 72)), o 74 (.ld 3 (.t
  73)), o 75 (.ia 3 (.t 61) (.t 62)), ov (.st 3 (.t 75) (.t 70)), o 76 (.ia 3 (.t 63) (.t 65)), ov (.st 3 (.t 76) (.t 74))])) (.reg false [o 59 (.mv (.t 13)), o 60 (.bin .add (.t
  59) (.c (.int 1))), o 13 (.mv (.t 60))])))))
def C.slices_symMergeCmpFunc_api_Element_2 : ACode := .seq (.reg false [o 30 (.mv (.t 3)), o 11 (.mv (.t 30))]) (.seq (.blk 0 (.loop (.seq C.slices_symMergeCmpFunc_api_Element_3
  (.blk 1 C.slices_symMergeCmpFunc_api_Element_4)))) (.seq C.slices_symMergeCmpFunc_api_Element_6 .ret))
def C.slices_symMergeCmpFunc_api_Element_1 : ACode := .seq (.reg false [o 29 (.mv (.t 2)), o 10 (.mv (.t 29))]) C.slices_symMergeCmpFunc_api_Element_2
def C.slices_symMergeCmpFunc_api_Element_0 : ACode := .seq (.reg false [o 25 (.mv (.t 2)), o 26 (.mv (.t 1)), o 27 (.bin .sub (.t 25) (.t 26)), o 28 (.bin .eql (.t 27) (.c (.int
  1)))]) (.cond (.t 28) C.slices_symMergeCmpFunc_api_Element_1 .skip)
def C.slices_symMergeCmpFunc_api_Element_11 : ACode := .seq (.reg false [o 83 (.mv (.t 14)), o 84 (.mv (.t 15)), o 85 (.bin .lss (.t 83) (.t 84))]) (.cond (.t 85) .skip (.exit 4))
def C.slices_symMergeCmpFunc_api_Element_13 : ACode := .seq (.reg true [o 92 (.mv (.t 4)), o 93 (.mv (.t 0)), o 94 (.mv (.t 2)), o 95 (.ia 3 (.t 93) (.t 94)), o 96 (.ld 3 (.t 95)),
  o 97 (.mv (.t 0)), o 98 (.mv (.t 16)), o 99 (.ia 3 (.t 97) (.t 98)), o 100 (.ld 3 (.t 99)), o 101 (.callv (.t 92) [(.t 96), (.t 100)]), o 102 (.bin .lss (.t 101) (.c (.int 0))),
  o 103 (.not (.t 102))]) (.cond (.t 103) (.reg false [o 104 (.mv (.t 16)), o 105 (.bin .add (.t 104) (.c (.int 1))), o 14 (.mv (.t 105))]) (.reg false [o 106 (.mv (.t 16)), o 15
  (.mv (.t 106))]))
def C.slices_symMergeCmpFunc_api_Element_12 : ACode := .seq (.reg false [o 86 (.mv (.t 14)), o 87 (.mv (.t 15)), o 88 (.bin .add (.t 86) (.t 87)), o 89 (.conv .u64 (.t 88)), o 90
  (.bin .shr (.t 89) (.c (.lit (.int .u64 1)))), o 91 (.conv .i64 (.t 90)), o 16 (.mv (.t 91))]) C.slices_symMergeCmpFunc_api_Element_13
def C.slices_symMergeCmpFunc_api_Element_15 : ACode := .seq (.reg false [o 108 (.mv (.t 17)), o 109 (.mv (.t 14)), o 110 (.bin .gtr (.t 108) (.t 109))]) (.cond (.t 110) .skip
  (.exit 6))
def C.slices_symMergeCmpFunc_api_Element_14 : ACode := .seq (.reg false [o 107 (.mv (.t 2)), o 17 (.mv (.t 107))]) (.blk 6 (.loop (.seq C.slices_symMergeCmpFunc_api_Element_15
  (.seq (.blk 7 (.reg true [o 113 (.mv (.t 0)), o 114 (.mv (.t 17)), o 115 (.mv (.t 0)), o 116 (.mv (.t 17)), o 117 (.bin .sub (.t 116) (.c (.int 1))), o 118 (.mv (.t 0)), o 119
  (.mv (.t 17)), o 120 (.bin .sub (.t 119) (.c (.int 1))), o 121 (.ia 3 (.t 118) (.t 120)), o 122 (.ld 3 (.t 121)), o 123 (.mv (.t 0)), o 124 (.mv (.t 17)), o 125 (.ia 3 (.t 123)
  (.t 124)), o 126 (.ld 3 (.t 125)), o 127 (.ia 3 (.t 113) (.t 114)), ov (.st 3 (.t 127) (.t 122)), o 128 (.ia 3 (.t 115) (.t 117)), ov (.st 3 (.t 128) (.t 126))])) (.reg false [o
  111 (.mv (.t 17)), o 112 (.bin .sub (.t 111) (.c (.int 1))), o 17 (.mv (.t 112))])))))
def C.slices_symMergeCmpFunc_api_Element_10 : ACode := .seq (.reg false [o 82 (.mv (.t 2)), o 15 (.mv (.t 82))]) (.seq (.blk 4 (.loop (.seq C.slices_symMergeCmpFunc_api_Element_11
  (.blk 5 C.slices_symMergeCmpFunc_api_Element_12)))) (.seq C.slices_symMergeCmpFunc_api_Element_14 .ret))
def C.slices_symMergeCmpFunc_api_Element_9 : ACode := .seq (.reg false [o 81 (.mv (.t 1)), o 14 (.mv (.t 81))]) C.slices_symMergeCmpFunc_api_Element_10
def C.slices_symMergeCmpFunc_api_Element_8 : ACode := .seq (.reg false [o 77 (.mv (.t 3)), o 78 (.mv (.t 2)), o 79 (.bin .sub (.t 77) (.t 78)), o 80 (.bin .eql (.t 79) (.c (.int
  1)))]) (.cond (.t 80) C.slices_symMergeCmpFunc_api_Element_9 .skip)
def C.slices_symMergeCmpFunc_api_Element_20 : ACode := .seq (.reg false [o 141 (.mv (.t 19)), o 142 (.mv (.t 3)), o 143 (.bin .sub (.t 141) (.t 142)), o 20 (.mv (.t 143))]) (.reg
  false [o 144 (.mv (.t 18)), o 21 (.mv (.t 144))])
def C.slices_symMergeCmpFunc_api_Element_21 : ACode := .seq (.reg false [o 145 (.mv (.t 1)), o 20 (.mv (.t 145))]) (.reg false [o 146 (.mv (.t 2)), o 21 (.mv (.t 146))])
def C.slices_symMergeCmpFunc_api_Element_19 : ACode := .seq (.reg false [o 138 (.mv (.t 2)), o 139 (.mv (.t 18)), o 140 (.bin .gtr (.t 138) (.t 139))]) (.cond (.t 140)
  C.slices_symMergeCmpFunc_api_Element_20 C.slices_symMergeCmpFunc_api_Element_21)
def C.slices_symMergeCmpFunc_api_Element_23 : ACode := .seq (.reg false [o 149 (.mv (.t 20)), o 150 (.mv (.t 21)), o 151 (.bin .lss (.t 149) (.t 150))]) (.cond (.t 151) .skip
  (.exit 8))
def C.slices_symMergeCmpFunc_api_Element_25 : ACode := .seq (.reg true [o 158 (.mv (.t 4)), o 159 (.mv (.t 0)), o 160 (.mv (.t 22)), o 161 (.mv (.t 23)), o 162 (.bin .sub (.t 160)
  (.t 161)), o 163 (.ia 3 (.t 159) (.t 162)), o 164 (.ld 3 (.t 163)), o 165 (.mv (.t 0)), o 166 (.mv (.t 23)), o 167 (.ia 3 (.t 165) (.t 166)), o 168 (.ld 3 (.t 167)), o 169
  (.callv (.t 158) [(.t 164), (.t 168)]), o 170 (.bin .lss (.t 169) (.c (.int 0))), o 171 (.not (.t 170))]) (.cond (.t 171) (.reg false [o 172 (.mv (.t 23)), o 173 (.bin .add (.t
  172) (.c (.int 1))), o 20 (.mv (.t 173))]) (.reg false [o 174 (.mv (.t 23)), o 21 (.mv (.t 174))]))
def C.slices_symMergeCmpFunc_api_Element_24 : ACode := .seq (.reg false [o 152 (.mv (.t 20)), o 153 (.mv (.t 21)), o 154 (.bin .add (.t 152) (.t 153)), o 155 (.conv .u64 (.t 154)),
  o 156 (.bin .shr (.t 155) (.c (.lit (.int .u64 1)))), o 157 (.conv .i64 (.t 156)), o 23 (.mv (.t 157))]) C.slices_symMergeCmpFunc_api_Element_25
def C.slices_symMergeCmpFunc_api_Element_27 : ACode := .seq (.reg false [o 178 (.mv (.t 20)), o 179 (.mv (.t 2)), o 180 (.bin .lss (.t 178) (.t 179)), o 181 (.mv (.t 180)), og 182
  181 true (.mv (.t 2)), og 183 181 true (.mv (.t 24)), og 184 181 true (.bin .lss (.t 182) (.t 183)), o 185 (.pick (.t 181) (.t 184) (.c (.bool false)))]) (.cond (.t 185) (.reg
  false [o 186 (.mv (.t 0)), o 187 (.mv (.t 20)), o 188 (.mv (.t 2)), o 189 (.mv (.t 24)), o 190 (.mv (.t 4)), o 191 (.call F.slices_rotateCmpFunc_api_Element [(.t 186), (.t 187),
  (.t 188), (.t 189), (.t 190)])]) .skip)
def C.slices_symMergeCmpFunc_api_Element_28 : ACode := .seq (.reg false [o 192 (.mv (.t 1)), o 193 (.mv (.t 20)), o 194 (.bin .lss (.t 192) (.t 193)), o 195 (.mv (.t 194)), og 196
  195 true (.mv (.t 20)), og 197 195 true (.mv (.t 18)), og 198 195 true (.bin .lss (.t 196) (.t 197)), o 199 (.pick (.t 195) (.t 198) (.c (.bool false)))]) (.cond (.t 199) (.reg
  false [o 200 (.mv (.t 0)), o 201 (.mv (.t 1)), o 202 (.mv (.t 20)), o 203 (.mv (.t 18)), o 204 (.mv (.t 4)), o 205 (.call F.slices_symMergeCmpFunc_api_Element [(.t 200), (.t
  201), (.t 202), (.t 203), (.t 204)])]) .skip)
def C.slices_symMergeCmpFunc_api_Element_29 : ACode := .seq (.reg false [o 206 (.mv (.t 18)), o 207 (.mv (.t 24)), o 208 (.bin .lss (.t 206) (.t 207)), o 209 (.mv (.t 208)), og 210
  209 true (.mv (.t 24)), og 211 209 true (.mv (.t 3)), og 212 209 true (.bin .lss (.t 210) (.t 211)), o 213 (.pick (.t 209) (.t 212) (.c (.bool false)))]) (.cond (.t 213) (.reg
  false [o 214 (.mv (.t 0)), o 215 (.mv (.t 18)), o 216 (.mv (.t 24)), o 217 (.mv (.t 3)), o 218 (.mv (.t 4)), o 219 (.call F.slices_symMergeCmpFunc_api_Element [(.t 214), (.t
  215), (.t 216), (.t 217), (.t 218)])]) .skip)
def C.slices_symMergeCmpFunc_api_Element_26 : ACode := .seq (.reg false [o 175 (.mv (.t 19)), o 176 (.mv (.t 20)), o 177 (.bin .sub (.t 175) (.t 176)), o 24 (.mv (.t 177))]) (.seq
  C.slices_symMergeCmpFunc_api_Element_27 (.seq C.slices_symMergeCmpFunc_api_Element_28 C.slices_symMergeCmpFunc_api_Element_29))
def C.slices_symMergeCmpFunc_api_Element_22 : ACode := .seq (.reg false [o 147 (.mv (.t 19)), o 148 (.bin .sub (.t 147) (.c (.int 1))), o 22 (.mv (.t 148))]) (.seq (.blk 8 (.loop
  (.seq C.slices_symMergeCmpFunc_api_Element_23 (.blk 9 C.slices_symMergeCmpFunc_api_Element_24)))) C.slices_symMergeCmpFunc_api_Element_26)
def C.slices_symMergeCmpFunc_api_Element_18 : ACode := .seq (.reg false [o 20 (.mv (.c (.int 0))), o 21 (.mv (.c (.int 0)))]) (.seq C.slices_symMergeCmpFunc_api_Element_19
  C.slices_symMergeCmpFunc_api_Element_22)
def C.slices_symMergeCmpFunc_api_Element_17 : ACode := .seq (.reg false [o 135 (.mv (.t 18)), o 136 (.mv (.t 2)), o 137 (.bin .add (.t 135) (.t 136)), o 19 (.mv (.t 137))])
  C.slices_symMergeCmpFunc_api_Element_18
def C.slices_symMergeCmpFunc_api_Element_16 : ACode := .seq (.reg false [o 129 (.mv (.t 1)), o 130 (.mv (.t 3)), o 131 (.bin .add (.t 129) (.t 130)), o 132 (.conv .u64 (.t 131)), o
  133 (.bin .shr (.t 132) (.c (.lit (.int .u64 1)))), o 134 (.conv .i64 (.t 133)), o 18 (.mv (.t 134))]) C.slices_symMergeCmpFunc_api_Element_17
def C.slices_symMergeCmpFunc_api_Element : ACode := (.seq C.slices_symMergeCmpFunc_api_Element_0 (.seq C.slices_symMergeCmpFunc_api_Element_8
  C.slices_symMergeCmpFunc_api_Element_16))
theorem C.slices_symMergeCmpFunc_api_Element_eq : comp Tryz.prog (Tryz.f146.body.getD .skip) = some C.slices_symMergeCmpFunc_api_Element := by kernel_rfl
theorem Bd.slices_symMergeCmpFunc_api_Element : Body Tryz.prog F.slices_symMergeCmpFunc_api_Element C.slices_symMergeCmpFunc_api_Element [] 220 := ⟨⟨_, _, Tryz.func146, by kernel_rfl, C.slices_symMergeCmpFunc_api_Element_eq, by kernel_rfl, by kernel_rfl⟩, Tryz.call146, by kernel_rfl⟩
def C.slices_Index_Lstring_string_5 : ACode := .seq (.reg false [o 17 (.mv (.t 5)), o 4 (.mv (.t 17))]) .ret
def C.slices_Index_Lstring_string_4 : ACode := .seq (.reg false [o 11 (.mv (.t 1)), o 12 (.mv (.t 0)), o 13 (.mv (.t 5)), o 14 (.ia 0 (.t 12) (.t 13)), o 15 (.ld 0 (.t 14)), o 16
  (.bin .eql (.t 11) (.t 15))]) (.cond (.t 16) C.slices_Index_Lstring_string_5 .skip)
def C.slices_Index_Lstring_string_3 : ACode := .seq (.reg false [o 10 (.mv (.t 8)), o 5 (.mv (.t 10))]) C.slices_Index_Lstring_string_4
def C.slices_Index_Lstring_string_2 : ACode := .seq (.reg false [o 9 (.bin .lss (.t 8) (.t 7))]) (.seq (.cond (.t 9) .skip (.exit 0)) (.seq (.blk 1 C.slices_Index_Lstring_string_3)
  (.reg false [o 18 (.bin .add (.t 8) (.c (.int 1))), o 8 (.mv (.t 18))])))
def C.slices_Index_Lstring_string_1 : ACode := .seq (.reg false [o 6 (.mv (.t 0)), o 7 (.len false (.t 6)), o 8 (.mv (.c (.int 0)))]) (.blk 0 (.loop
  C.slices_Index_Lstring_string_2))
def C.slices_Index_Lstring_string_6 : ACode := .seq (.reg false [o 4 (.mv (.c (.int (-1))))]) .ret
def C.slices_Index_Lstring_string_0 : ACode := .seq (.reg false [o 4 (.mv (.c (.int 0)))]) (.seq C.slices_Index_Lstring_string_1 C.slices_Index_Lstring_string_6)
def C.slices_Index_Lstring_string : ACode := C.slices_Index_Lstring_string_0
theorem C.slices_Index_Lstring_string_eq : comp Tryz.prog (Tryz.f148.body.getD .skip) = some C.slices_Index_Lstring_string := by kernel_rfl
theorem Bd.slices_Index_Lstring_string : Body Tryz.prog F.slices_Index_Lstring_string C.slices_Index_Lstring_string [.slot 4] 19 := ⟨⟨_, _, Tryz.func148, by kernel_rfl, C.slices_Index_Lstring_string_eq, by kernel_rfl, by kernel_rfl⟩, Tryz.call148, by kernel_rfl⟩
def C.slices_IndexFunc_Lapi_Rule_api_Rule_5 : ACode := .seq (.reg false [o 17 (.mv (.t 5)), o 4 (.mv (.t 17))]) .ret
def C.slices_IndexFunc_Lapi_Rule_api_Rule_4 : ACode := .seq (.reg false [o 11 (.mv (.t 1)), o 12 (.mv (.t 0)), o 13 (.mv (.t 5)), o 14 (.ia 19 (.t 12) (.t 13)), o 15 (.ld 19 (.t
  14)), o 16 (.callv (.t 11) [(.t 15)])]) (.cond (.t 16) C.slices_IndexFunc_Lapi_Rule_api_Rule_5 .skip)
def C.slices_IndexFunc_Lapi_Rule_api_Rule_3 : ACode := .seq (.reg false [o 10 (.mv (.t 8)), o 5 (.mv (.t 10))]) C.slices_IndexFunc_Lapi_Rule_api_Rule_4
def C.slices_IndexFunc_Lapi_Rule_api_Rule_2 : ACode := .seq (.reg false [o 9 (.bin .lss (.t 8) (.t 7))]) (.seq (.cond (.t 9) .skip (.exit 0)) (.seq (.blk 1
  C.slices_IndexFunc_Lapi_Rule_api_Rule_3) (.reg false [o 18 (.bin .add (.t 8) (.c (.int 1))), o 8 (.mv (.t 18))])))
def C.slices_IndexFunc_Lapi_Rule_api_Rule_1 : ACode := .seq (.reg false [o 6 (.mv (.t 0)), o 7 (.len false (.t 6)), o 8 (.mv (.c (.int 0)))]) (.blk 0 (.loop
  C.slices_IndexFunc_Lapi_Rule_api_Rule_2))
def C.slices_IndexFunc_Lapi_Rule_api_Rule_6 : ACode := .seq (.reg false [o 4 (.mv (.c (.int (-1))))]) .ret
def C.slices_IndexFunc_Lapi_Rule_api_Rule_0 : ACode := .seq (.reg false [o 4 (.mv (.c (.int 0)))]) (.seq C.slices_IndexFunc_Lapi_Rule_api_Rule_1
  C.slices_IndexFunc_Lapi_Rule_api_Rule_6)
def C.slices_IndexFunc_Lapi_Rule_api_Rule : ACode := C.slices_IndexFunc_Lapi_Rule_api_Rule_0
theorem C.slices_IndexFunc_Lapi_Rule_api_Rule_eq : comp Tryz.prog (Tryz.f149.body.getD .skip) = some C.slices_IndexFunc_Lapi_Rule_api_Rule := by kernel_rfl
theorem Bd.slices_IndexFunc_Lapi_Rule_api_Rule : Body Tryz.prog F.slices_IndexFunc_Lapi_Rule_api_Rule C.slices_IndexFunc_Lapi_Rule_api_Rule [.slot 4] 19 := ⟨⟨_, _, Tryz.func149, by kernel_rfl, C.slices_IndexFunc_Lapi_Rule_api_Rule_eq, by kernel_rfl, by kernel_rfl⟩, Tryz.call149, by kernel_rfl⟩
def C.slices_Index_Lapi_Threshold_api_Threshold_5 : ACode := .seq (.reg false [o 17 (.mv (.t 5)), o 4 (.mv (.t 17))]) .ret
def C.slices_Index_Lapi_Threshold_api_Threshold_4 : ACode := .seq (.reg true [o 11 (.ld 7 (.t 3)), o 12 (.mv (.t 0)), o 13 (.mv (.t 5)), o 14 (.ia 7 (.t 12) (.t 13)), o 15 (.ld 7
  (.t 14)), o 16 (.eqs false 6 (.t 11) (.t 15))]) (.cond (.t 16) C.slices_Index_Lapi_Threshold_api_Threshold_5 .skip)
def C.slices_Index_Lapi_Threshold_api_Threshold_3 : ACode := .seq (.reg false [o 10 (.mv (.t 8)), o 5 (.mv (.t 10))]) C.slices_Index_Lapi_Threshold_api_Threshold_4
def C.slices_Index_Lapi_Threshold_api_Threshold_2 : ACode := .seq (.reg false [o 9 (.bin .lss (.t 8) (.t 7))]) (.seq (.cond (.t 9) .skip (.exit 0)) (.seq (.blk 1
  C.slices_Index_Lapi_Threshold_api_Threshold_3) (.reg false [o 18 (.bin .add (.t 8) (.c (.int 1))), o 8 (.mv (.t 18))])))
def C.slices_Index_Lapi_Threshold_api_Threshold_1 : ACode := .seq (.reg false [o 6 (.mv (.t 0)), o 7 (.len false (.t 6)), o 8 (.mv (.c (.int 0)))]) (.blk 0 (.loop
  C.slices_Index_Lapi_Threshold_api_Threshold_2))
def C.slices_Index_Lapi_Threshold_api_Threshold_6 : ACode := .seq (.reg false [o 4 (.mv (.c (.int (-1))))]) .ret
def C.slices_Index_Lapi_Threshold_api_Threshold_0 : ACode := .seq (.reg false [o 3 (.box Y.api_Threshold 7 (.t 1)), o 4 (.mv (.c (.int 0)))]) (.seq
  C.slices_Index_Lapi_Threshold_api_Threshold_1 C.slices_Index_Lapi_Threshold_api_Threshold_6)
def C.slices_Index_Lapi_Threshold_api_Threshold : ACode := C.slices_Index_Lapi_Threshold_api_Threshold_0
theorem C.slices_Index_Lapi_Threshold_api_Threshold_eq : comp Tryz.prog (Tryz.f150.body.getD .skip) = some C.slices_Index_Lapi_Threshold_api_Threshold := by kernel_rfl
theorem Bd.slices_Index_Lapi_Threshold_api_Threshold : Body Tryz.prog F.slices_Index_Lapi_Threshold_api_Threshold C.slices_Index_Lapi_Threshold_api_Threshold [.slot 4] 19 := ⟨⟨_, _, Tryz.func150, by kernel_rfl, C.slices_Index_Lapi_Threshold_api_Threshold_eq, by kernel_rfl, by kernel_rfl⟩, Tryz.call150, by kernel_rfl⟩
def C.cover_withWitness_2 : ACode := .seq (.reg false [o 12 (.mv (.t 1)), o 13 (.mso Y.Lint 0 .nil 1 [(0, (.t 12))]), o 4 (.mv (.t 13))]) .ret
def C.cover_withWitness_1 : ACode := .seq (.reg false [o 9 (.ld 19 (.t 2)), o 10 (.mv (.t 1)), o 11 (.call F.cover_allowed [(.t 9), (.t 10)])]) (.cond (.t 11) C.cover_withWitness_2
  .skip)
def C.cover_withWitness_8 : ACode := .seq (.reg false [o 23 (.mv (.t 8)), o 24 (.mv (.t 7)), o 25 (.ia 0 (.t 23) (.t 24)), o 26 (.ld 0 (.t 25)), o 27 (.bin .add (.t 26) (.c (.int
  1))), o 28 (.ia 0 (.t 23) (.t 24)), ov (.st 0 (.t 28) (.t 27))]) (.reg false [o 29 (.mv (.t 5)), o 30 (.mv (.t 8)), o 31 (.mso Y.Lint 0 .nil 1 [(0, (.t 30))]), o 32 (.app Y.Lint
  0 24 (.t 29) (.t 31)), o 5 (.mv (.t 32))])
def C.cover_withWitness_7 : ACode := .seq (.reg false [o 21 (.mv (.t 1)), o 22 (.app Y.int 0 8 (.c .nil) (.t 21)), o 8 (.mv (.t 22))]) C.cover_withWitness_8
def C.cover_withWitness_6 : ACode := .seq (.reg false [o 19 (.ia 0 (.t 15) (.t 17)), o 20 (.ld 0 (.t 19)), o 7 (.mv (.t 20))]) C.cover_withWitness_7
def C.cover_withWitness_5 : ACode := .seq (.reg false [o 18 (.bin .lss (.t 17) (.t 16))]) (.seq (.cond (.t 18) .skip (.exit 0)) (.seq (.blk 1 C.cover_withWitness_6) (.reg false [o
  33 (.bin .add (.t 17) (.c (.int 1))), o 17 (.mv (.t 33))])))
def C.cover_withWitness_4 : ACode := .seq (.reg false [o 14 (.fa 8 0 (.t 2)), o 15 (.ld 0 (.t 14)), o 16 (.len false (.t 15)), o 17 (.mv (.c (.int 0)))]) (.blk 0 (.loop
  C.cover_withWitness_5))
def C.cover_withWitness_9 : ACode := .seq (.reg false [o 34 (.mv (.t 5)), o 4 (.mv (.t 34))]) .ret
def C.cover_withWitness_3 : ACode := .seq (.reg false [o 5 (.mv (.c .nil))]) (.seq C.cover_withWitness_4 C.cover_withWitness_9)
def C.cover_withWitness_0 : ACode := .seq (.reg false [o 2 (.box Y.api_Rule 19 (.t 0)), o 4 (.mv (.c .nil))]) (.seq C.cover_withWitness_1 C.cover_withWitness_3)
def C.cover_withWitness : ACode := C.cover_withWitness_0
theorem C.cover_withWitness_eq : comp Tryz.prog (Tryz.f153.body.getD .skip) = some C.cover_withWitness := by kernel_rfl
theorem Bd.cover_withWitness : Body Tryz.prog F.cover_withWitness C.cover_withWitness [.slot 4] 35 := ⟨⟨_, _, Tryz.func153, by kernel_rfl, C.cover_withWitness_eq, by kernel_rfl, by kernel_rfl⟩, Tryz.call153, by kernel_rfl⟩
def C.slices_IndexFunc_Lapi_Element_api_Element_5 : ACode := .seq (.reg false [o 17 (.mv (.t 5)), o 4 (.mv (.t 17))]) .ret
def C.slices_IndexFunc_Lapi_Element_api_Element_4 : ACode := .seq (.reg false [o 11 (.mv (.t 1)), o 12 (.mv (.t 0)), o 13 (.mv (.t 5)), o 14 (.ia 3 (.t 12) (.t 13)), o 15 (.ld 3
  (.t 14)), o 16 (.callv (.t 11) [(.t 15)])]) (.cond (.t 16) C.slices_IndexFunc_Lapi_Element_api_Element_5 .skip)
def C.slices_IndexFunc_Lapi_Element_api_Element_3 : ACode := .seq (.reg false [o 10 (.mv (.t 8)), o 5 (.mv (.t 10))]) C.slices_IndexFunc_Lapi_Element_api_Element_4
def C.slices_IndexFunc_Lapi_Element_api_Element_2 : ACode := .seq (.reg false [o 9 (.bin .lss (.t 8) (.t 7))]) (.seq (.cond (.t 9) .skip (.exit 0)) (.seq (.blk 1
  C.slices_IndexFunc_Lapi_Element_api_Element_3) (.reg false [o 18 (.bin .add (.t 8) (.c (.int 1))), o 8 (.mv (.t 18))])))
def C.slices_IndexFunc_Lapi_Element_api_Element_1 : ACode := .seq (.reg false [o 6 (.mv (.t 0)), o 7 (.len false (.t 6)), o 8 (.mv (.c (.int 0)))]) (.blk 0 (.loop
  C.slices_IndexFunc_Lapi_Element_api_Element_2))
def C.slices_IndexFunc_Lapi_Element_api_Element_6 : ACode := .seq (.reg false [o 4 (.mv (.c (.int (-1))))]) .ret
def C.slices_IndexFunc_Lapi_Element_api_Element_0 : ACode := .seq (.reg false [o 4 (.mv (.c (.int 0)))]) (.seq C.slices_IndexFunc_Lapi_Element_api_Element_1
  C.slices_IndexFunc_Lapi_Element_api_Element_6)
def C.slices_IndexFunc_Lapi_Element_api_Element : ACode := C.slices_IndexFunc_Lapi_Element_api_Element_0
theorem C.slices_IndexFunc_Lapi_Element_api_Element_eq : comp Tryz.prog (Tryz.f155.body.getD .skip) = some C.slices_IndexFunc_Lapi_Element_api_Element := by kernel_rfl
theorem Bd.slices_IndexFunc_Lapi_Element_api_Element : Body Tryz.prog F.slices_IndexFunc_Lapi_Element_api_Element C.slices_IndexFunc_Lapi_Element_api_Element [.slot 4] 19 := ⟨⟨_, _, Tryz.func155, by kernel_rfl, C.slices_IndexFunc_Lapi_Element_api_Element_eq, by kernel_rfl, by kernel_rfl⟩, Tryz.call155, by kernel_rfl⟩
def C.slices_rotateCmpFunc_api_Element_2 : ACode := .seq (.reg false [o 18 (.mv (.t 10)), o 19 (.mv (.t 11)), o 20 (.bin .neq (.t 18) (.t 19))]) (.cond (.t 20) .skip (.exit 0))
def C.slices_rotateCmpFunc_api_Element_4 : ACode := .seq (.reg false [o 24 (.mv (.t 0)), o 25 (.mv (.t 2)), o 26 (.mv (.t 10)), o 27 (.bin .sub (.t 25) (.t 26)), o 28 (.mv (.t 2)),
  o 29 (.mv (.t 11)), o 30 (.mv (.t 4)), o 31 (.call F.slices_swapRangeCmpFunc_api_Element [(.t 24), (.t 27), (.t 28), (.t 29), (.t 30)])]) (.reg false [o 32 (.mv (.t 10)), o 33
  (.mv (.t 11)), o 34 (.bin .sub (.t 32) (.t 33)), o 10 (.mv (.t 34))])
def C.slices_rotateCmpFunc_api_Element_5 : ACode := .seq (.reg false [o 35 (.mv (.t 0)), o 36 (.mv (.t 2)), o 37 (.mv (.t 10)), o 38 (.bin .sub (.t 36) (.t 37)), o 39 (.mv (.t 2)),
  o 40 (.mv (.t 11)), o 41 (.bin .add (.t 39) (.t 40)), o 42 (.mv (.t 10)), o 43 (.bin .sub (.t 41) (.t 42)), o 44 (.mv (.t 10)), o 45 (.mv (.t 4)), o 46 (.call
  F.slices_swapRangeCmpFunc_api_Element [(.t 35), (.t 38), (.t 43), (.t 44), (.t 45)])]) (.reg false [o 47 (.mv (.t 11)), o 48 (.mv (.t 10)), o 49 (.bin .sub (.t 47) (.t 48)), o 11
  (.mv (.t 49))])
def C.slices_rotateCmpFunc_api_Element_3 : ACode := .seq (.reg false [o 21 (.mv (.t 10)), o 22 (.mv (.t 11)), o 23 (.bin .gtr (.t 21) (.t 22))]) (.cond (.t 23)
  C.slices_rotateCmpFunc_api_Element_4 C.slices_rotateCmpFunc_api_Element_5)
def C.slices_rotateCmpFunc_api_Element_1 : ACode := .seq (.reg false [o 15 (.mv (.t 3)), o 16 (.mv (.t 2)), o 17 (.bin .sub (.t 15) (.t 16)), o 11 (.mv (.t 17))]) (.seq (.blk 0
  (.loop (.seq C.slices_rotateCmpFunc_api_Element_2 (.blk 1 C.slices_rotateCmpFunc_api_Element_3)))) (.reg false [o 50 (.mv (.t 0)), o 51 (.mv (.t 2)), o 52 (.mv (.t 10)), o 53
  (.bin .sub (.t 51) (.t 52)), o 54 (.mv (.t 2)), o 55 (.mv (.t 10)), o 56 (.mv (.t 4)), o 57 (.call F.slices_swapRangeCmpFunc_api_Element [(.t 50), (.t 53), (.t 54), (.t 55), (.t
  56)])]))
def C.slices_rotateCmpFunc_api_Element_0 : ACode := .seq (.reg false [o 12 (.mv (.t 2)), o 13 (.mv (.t 1)), o 14 (.bin .sub (.t 12) (.t 13)), o 10 (.mv (.t 14))])
  C.slices_rotateCmpFunc_api_Element_1
def C.slices_rotateCmpFunc_api_Element : ACode := C.slices_rotateCmpFunc_api_Element_0
theorem C.slices_rotateCmpFunc_api_Element_eq : comp Tryz.prog (Tryz.f157.body.getD .skip) = some C.slices_rotateCmpFunc_api_Element := by kernel_rfl
theorem Bd.slices_rotateCmpFunc_api_Element : Body Tryz.prog F.slices_rotateCmpFunc_api_Element C.slices_rotateCmpFunc_api_Element [] 58 := ⟨⟨_, _, Tryz.func157, by kernel_rfl, C.slices_rotateCmpFunc_api_Element_eq, by kernel_rfl, by kernel_rfl⟩, Tryz.call157, by kernel_rfl⟩
def C.slices_swapRangeCmpFunc_api_Element_1 : ACode := .seq (.reg false [o 11 (.mv (.t 10)), o 12 (.mv (.t 3)), o 13 (.bin .lss (.t 11) (.t 12))]) (.cond (.t 13) .skip (.exit 0))
def C.slices_swapRangeCmpFunc_api_Element_0 : ACode := .seq (.reg false [o 10 (.mv (.c (.int 0)))]) (.blk 0 (.loop (.seq C.slices_swapRangeCmpFunc_api_Element_1 (.seq (.blk 1 (.reg
  true [o 16 (.mv (.t 0)), o 17 (.mv (.t 1)), o 18 (.mv (.t 10)), o 19 (.bin .add (.t 17) (.t 18)), o 20 (.mv (.t 0)), o 21 (.mv (.t 2)), o 22 (.mv (.t 10)), o 23 (.bin .add (.t
  21) (.t 22)), o 24 (.mv (.t 0)), o 25 (.mv (.t 2)), o 26 (.mv (.t 10)), o 27 (.bin .add (.t 25) (.t 26)), o 28 (.ia 3 (.t 24) (.t 27)), o 29 (.ld 3 (.t 28)), o 30 (.mv (.t 0)), o
  31 (.mv (.t 1)), o 32 (.mv (.t 10)), o 33 (.bin .add (.t 31) (.t 32)), o 34 (.ia 3 (.t 30) (.t 33)), o 35 (.ld 3 (.t 34)), o 36 (.ia 3 (.t 16) (.t 19)), ov (.st 3 (.t 36) (.t
  29)), o 37 (.ia 3 (.t 20) (.t 23)), ov (.st 3 (.t 37) (.t 35))])) (.reg false [o 14 (.mv (.t 10)), o 15 (.bin .add (.t 14) (.c (.int 1))), o 10 (.mv (.t 15))])))))
def C.slices_swapRangeCmpFunc_api_Element : ACode := C.slices_swapRangeCmpFunc_api_Element_0
theorem C.slices_swapRangeCmpFunc_api_Element_eq : comp Tryz.prog (Tryz.f160.body.getD .skip) = some C.slices_swapRangeCmpFunc_api_Element := by kernel_rfl
theorem Bd.slices_swapRangeCmpFunc_api_Element : Body Tryz.prog F.slices_swapRangeCmpFunc_api_Element C.slices_swapRangeCmpFunc_api_Element [] 38 := ⟨⟨_, _, Tryz.func160, by kernel_rfl, C.slices_swapRangeCmpFunc_api_Element_eq, by kernel_rfl, by kernel_rfl⟩, Tryz.call160, by kernel_rfl⟩
end Go.Proofs.YtgokbcjkbdabnaaGreatDoor
