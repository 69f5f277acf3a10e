/-
  Closed facts on the types and functions of this seat, by a program of this work (tab.py).
-/
import Derived.Test.YtomkdhkkggbioaaGreatDoorFg
import Derived.Test.YtomkdhkkggbioaaGreatDoorChecked
import Derived.KernelRfl
namespace Go.Proofs.YtomkdhkkggbioaaGreatDoor

theorem zero_0 : zeroOf Tryz.prog 0 = some (.tuple #[]) := by kernel_rfl
theorem some_0 : (Tryz.prog.underlying 0).isSome = true := by kernel_rfl
theorem flat_1 : flatB Tryz.prog 1 = true := by kernel_rfl
theorem size_1 : sizeIs Tryz.prog 1 1 = true := by kernel_rfl
theorem zero_1 : zeroOf Tryz.prog 1 = some (.nilFunc) := by kernel_rfl
theorem some_1 : (Tryz.prog.underlying 1).isSome = true := by kernel_rfl
theorem flat_2 : flatB Tryz.prog 2 = true := by kernel_rfl
theorem size_2 : sizeIs Tryz.prog 2 1 = true := by kernel_rfl
theorem zero_2 : zeroOf Tryz.prog 2 = some (.int .i64 0) := by kernel_rfl
theorem int_2 : Tryz.prog.underlying 2 = some (.int .i64) := by kernel_rfl
theorem some_2 : (Tryz.prog.underlying 2).isSome = true := by kernel_rfl
theorem flat_3 : flatB Tryz.prog 3 = true := by kernel_rfl
theorem size_3 : sizeIs Tryz.prog 3 1 = true := by kernel_rfl
theorem zero_3 : zeroOf Tryz.prog 3 = some (.int .i64 0) := by kernel_rfl
theorem int_3 : Tryz.prog.underlying 3 = some (.int .i64) := by kernel_rfl
theorem some_3 : (Tryz.prog.underlying 3).isSome = true := by kernel_rfl
theorem flat_4 : flatB Tryz.prog 4 = true := by kernel_rfl
theorem size_4 : sizeIs Tryz.prog 4 1 = true := by kernel_rfl
theorem zero_4 : zeroOf Tryz.prog 4 = some (.bool false) := by kernel_rfl
theorem bool_4 : Tryz.prog.underlying 4 = some .bool := by kernel_rfl
theorem some_4 : (Tryz.prog.underlying 4).isSome = true := by kernel_rfl
theorem flat_5 : flatB Tryz.prog 5 = true := by kernel_rfl
theorem size_5 : sizeIs Tryz.prog 5 1 = true := by kernel_rfl
theorem zero_5 : zeroOf Tryz.prog 5 = some (.int .u8 0) := by kernel_rfl
theorem int_5 : Tryz.prog.underlying 5 = some (.int .u8) := by kernel_rfl
theorem some_5 : (Tryz.prog.underlying 5).isSome = true := by kernel_rfl
theorem flat_9 : flatB Tryz.prog 9 = true := by kernel_rfl
theorem size_9 : sizeIs Tryz.prog 9 1 = true := by kernel_rfl
theorem zero_9 : zeroOf Tryz.prog 9 = some (.string ⟨#[]⟩) := by kernel_rfl
theorem str_9 : Tryz.prog.underlying 9 = some .string := by kernel_rfl
theorem some_9 : (Tryz.prog.underlying 9).isSome = true := by kernel_rfl
theorem flat_12 : flatB Tryz.prog 12 = true := by kernel_rfl
theorem size_12 : sizeIs Tryz.prog 12 1 = true := by kernel_rfl
theorem zero_12 : zeroOf Tryz.prog 12 = some (.int .u64 0) := by kernel_rfl
theorem int_12 : Tryz.prog.underlying 12 = some (.int .u64) := by kernel_rfl
theorem some_12 : (Tryz.prog.underlying 12).isSome = true := by kernel_rfl
theorem agg_13 : aggB Tryz.prog 13 = true := by kernel_rfl
theorem size_13 : sizeIs Tryz.prog 13 2 = true := by kernel_rfl
theorem zero_13 : zeroOf Tryz.prog 13 = some (.agg #[.string ⟨#[]⟩, .int .u64 0]) := by kernel_rfl
theorem plc_13 : placesOf Tryz.prog 13 = some [(0, 1), (1, 1)] := by kernel_rfl
theorem fld_13_0 : fieldOff Tryz.prog 13 0 = some 0 := by kernel_rfl
theorem fld_13_1 : fieldOff Tryz.prog 13 1 = some 1 := by kernel_rfl
theorem some_13 : (Tryz.prog.underlying 13).isSome = true := by kernel_rfl
theorem flat_20 : flatB Tryz.prog 20 = true := by kernel_rfl
theorem size_20 : sizeIs Tryz.prog 20 1 = true := by kernel_rfl
theorem zero_20 : zeroOf Tryz.prog 20 = some (.nilIface) := by kernel_rfl
theorem some_20 : (Tryz.prog.underlying 20).isSome = true := by kernel_rfl
theorem flat_21 : flatB Tryz.prog 21 = true := by kernel_rfl
theorem size_21 : sizeIs Tryz.prog 21 1 = true := by kernel_rfl
theorem zero_21 : zeroOf Tryz.prog 21 = some (.int .i32 0) := by kernel_rfl
theorem int_21 : Tryz.prog.underlying 21 = some (.int .i32) := by kernel_rfl
theorem some_21 : (Tryz.prog.underlying 21).isSome = true := by kernel_rfl
theorem flat_22 : flatB Tryz.prog 22 = true := by kernel_rfl
theorem size_22 : sizeIs Tryz.prog 22 1 = true := by kernel_rfl
theorem zero_22 : zeroOf Tryz.prog 22 = some (.slice none 0 0) := by kernel_rfl
theorem elem_22 : sliceElem Tryz.prog 22 = some 24 := by kernel_rfl
theorem row_22 : RowT Tryz.prog 22 24 3 48 (.agg #[.string ⟨#[]⟩, .int .i64 0, .slice none 0 0]) := ⟨by kernel_rfl, by kernel_rfl, rfl, by decide⟩
theorem some_22 : (Tryz.prog.underlying 22).isSome = true := by kernel_rfl
theorem agg_23 : aggB Tryz.prog 23 = true := by kernel_rfl
theorem size_23 : sizeIs Tryz.prog 23 3 = true := by kernel_rfl
theorem zero_23 : zeroOf Tryz.prog 23 = some (.agg #[.string ⟨#[]⟩, .int .i64 0, .slice none 0 0]) := by kernel_rfl
theorem plc_23 : placesOf Tryz.prog 23 = some [(0, 1), (1, 1), (2, 1)] := by kernel_rfl
theorem fld_23_0 : fieldOff Tryz.prog 23 0 = some 0 := by kernel_rfl
theorem fld_23_1 : fieldOff Tryz.prog 23 1 = some 1 := by kernel_rfl
theorem fld_23_2 : fieldOff Tryz.prog 23 2 = some 2 := by kernel_rfl
theorem some_23 : (Tryz.prog.underlying 23).isSome = true := by kernel_rfl
theorem agg_24 : aggB Tryz.prog 24 = true := by kernel_rfl
theorem size_24 : sizeIs Tryz.prog 24 3 = true := by kernel_rfl
theorem zero_24 : zeroOf Tryz.prog 24 = some (.agg #[.string ⟨#[]⟩, .int .i64 0, .slice none 0 0]) := by kernel_rfl
theorem plc_24 : placesOf Tryz.prog 24 = some [(0, 1), (1, 1), (2, 1)] := by kernel_rfl
theorem fld_24_0 : fieldOff Tryz.prog 24 0 = some 0 := by kernel_rfl
theorem fld_24_1 : fieldOff Tryz.prog 24 1 = some 1 := by kernel_rfl
theorem fld_24_2 : fieldOff Tryz.prog 24 2 = some 2 := by kernel_rfl
theorem some_24 : (Tryz.prog.underlying 24).isSome = true := by kernel_rfl
theorem flat_25 : flatB Tryz.prog 25 = true := by kernel_rfl
theorem size_25 : sizeIs Tryz.prog 25 1 = true := by kernel_rfl
theorem zero_25 : zeroOf Tryz.prog 25 = some (.nilFunc) := by kernel_rfl
theorem some_25 : (Tryz.prog.underlying 25).isSome = true := by kernel_rfl
theorem flat_26 : flatB Tryz.prog 26 = true := by kernel_rfl
theorem size_26 : sizeIs Tryz.prog 26 1 = true := by kernel_rfl
theorem zero_26 : zeroOf Tryz.prog 26 = some (.nilFunc) := by kernel_rfl
theorem some_26 : (Tryz.prog.underlying 26).isSome = true := by kernel_rfl
theorem flat_27 : flatB Tryz.prog 27 = true := by kernel_rfl
theorem size_27 : sizeIs Tryz.prog 27 1 = true := by kernel_rfl
theorem zero_27 : zeroOf Tryz.prog 27 = some (.nilFunc) := by kernel_rfl
theorem some_27 : (Tryz.prog.underlying 27).isSome = true := by kernel_rfl
theorem flat_28 : flatB Tryz.prog 28 = true := by kernel_rfl
theorem size_28 : sizeIs Tryz.prog 28 1 = true := by kernel_rfl
theorem zero_28 : zeroOf Tryz.prog 28 = some (.nilFunc) := by kernel_rfl
theorem some_28 : (Tryz.prog.underlying 28).isSome = true := by kernel_rfl
theorem flat_29 : flatB Tryz.prog 29 = true := by kernel_rfl
theorem size_29 : sizeIs Tryz.prog 29 1 = true := by kernel_rfl
theorem zero_29 : zeroOf Tryz.prog 29 = some (.nilFunc) := by kernel_rfl
theorem some_29 : (Tryz.prog.underlying 29).isSome = true := by kernel_rfl
theorem flat_30 : flatB Tryz.prog 30 = true := by kernel_rfl
theorem size_30 : sizeIs Tryz.prog 30 1 = true := by kernel_rfl
theorem zero_30 : zeroOf Tryz.prog 30 = some (.slice none 0 0) := by kernel_rfl
theorem elem_30 : sliceElem Tryz.prog 30 = some 39 := by kernel_rfl
theorem row_30 : RowT Tryz.prog 30 39 11 152 (.agg #[.int .u8 0, .string ⟨#[]⟩, .bool false, .int .u8 0, .string ⟨#[]⟩, .int .i64 0, .bool false, .slice none 0 0, .slice none 0 0, .int .i64 0, .slice none 0 0]) := ⟨by kernel_rfl, by kernel_rfl, rfl, by decide⟩
theorem some_30 : (Tryz.prog.underlying 30).isSome = true := by kernel_rfl
theorem zero_31 : zeroOf Tryz.prog 31 = some (.tuple #[.slice none 0 0, .int .i64 0, .int .i64 0]) := by kernel_rfl
theorem some_31 : (Tryz.prog.underlying 31).isSome = true := by kernel_rfl
theorem flat_32 : flatB Tryz.prog 32 = true := by kernel_rfl
theorem size_32 : sizeIs Tryz.prog 32 1 = true := by kernel_rfl
theorem zero_32 : zeroOf Tryz.prog 32 = some (.nilFunc) := by kernel_rfl
theorem some_32 : (Tryz.prog.underlying 32).isSome = true := by kernel_rfl
theorem flat_33 : flatB Tryz.prog 33 = true := by kernel_rfl
theorem size_33 : sizeIs Tryz.prog 33 1 = true := by kernel_rfl
theorem zero_33 : zeroOf Tryz.prog 33 = some (.slice none 0 0) := by kernel_rfl
theorem elem_33 : sliceElem Tryz.prog 33 = some 72 := by kernel_rfl
theorem row_33 : RowT Tryz.prog 33 72 4 56 (.agg #[.int .u8 0, .string ⟨#[]⟩, .int .i64 0, .slice none 0 0]) := ⟨by kernel_rfl, by kernel_rfl, rfl, by decide⟩
theorem some_33 : (Tryz.prog.underlying 33).isSome = true := by kernel_rfl
theorem flat_34 : flatB Tryz.prog 34 = true := by kernel_rfl
theorem size_34 : sizeIs Tryz.prog 34 1 = true := by kernel_rfl
theorem zero_34 : zeroOf Tryz.prog 34 = some (.slice none 0 0) := by kernel_rfl
theorem elem_34 : sliceElem Tryz.prog 34 = some 36 := by kernel_rfl
theorem row_34 : RowT Tryz.prog 34 36 6 88 (.agg #[.int .u8 0, .string ⟨#[]⟩, .int .i64 0, .bool false, .slice none 0 0, .slice none 0 0]) := ⟨by kernel_rfl, by kernel_rfl, rfl, by decide⟩
theorem some_34 : (Tryz.prog.underlying 34).isSome = true := by kernel_rfl
theorem agg_35 : aggB Tryz.prog 35 = true := by kernel_rfl
theorem size_35 : sizeIs Tryz.prog 35 6 = true := by kernel_rfl
theorem zero_35 : zeroOf Tryz.prog 35 = some (.agg #[.int .u8 0, .string ⟨#[]⟩, .int .i64 0, .bool false, .slice none 0 0, .slice none 0 0]) := by kernel_rfl
theorem plc_35 : placesOf Tryz.prog 35 = some [(0, 1), (1, 1), (2, 1), (3, 1), (4, 1), (5, 1)] := by kernel_rfl
theorem fld_35_0 : fieldOff Tryz.prog 35 0 = some 0 := by kernel_rfl
theorem fld_35_1 : fieldOff Tryz.prog 35 1 = some 1 := by kernel_rfl
theorem fld_35_2 : fieldOff Tryz.prog 35 2 = some 2 := by kernel_rfl
theorem fld_35_3 : fieldOff Tryz.prog 35 3 = some 3 := by kernel_rfl
theorem fld_35_4 : fieldOff Tryz.prog 35 4 = some 4 := by kernel_rfl
theorem fld_35_5 : fieldOff Tryz.prog 35 5 = some 5 := by kernel_rfl
theorem some_35 : (Tryz.prog.underlying 35).isSome = true := by kernel_rfl
theorem agg_36 : aggB Tryz.prog 36 = true := by kernel_rfl
theorem size_36 : sizeIs Tryz.prog 36 6 = true := by kernel_rfl
theorem zero_36 : zeroOf Tryz.prog 36 = some (.agg #[.int .u8 0, .string ⟨#[]⟩, .int .i64 0, .bool false, .slice none 0 0, .slice none 0 0]) := by kernel_rfl
theorem plc_36 : placesOf Tryz.prog 36 = some [(0, 1), (1, 1), (2, 1), (3, 1), (4, 1), (5, 1)] := by kernel_rfl
theorem fld_36_0 : fieldOff Tryz.prog 36 0 = some 0 := by kernel_rfl
theorem fld_36_1 : fieldOff Tryz.prog 36 1 = some 1 := by kernel_rfl
theorem fld_36_2 : fieldOff Tryz.prog 36 2 = some 2 := by kernel_rfl
theorem fld_36_3 : fieldOff Tryz.prog 36 3 = some 3 := by kernel_rfl
theorem fld_36_4 : fieldOff Tryz.prog 36 4 = some 4 := by kernel_rfl
theorem fld_36_5 : fieldOff Tryz.prog 36 5 = some 5 := by kernel_rfl
theorem some_36 : (Tryz.prog.underlying 36).isSome = true := by kernel_rfl
theorem flat_37 : flatB Tryz.prog 37 = true := by kernel_rfl
theorem size_37 : sizeIs Tryz.prog 37 1 = true := by kernel_rfl
theorem zero_37 : zeroOf Tryz.prog 37 = some (.slice none 0 0) := by kernel_rfl
theorem elem_37 : sliceElem Tryz.prog 37 = some 41 := by kernel_rfl
theorem row_37 : RowT Tryz.prog 37 41 5 72 (.agg #[.string ⟨#[]⟩, .bool false, .string ⟨#[]⟩, .int .i64 0, .slice none 0 0]) := ⟨by kernel_rfl, by kernel_rfl, rfl, by decide⟩
theorem some_37 : (Tryz.prog.underlying 37).isSome = true := by kernel_rfl
theorem agg_38 : aggB Tryz.prog 38 = true := by kernel_rfl
theorem size_38 : sizeIs Tryz.prog 38 11 = true := by kernel_rfl
theorem zero_38 : zeroOf Tryz.prog 38 = some (.agg #[.int .u8 0, .string ⟨#[]⟩, .bool false, .int .u8 0, .string ⟨#[]⟩, .int .i64 0, .bool false, .slice none 0 0, .slice none 0 0, .int .i64 0, .slice none 0 0]) := by kernel_rfl
theorem plc_38 : placesOf Tryz.prog 38 = some [(0, 1), (1, 1), (2, 1), (3, 6), (9, 1), (10, 1)] := by kernel_rfl
theorem fld_38_0 : fieldOff Tryz.prog 38 0 = some 0 := by kernel_rfl
theorem fld_38_1 : fieldOff Tryz.prog 38 1 = some 1 := by kernel_rfl
theorem fld_38_2 : fieldOff Tryz.prog 38 2 = some 2 := by kernel_rfl
theorem fld_38_3 : fieldOff Tryz.prog 38 3 = some 3 := by kernel_rfl
theorem fld_38_4 : fieldOff Tryz.prog 38 4 = some 9 := by kernel_rfl
theorem fld_38_5 : fieldOff Tryz.prog 38 5 = some 10 := by kernel_rfl
theorem some_38 : (Tryz.prog.underlying 38).isSome = true := by kernel_rfl
theorem agg_39 : aggB Tryz.prog 39 = true := by kernel_rfl
theorem size_39 : sizeIs Tryz.prog 39 11 = true := by kernel_rfl
theorem zero_39 : zeroOf Tryz.prog 39 = some (.agg #[.int .u8 0, .string ⟨#[]⟩, .bool false, .int .u8 0, .string ⟨#[]⟩, .int .i64 0, .bool false, .slice none 0 0, .slice none 0 0, .int .i64 0, .slice none 0 0]) := by kernel_rfl
theorem plc_39 : placesOf Tryz.prog 39 = some [(0, 1), (1, 1), (2, 1), (3, 6), (9, 1), (10, 1)] := by kernel_rfl
theorem fld_39_0 : fieldOff Tryz.prog 39 0 = some 0 := by kernel_rfl
theorem fld_39_1 : fieldOff Tryz.prog 39 1 = some 1 := by kernel_rfl
theorem fld_39_2 : fieldOff Tryz.prog 39 2 = some 2 := by kernel_rfl
theorem fld_39_3 : fieldOff Tryz.prog 39 3 = some 3 := by kernel_rfl
theorem fld_39_4 : fieldOff Tryz.prog 39 4 = some 9 := by kernel_rfl
theorem fld_39_5 : fieldOff Tryz.prog 39 5 = some 10 := by kernel_rfl
theorem some_39 : (Tryz.prog.underlying 39).isSome = true := by kernel_rfl
theorem agg_40 : aggB Tryz.prog 40 = true := by kernel_rfl
theorem size_40 : sizeIs Tryz.prog 40 5 = true := by kernel_rfl
theorem zero_40 : zeroOf Tryz.prog 40 = some (.agg #[.string ⟨#[]⟩, .bool false, .string ⟨#[]⟩, .int .i64 0, .slice none 0 0]) := by kernel_rfl
theorem plc_40 : placesOf Tryz.prog 40 = some [(0, 1), (1, 1), (2, 3)] := by kernel_rfl
theorem fld_40_0 : fieldOff Tryz.prog 40 0 = some 0 := by kernel_rfl
theorem fld_40_1 : fieldOff Tryz.prog 40 1 = some 1 := by kernel_rfl
theorem fld_40_2 : fieldOff Tryz.prog 40 2 = some 2 := by kernel_rfl
theorem some_40 : (Tryz.prog.underlying 40).isSome = true := by kernel_rfl
theorem agg_41 : aggB Tryz.prog 41 = true := by kernel_rfl
theorem size_41 : sizeIs Tryz.prog 41 5 = true := by kernel_rfl
theorem zero_41 : zeroOf Tryz.prog 41 = some (.agg #[.string ⟨#[]⟩, .bool false, .string ⟨#[]⟩, .int .i64 0, .slice none 0 0]) := by kernel_rfl
theorem plc_41 : placesOf Tryz.prog 41 = some [(0, 1), (1, 1), (2, 3)] := by kernel_rfl
theorem fld_41_0 : fieldOff Tryz.prog 41 0 = some 0 := by kernel_rfl
theorem fld_41_1 : fieldOff Tryz.prog 41 1 = some 1 := by kernel_rfl
theorem fld_41_2 : fieldOff Tryz.prog 41 2 = some 2 := by kernel_rfl
theorem some_41 : (Tryz.prog.underlying 41).isSome = true := by kernel_rfl
theorem flat_42 : flatB Tryz.prog 42 = true := by kernel_rfl
theorem size_42 : sizeIs Tryz.prog 42 1 = true := by kernel_rfl
theorem zero_42 : zeroOf Tryz.prog 42 = some (.nilFunc) := by kernel_rfl
theorem some_42 : (Tryz.prog.underlying 42).isSome = true := by kernel_rfl
theorem flat_43 : flatB Tryz.prog 43 = true := by kernel_rfl
theorem size_43 : sizeIs Tryz.prog 43 1 = true := by kernel_rfl
theorem zero_43 : zeroOf Tryz.prog 43 = some (.nilFunc) := by kernel_rfl
theorem some_43 : (Tryz.prog.underlying 43).isSome = true := by kernel_rfl
theorem flat_44 : flatB Tryz.prog 44 = true := by kernel_rfl
theorem size_44 : sizeIs Tryz.prog 44 1 = true := by kernel_rfl
theorem zero_44 : zeroOf Tryz.prog 44 = some (.nilFunc) := by kernel_rfl
theorem some_44 : (Tryz.prog.underlying 44).isSome = true := by kernel_rfl
theorem flat_45 : flatB Tryz.prog 45 = true := by kernel_rfl
theorem size_45 : sizeIs Tryz.prog 45 1 = true := by kernel_rfl
theorem zero_45 : zeroOf Tryz.prog 45 = some (.nilFunc) := by kernel_rfl
theorem some_45 : (Tryz.prog.underlying 45).isSome = true := by kernel_rfl
theorem flat_46 : flatB Tryz.prog 46 = true := by kernel_rfl
theorem size_46 : sizeIs Tryz.prog 46 1 = true := by kernel_rfl
theorem zero_46 : zeroOf Tryz.prog 46 = some (.nilFunc) := by kernel_rfl
theorem some_46 : (Tryz.prog.underlying 46).isSome = true := by kernel_rfl
theorem flat_47 : flatB Tryz.prog 47 = true := by kernel_rfl
theorem size_47 : sizeIs Tryz.prog 47 1 = true := by kernel_rfl
theorem zero_47 : zeroOf Tryz.prog 47 = some (.nilFunc) := by kernel_rfl
theorem some_47 : (Tryz.prog.underlying 47).isSome = true := by kernel_rfl
theorem flat_48 : flatB Tryz.prog 48 = true := by kernel_rfl
theorem size_48 : sizeIs Tryz.prog 48 1 = true := by kernel_rfl
theorem zero_48 : zeroOf Tryz.prog 48 = some (.nilFunc) := by kernel_rfl
theorem some_48 : (Tryz.prog.underlying 48).isSome = true := by kernel_rfl
theorem flat_49 : flatB Tryz.prog 49 = true := by kernel_rfl
theorem size_49 : sizeIs Tryz.prog 49 1 = true := by kernel_rfl
theorem zero_49 : zeroOf Tryz.prog 49 = some (.nilFunc) := by kernel_rfl
theorem some_49 : (Tryz.prog.underlying 49).isSome = true := by kernel_rfl
theorem flat_50 : flatB Tryz.prog 50 = true := by kernel_rfl
theorem size_50 : sizeIs Tryz.prog 50 1 = true := by kernel_rfl
theorem zero_50 : zeroOf Tryz.prog 50 = some (.nilFunc) := by kernel_rfl
theorem some_50 : (Tryz.prog.underlying 50).isSome = true := by kernel_rfl
theorem flat_51 : flatB Tryz.prog 51 = true := by kernel_rfl
theorem size_51 : sizeIs Tryz.prog 51 1 = true := by kernel_rfl
theorem zero_51 : zeroOf Tryz.prog 51 = some (.nilFunc) := by kernel_rfl
theorem some_51 : (Tryz.prog.underlying 51).isSome = true := by kernel_rfl
theorem flat_52 : flatB Tryz.prog 52 = true := by kernel_rfl
theorem size_52 : sizeIs Tryz.prog 52 1 = true := by kernel_rfl
theorem zero_52 : zeroOf Tryz.prog 52 = some (.nilFunc) := by kernel_rfl
theorem some_52 : (Tryz.prog.underlying 52).isSome = true := by kernel_rfl
theorem flat_53 : flatB Tryz.prog 53 = true := by kernel_rfl
theorem size_53 : sizeIs Tryz.prog 53 1 = true := by kernel_rfl
theorem zero_53 : zeroOf Tryz.prog 53 = some (.slice none 0 0) := by kernel_rfl
theorem elem_53 : sliceElem Tryz.prog 53 = some 81 := by kernel_rfl
theorem row_53 : RowT Tryz.prog 53 81 3 32 (.agg #[.int .u8 0, .string ⟨#[]⟩, .int .i64 0]) := ⟨by kernel_rfl, by kernel_rfl, rfl, by decide⟩
theorem some_53 : (Tryz.prog.underlying 53).isSome = true := by kernel_rfl
theorem zero_54 : zeroOf Tryz.prog 54 = some (.tuple #[.slice none 0 0, .int .i64 0, .int .i64 0]) := by kernel_rfl
theorem some_54 : (Tryz.prog.underlying 54).isSome = true := by kernel_rfl
theorem flat_55 : flatB Tryz.prog 55 = true := by kernel_rfl
theorem size_55 : sizeIs Tryz.prog 55 1 = true := by kernel_rfl
theorem zero_55 : zeroOf Tryz.prog 55 = some (.nilFunc) := by kernel_rfl
theorem some_55 : (Tryz.prog.underlying 55).isSome = true := by kernel_rfl
theorem flat_56 : flatB Tryz.prog 56 = true := by kernel_rfl
theorem size_56 : sizeIs Tryz.prog 56 1 = true := by kernel_rfl
theorem zero_56 : zeroOf Tryz.prog 56 = some (.pointer none) := by kernel_rfl
theorem ptr_56 : Tryz.prog.underlying 56 = some (.pointer (Tryz.prog.pointee 56)) := by kernel_rfl
theorem some_56 : (Tryz.prog.underlying 56).isSome = true := by kernel_rfl
theorem agg_57 : aggB Tryz.prog 57 = true := by kernel_rfl
theorem size_57 : sizeIs Tryz.prog 57 5 = true := by kernel_rfl
theorem zero_57 : zeroOf Tryz.prog 57 = some (.agg #[.slice none 0 0, .int .i64 0, .int .i64 0, .int .i64 0, .int .i64 0]) := by kernel_rfl
theorem plc_57 : placesOf Tryz.prog 57 = some [(0, 1), (1, 1), (2, 1), (3, 1), (4, 1)] := by kernel_rfl
theorem fld_57_0 : fieldOff Tryz.prog 57 0 = some 0 := by kernel_rfl
theorem fld_57_1 : fieldOff Tryz.prog 57 1 = some 1 := by kernel_rfl
theorem fld_57_2 : fieldOff Tryz.prog 57 2 = some 2 := by kernel_rfl
theorem fld_57_3 : fieldOff Tryz.prog 57 3 = some 3 := by kernel_rfl
theorem fld_57_4 : fieldOff Tryz.prog 57 4 = some 4 := by kernel_rfl
theorem some_57 : (Tryz.prog.underlying 57).isSome = true := by kernel_rfl
theorem agg_58 : aggB Tryz.prog 58 = true := by kernel_rfl
theorem size_58 : sizeIs Tryz.prog 58 5 = true := by kernel_rfl
theorem zero_58 : zeroOf Tryz.prog 58 = some (.agg #[.slice none 0 0, .int .i64 0, .int .i64 0, .int .i64 0, .int .i64 0]) := by kernel_rfl
theorem plc_58 : placesOf Tryz.prog 58 = some [(0, 1), (1, 1), (2, 1), (3, 1), (4, 1)] := by kernel_rfl
theorem fld_58_0 : fieldOff Tryz.prog 58 0 = some 0 := by kernel_rfl
theorem fld_58_1 : fieldOff Tryz.prog 58 1 = some 1 := by kernel_rfl
theorem fld_58_2 : fieldOff Tryz.prog 58 2 = some 2 := by kernel_rfl
theorem fld_58_3 : fieldOff Tryz.prog 58 3 = some 3 := by kernel_rfl
theorem fld_58_4 : fieldOff Tryz.prog 58 4 = some 4 := by kernel_rfl
theorem some_58 : (Tryz.prog.underlying 58).isSome = true := by kernel_rfl
theorem flat_59 : flatB Tryz.prog 59 = true := by kernel_rfl
theorem size_59 : sizeIs Tryz.prog 59 1 = true := by kernel_rfl
theorem zero_59 : zeroOf Tryz.prog 59 = some (.nilFunc) := by kernel_rfl
theorem some_59 : (Tryz.prog.underlying 59).isSome = true := by kernel_rfl
theorem flat_60 : flatB Tryz.prog 60 = true := by kernel_rfl
theorem size_60 : sizeIs Tryz.prog 60 1 = true := by kernel_rfl
theorem zero_60 : zeroOf Tryz.prog 60 = some (.nilFunc) := by kernel_rfl
theorem some_60 : (Tryz.prog.underlying 60).isSome = true := by kernel_rfl
theorem flat_61 : flatB Tryz.prog 61 = true := by kernel_rfl
theorem size_61 : sizeIs Tryz.prog 61 1 = true := by kernel_rfl
theorem zero_61 : zeroOf Tryz.prog 61 = some (.nilFunc) := by kernel_rfl
theorem some_61 : (Tryz.prog.underlying 61).isSome = true := by kernel_rfl
theorem flat_62 : flatB Tryz.prog 62 = true := by kernel_rfl
theorem size_62 : sizeIs Tryz.prog 62 1 = true := by kernel_rfl
theorem zero_62 : zeroOf Tryz.prog 62 = some (.pointer none) := by kernel_rfl
theorem ptr_62 : Tryz.prog.underlying 62 = some (.pointer (Tryz.prog.pointee 62)) := by kernel_rfl
theorem some_62 : (Tryz.prog.underlying 62).isSome = true := by kernel_rfl
theorem flat_63 : flatB Tryz.prog 63 = true := by kernel_rfl
theorem size_63 : sizeIs Tryz.prog 63 1 = true := by kernel_rfl
theorem zero_63 : zeroOf Tryz.prog 63 = some (.nilFunc) := by kernel_rfl
theorem some_63 : (Tryz.prog.underlying 63).isSome = true := by kernel_rfl
theorem flat_64 : flatB Tryz.prog 64 = true := by kernel_rfl
theorem size_64 : sizeIs Tryz.prog 64 1 = true := by kernel_rfl
theorem zero_64 : zeroOf Tryz.prog 64 = some (.slice none 0 0) := by kernel_rfl
theorem elem_64 : sliceElem Tryz.prog 64 = some 5 := by kernel_rfl
theorem row_64 : RowT Tryz.prog 64 5 1 1 (.int .u8 0) := ⟨by kernel_rfl, by kernel_rfl, rfl, by decide⟩
theorem some_64 : (Tryz.prog.underlying 64).isSome = true := by kernel_rfl
theorem flat_65 : flatB Tryz.prog 65 = true := by kernel_rfl
theorem size_65 : sizeIs Tryz.prog 65 1 = true := by kernel_rfl
theorem zero_65 : zeroOf Tryz.prog 65 = some (.nilFunc) := by kernel_rfl
theorem some_65 : (Tryz.prog.underlying 65).isSome = true := by kernel_rfl
theorem flat_66 : flatB Tryz.prog 66 = true := by kernel_rfl
theorem size_66 : sizeIs Tryz.prog 66 1 = true := by kernel_rfl
theorem zero_66 : zeroOf Tryz.prog 66 = some (.slice none 0 0) := by kernel_rfl
theorem elem_66 : sliceElem Tryz.prog 66 = some 9 := by kernel_rfl
theorem row_66 : RowT Tryz.prog 66 9 1 16 (.string ⟨#[]⟩) := ⟨by kernel_rfl, by kernel_rfl, rfl, by decide⟩
theorem some_66 : (Tryz.prog.underlying 66).isSome = true := by kernel_rfl
theorem flat_67 : flatB Tryz.prog 67 = true := by kernel_rfl
theorem size_67 : sizeIs Tryz.prog 67 1 = true := by kernel_rfl
theorem zero_67 : zeroOf Tryz.prog 67 = some (.nilFunc) := by kernel_rfl
theorem some_67 : (Tryz.prog.underlying 67).isSome = true := by kernel_rfl
theorem flat_68 : flatB Tryz.prog 68 = true := by kernel_rfl
theorem size_68 : sizeIs Tryz.prog 68 1 = true := by kernel_rfl
theorem zero_68 : zeroOf Tryz.prog 68 = some (.nilFunc) := by kernel_rfl
theorem some_68 : (Tryz.prog.underlying 68).isSome = true := by kernel_rfl
theorem flat_69 : flatB Tryz.prog 69 = true := by kernel_rfl
theorem size_69 : sizeIs Tryz.prog 69 1 = true := by kernel_rfl
theorem zero_69 : zeroOf Tryz.prog 69 = some (.nilFunc) := by kernel_rfl
theorem some_69 : (Tryz.prog.underlying 69).isSome = true := by kernel_rfl
theorem flat_70 : flatB Tryz.prog 70 = true := by kernel_rfl
theorem size_70 : sizeIs Tryz.prog 70 1 = true := by kernel_rfl
theorem zero_70 : zeroOf Tryz.prog 70 = some (.nilFunc) := by kernel_rfl
theorem some_70 : (Tryz.prog.underlying 70).isSome = true := by kernel_rfl
theorem agg_71 : aggB Tryz.prog 71 = true := by kernel_rfl
theorem size_71 : sizeIs Tryz.prog 71 4 = true := by kernel_rfl
theorem zero_71 : zeroOf Tryz.prog 71 = some (.agg #[.int .u8 0, .string ⟨#[]⟩, .int .i64 0, .slice none 0 0]) := by kernel_rfl
theorem plc_71 : placesOf Tryz.prog 71 = some [(0, 1), (1, 1), (2, 1), (3, 1)] := by kernel_rfl
theorem fld_71_0 : fieldOff Tryz.prog 71 0 = some 0 := by kernel_rfl
theorem fld_71_1 : fieldOff Tryz.prog 71 1 = some 1 := by kernel_rfl
theorem fld_71_2 : fieldOff Tryz.prog 71 2 = some 2 := by kernel_rfl
theorem fld_71_3 : fieldOff Tryz.prog 71 3 = some 3 := by kernel_rfl
theorem some_71 : (Tryz.prog.underlying 71).isSome = true := by kernel_rfl
theorem agg_72 : aggB Tryz.prog 72 = true := by kernel_rfl
theorem size_72 : sizeIs Tryz.prog 72 4 = true := by kernel_rfl
theorem zero_72 : zeroOf Tryz.prog 72 = some (.agg #[.int .u8 0, .string ⟨#[]⟩, .int .i64 0, .slice none 0 0]) := by kernel_rfl
theorem plc_72 : placesOf Tryz.prog 72 = some [(0, 1), (1, 1), (2, 1), (3, 1)] := by kernel_rfl
theorem fld_72_0 : fieldOff Tryz.prog 72 0 = some 0 := by kernel_rfl
theorem fld_72_1 : fieldOff Tryz.prog 72 1 = some 1 := by kernel_rfl
theorem fld_72_2 : fieldOff Tryz.prog 72 2 = some 2 := by kernel_rfl
theorem fld_72_3 : fieldOff Tryz.prog 72 3 = some 3 := by kernel_rfl
theorem some_72 : (Tryz.prog.underlying 72).isSome = true := by kernel_rfl
theorem flat_73 : flatB Tryz.prog 73 = true := by kernel_rfl
theorem size_73 : sizeIs Tryz.prog 73 1 = true := by kernel_rfl
theorem zero_73 : zeroOf Tryz.prog 73 = some (.nilFunc) := by kernel_rfl
theorem some_73 : (Tryz.prog.underlying 73).isSome = true := by kernel_rfl
theorem flat_74 : flatB Tryz.prog 74 = true := by kernel_rfl
theorem size_74 : sizeIs Tryz.prog 74 1 = true := by kernel_rfl
theorem zero_74 : zeroOf Tryz.prog 74 = some (.nilFunc) := by kernel_rfl
theorem some_74 : (Tryz.prog.underlying 74).isSome = true := by kernel_rfl
theorem flat_75 : flatB Tryz.prog 75 = true := by kernel_rfl
theorem size_75 : sizeIs Tryz.prog 75 1 = true := by kernel_rfl
theorem zero_75 : zeroOf Tryz.prog 75 = some (.nilFunc) := by kernel_rfl
theorem some_75 : (Tryz.prog.underlying 75).isSome = true := by kernel_rfl
theorem flat_76 : flatB Tryz.prog 76 = true := by kernel_rfl
theorem size_76 : sizeIs Tryz.prog 76 1 = true := by kernel_rfl
theorem zero_76 : zeroOf Tryz.prog 76 = some (.nilFunc) := by kernel_rfl
theorem some_76 : (Tryz.prog.underlying 76).isSome = true := by kernel_rfl
theorem flat_77 : flatB Tryz.prog 77 = true := by kernel_rfl
theorem size_77 : sizeIs Tryz.prog 77 1 = true := by kernel_rfl
theorem zero_77 : zeroOf Tryz.prog 77 = some (.nilFunc) := by kernel_rfl
theorem some_77 : (Tryz.prog.underlying 77).isSome = true := by kernel_rfl
theorem flat_78 : flatB Tryz.prog 78 = true := by kernel_rfl
theorem size_78 : sizeIs Tryz.prog 78 1 = true := by kernel_rfl
theorem zero_78 : zeroOf Tryz.prog 78 = some (.nilFunc) := by kernel_rfl
theorem some_78 : (Tryz.prog.underlying 78).isSome = true := by kernel_rfl
theorem flat_79 : flatB Tryz.prog 79 = true := by kernel_rfl
theorem size_79 : sizeIs Tryz.prog 79 1 = true := by kernel_rfl
theorem zero_79 : zeroOf Tryz.prog 79 = some (.nilFunc) := by kernel_rfl
theorem some_79 : (Tryz.prog.underlying 79).isSome = true := by kernel_rfl
theorem agg_80 : aggB Tryz.prog 80 = true := by kernel_rfl
theorem size_80 : sizeIs Tryz.prog 80 3 = true := by kernel_rfl
theorem zero_80 : zeroOf Tryz.prog 80 = some (.agg #[.int .u8 0, .string ⟨#[]⟩, .int .i64 0]) := by kernel_rfl
theorem plc_80 : placesOf Tryz.prog 80 = some [(0, 1), (1, 1), (2, 1)] := by kernel_rfl
theorem fld_80_0 : fieldOff Tryz.prog 80 0 = some 0 := by kernel_rfl
theorem fld_80_1 : fieldOff Tryz.prog 80 1 = some 1 := by kernel_rfl
theorem fld_80_2 : fieldOff Tryz.prog 80 2 = some 2 := by kernel_rfl
theorem some_80 : (Tryz.prog.underlying 80).isSome = true := by kernel_rfl
theorem agg_81 : aggB Tryz.prog 81 = true := by kernel_rfl
theorem size_81 : sizeIs Tryz.prog 81 3 = true := by kernel_rfl
theorem zero_81 : zeroOf Tryz.prog 81 = some (.agg #[.int .u8 0, .string ⟨#[]⟩, .int .i64 0]) := by kernel_rfl
theorem plc_81 : placesOf Tryz.prog 81 = some [(0, 1), (1, 1), (2, 1)] := by kernel_rfl
theorem fld_81_0 : fieldOff Tryz.prog 81 0 = some 0 := by kernel_rfl
theorem fld_81_1 : fieldOff Tryz.prog 81 1 = some 1 := by kernel_rfl
theorem fld_81_2 : fieldOff Tryz.prog 81 2 = some 2 := by kernel_rfl
theorem some_81 : (Tryz.prog.underlying 81).isSome = true := by kernel_rfl
theorem zero_82 : zeroOf Tryz.prog 82 = some (.tuple #[.agg #[.int .u8 0, .string ⟨#[]⟩, .int .i64 0], .int .i64 0, .int .i64 0, .int .i64 0]) := by kernel_rfl
theorem some_82 : (Tryz.prog.underlying 82).isSome = true := by kernel_rfl
theorem flat_83 : flatB Tryz.prog 83 = true := by kernel_rfl
theorem size_83 : sizeIs Tryz.prog 83 1 = true := by kernel_rfl
theorem zero_83 : zeroOf Tryz.prog 83 = some (.nilFunc) := by kernel_rfl
theorem some_83 : (Tryz.prog.underlying 83).isSome = true := by kernel_rfl
theorem flat_84 : flatB Tryz.prog 84 = true := by kernel_rfl
theorem size_84 : sizeIs Tryz.prog 84 1 = true := by kernel_rfl
theorem zero_84 : zeroOf Tryz.prog 84 = some (.nilFunc) := by kernel_rfl
theorem some_84 : (Tryz.prog.underlying 84).isSome = true := by kernel_rfl
theorem agg_85 : aggB Tryz.prog 85 = true := by kernel_rfl
theorem size_85 : sizeIs Tryz.prog 85 0 = true := by kernel_rfl
theorem zero_85 : zeroOf Tryz.prog 85 = some (.agg #[]) := by kernel_rfl
theorem plc_85 : placesOf Tryz.prog 85 = some [] := by kernel_rfl
theorem some_85 : (Tryz.prog.underlying 85).isSome = true := by kernel_rfl
theorem agg_86 : aggB Tryz.prog 86 = true := by kernel_rfl
theorem size_86 : sizeIs Tryz.prog 86 0 = true := by kernel_rfl
theorem zero_86 : zeroOf Tryz.prog 86 = some (.agg #[]) := by kernel_rfl
theorem plc_86 : placesOf Tryz.prog 86 = some [] := by kernel_rfl
theorem some_86 : (Tryz.prog.underlying 86).isSome = true := by kernel_rfl
theorem agg_87 : aggB Tryz.prog 87 = true := by kernel_rfl
theorem size_87 : sizeIs Tryz.prog 87 0 = true := by kernel_rfl
theorem zero_87 : zeroOf Tryz.prog 87 = some (.agg #[]) := by kernel_rfl
theorem plc_87 : placesOf Tryz.prog 87 = some [] := by kernel_rfl
theorem some_87 : (Tryz.prog.underlying 87).isSome = true := by kernel_rfl
theorem flat_88 : flatB Tryz.prog 88 = true := by kernel_rfl
theorem size_88 : sizeIs Tryz.prog 88 1 = true := by kernel_rfl
theorem zero_88 : zeroOf Tryz.prog 88 = some (.int .u32 0) := by kernel_rfl
theorem int_88 : Tryz.prog.underlying 88 = some (.int .u32) := by kernel_rfl
theorem some_88 : (Tryz.prog.underlying 88).isSome = true := by kernel_rfl
theorem agg_89 : aggB Tryz.prog 89 = true := by kernel_rfl
theorem size_89 : sizeIs Tryz.prog 89 1 = true := by kernel_rfl
theorem zero_89 : zeroOf Tryz.prog 89 = some (.agg #[.int .u32 0]) := by kernel_rfl
theorem plc_89 : placesOf Tryz.prog 89 = some [(0, 0), (0, 1)] := by kernel_rfl
theorem fld_89_1 : fieldOff Tryz.prog 89 1 = some 0 := by kernel_rfl
theorem some_89 : (Tryz.prog.underlying 89).isSome = true := by kernel_rfl
theorem agg_90 : aggB Tryz.prog 90 = true := by kernel_rfl
theorem size_90 : sizeIs Tryz.prog 90 1 = true := by kernel_rfl
theorem zero_90 : zeroOf Tryz.prog 90 = some (.agg #[.int .u32 0]) := by kernel_rfl
theorem plc_90 : placesOf Tryz.prog 90 = some [(0, 0), (0, 1)] := by kernel_rfl
theorem fld_90_1 : fieldOff Tryz.prog 90 1 = some 0 := by kernel_rfl
theorem some_90 : (Tryz.prog.underlying 90).isSome = true := by kernel_rfl
theorem agg_91 : aggB Tryz.prog 91 = true := by kernel_rfl
theorem size_91 : sizeIs Tryz.prog 91 2 = true := by kernel_rfl
theorem zero_91 : zeroOf Tryz.prog 91 = some (.agg #[.int .i32 0, .int .u32 0]) := by kernel_rfl
theorem plc_91 : placesOf Tryz.prog 91 = some [(0, 1), (1, 1)] := by kernel_rfl
theorem fld_91_0 : fieldOff Tryz.prog 91 0 = some 0 := by kernel_rfl
theorem fld_91_1 : fieldOff Tryz.prog 91 1 = some 1 := by kernel_rfl
theorem some_91 : (Tryz.prog.underlying 91).isSome = true := by kernel_rfl
theorem agg_93 : aggB Tryz.prog 93 = true := by kernel_rfl
theorem size_93 : sizeIs Tryz.prog 93 2 = true := by kernel_rfl
theorem zero_93 : zeroOf Tryz.prog 93 = some (.agg #[.int .i32 0, .int .u32 0]) := by kernel_rfl
theorem plc_93 : placesOf Tryz.prog 93 = some [(0, 0), (0, 2)] := by kernel_rfl
theorem fld_93_1 : fieldOff Tryz.prog 93 1 = some 0 := by kernel_rfl
theorem some_93 : (Tryz.prog.underlying 93).isSome = true := by kernel_rfl
theorem agg_94 : aggB Tryz.prog 94 = true := by kernel_rfl
theorem size_94 : sizeIs Tryz.prog 94 2 = true := by kernel_rfl
theorem zero_94 : zeroOf Tryz.prog 94 = some (.agg #[.int .i32 0, .int .u32 0]) := by kernel_rfl
theorem plc_94 : placesOf Tryz.prog 94 = some [(0, 0), (0, 2)] := by kernel_rfl
theorem fld_94_1 : fieldOff Tryz.prog 94 1 = some 0 := by kernel_rfl
theorem some_94 : (Tryz.prog.underlying 94).isSome = true := by kernel_rfl
theorem agg_95 : aggB Tryz.prog 95 = true := by kernel_rfl
theorem size_95 : sizeIs Tryz.prog 95 3 = true := by kernel_rfl
theorem zero_95 : zeroOf Tryz.prog 95 = some (.agg #[.int .u32 0, .int .i32 0, .int .u32 0]) := by kernel_rfl
theorem plc_95 : placesOf Tryz.prog 95 = some [(0, 0), (0, 1), (1, 2)] := by kernel_rfl
theorem fld_95_1 : fieldOff Tryz.prog 95 1 = some 0 := by kernel_rfl
theorem fld_95_2 : fieldOff Tryz.prog 95 2 = some 1 := by kernel_rfl
theorem some_95 : (Tryz.prog.underlying 95).isSome = true := by kernel_rfl
theorem agg_96 : aggB Tryz.prog 96 = true := by kernel_rfl
theorem size_96 : sizeIs Tryz.prog 96 3 = true := by kernel_rfl
theorem zero_96 : zeroOf Tryz.prog 96 = some (.agg #[.int .u32 0, .int .i32 0, .int .u32 0]) := by kernel_rfl
theorem plc_96 : placesOf Tryz.prog 96 = some [(0, 0), (0, 1), (1, 2)] := by kernel_rfl
theorem fld_96_1 : fieldOff Tryz.prog 96 1 = some 0 := by kernel_rfl
theorem fld_96_2 : fieldOff Tryz.prog 96 2 = some 1 := by kernel_rfl
theorem some_96 : (Tryz.prog.underlying 96).isSome = true := by kernel_rfl
theorem flat_97 : flatB Tryz.prog 97 = true := by kernel_rfl
theorem size_97 : sizeIs Tryz.prog 97 1 = true := by kernel_rfl
theorem zero_97 : zeroOf Tryz.prog 97 = some (.nilIface) := by kernel_rfl
theorem some_97 : (Tryz.prog.underlying 97).isSome = true := by kernel_rfl
theorem flat_98 : flatB Tryz.prog 98 = true := by kernel_rfl
theorem size_98 : sizeIs Tryz.prog 98 1 = true := by kernel_rfl
theorem zero_98 : zeroOf Tryz.prog 98 = some (.nilIface) := by kernel_rfl
theorem some_98 : (Tryz.prog.underlying 98).isSome = true := by kernel_rfl
theorem agg_99 : aggB Tryz.prog 99 = true := by kernel_rfl
theorem size_99 : sizeIs Tryz.prog 99 5 = true := by kernel_rfl
theorem zero_99 : zeroOf Tryz.prog 99 = some (.agg #[.int .u32 0, .int .i32 0, .int .u32 0, .nilIface, .slice none 0 0]) := by kernel_rfl
theorem plc_99 : placesOf Tryz.prog 99 = some [(0, 3), (3, 1), (4, 1)] := by kernel_rfl
theorem fld_99_0 : fieldOff Tryz.prog 99 0 = some 0 := by kernel_rfl
theorem fld_99_1 : fieldOff Tryz.prog 99 1 = some 3 := by kernel_rfl
theorem fld_99_2 : fieldOff Tryz.prog 99 2 = some 4 := by kernel_rfl
theorem some_99 : (Tryz.prog.underlying 99).isSome = true := by kernel_rfl
theorem agg_100 : aggB Tryz.prog 100 = true := by kernel_rfl
theorem size_100 : sizeIs Tryz.prog 100 5 = true := by kernel_rfl
theorem zero_100 : zeroOf Tryz.prog 100 = some (.agg #[.int .u32 0, .int .i32 0, .int .u32 0, .nilIface, .slice none 0 0]) := by kernel_rfl
theorem plc_100 : placesOf Tryz.prog 100 = some [(0, 3), (3, 1), (4, 1)] := by kernel_rfl
theorem fld_100_0 : fieldOff Tryz.prog 100 0 = some 0 := by kernel_rfl
theorem fld_100_1 : fieldOff Tryz.prog 100 1 = some 3 := by kernel_rfl
theorem fld_100_2 : fieldOff Tryz.prog 100 2 = some 4 := by kernel_rfl
theorem some_100 : (Tryz.prog.underlying 100).isSome = true := by kernel_rfl
theorem flat_101 : flatB Tryz.prog 101 = true := by kernel_rfl
theorem size_101 : sizeIs Tryz.prog 101 1 = true := by kernel_rfl
theorem zero_101 : zeroOf Tryz.prog 101 = some (.nilFunc) := by kernel_rfl
theorem some_101 : (Tryz.prog.underlying 101).isSome = true := by kernel_rfl
theorem flat_102 : flatB Tryz.prog 102 = true := by kernel_rfl
theorem size_102 : sizeIs Tryz.prog 102 1 = true := by kernel_rfl
theorem zero_102 : zeroOf Tryz.prog 102 = some (.nilFunc) := by kernel_rfl
theorem some_102 : (Tryz.prog.underlying 102).isSome = true := by kernel_rfl
theorem flat_103 : flatB Tryz.prog 103 = true := by kernel_rfl
theorem size_103 : sizeIs Tryz.prog 103 1 = true := by kernel_rfl
theorem zero_103 : zeroOf Tryz.prog 103 = some (.int .u64 0) := by kernel_rfl
theorem int_103 : Tryz.prog.underlying 103 = some (.int .u64) := by kernel_rfl
theorem some_103 : (Tryz.prog.underlying 103).isSome = true := by kernel_rfl
theorem flat_104 : flatB Tryz.prog 104 = true := by kernel_rfl
theorem size_104 : sizeIs Tryz.prog 104 1 = true := by kernel_rfl
theorem zero_104 : zeroOf Tryz.prog 104 = some (.pointer none) := by kernel_rfl
theorem ptr_104 : Tryz.prog.underlying 104 = some (.pointer (Tryz.prog.pointee 104)) := by kernel_rfl
theorem some_104 : (Tryz.prog.underlying 104).isSome = true := by kernel_rfl
theorem agg_105 : aggB Tryz.prog 105 = true := by kernel_rfl
theorem size_105 : sizeIs Tryz.prog 105 2 = true := by kernel_rfl
theorem zero_105 : zeroOf Tryz.prog 105 = some (.agg #[.pointer none, .slice none 0 0]) := by kernel_rfl
theorem plc_105 : placesOf Tryz.prog 105 = some [(0, 1), (1, 1)] := by kernel_rfl
theorem fld_105_0 : fieldOff Tryz.prog 105 0 = some 0 := by kernel_rfl
theorem fld_105_1 : fieldOff Tryz.prog 105 1 = some 1 := by kernel_rfl
theorem some_105 : (Tryz.prog.underlying 105).isSome = true := by kernel_rfl
theorem agg_106 : aggB Tryz.prog 106 = true := by kernel_rfl
theorem size_106 : sizeIs Tryz.prog 106 2 = true := by kernel_rfl
theorem zero_106 : zeroOf Tryz.prog 106 = some (.agg #[.pointer none, .slice none 0 0]) := by kernel_rfl
theorem plc_106 : placesOf Tryz.prog 106 = some [(0, 1), (1, 1)] := by kernel_rfl
theorem fld_106_0 : fieldOff Tryz.prog 106 0 = some 0 := by kernel_rfl
theorem fld_106_1 : fieldOff Tryz.prog 106 1 = some 1 := by kernel_rfl
theorem some_106 : (Tryz.prog.underlying 106).isSome = true := by kernel_rfl
theorem flat_107 : flatB Tryz.prog 107 = true := by kernel_rfl
theorem size_107 : sizeIs Tryz.prog 107 1 = true := by kernel_rfl
theorem zero_107 : zeroOf Tryz.prog 107 = some (.nilFunc) := by kernel_rfl
theorem some_107 : (Tryz.prog.underlying 107).isSome = true := by kernel_rfl
theorem flat_108 : flatB Tryz.prog 108 = true := by kernel_rfl
theorem size_108 : sizeIs Tryz.prog 108 1 = true := by kernel_rfl
theorem zero_108 : zeroOf Tryz.prog 108 = some (.nilIface) := by kernel_rfl
theorem some_108 : (Tryz.prog.underlying 108).isSome = true := by kernel_rfl
theorem flat_109 : flatB Tryz.prog 109 = true := by kernel_rfl
theorem size_109 : sizeIs Tryz.prog 109 1 = true := by kernel_rfl
theorem zero_109 : zeroOf Tryz.prog 109 = some (.nilIface) := by kernel_rfl
theorem some_109 : (Tryz.prog.underlying 109).isSome = true := by kernel_rfl
theorem zero_110 : zeroOf Tryz.prog 110 = some (.tuple #[.int .i64 0, .nilIface]) := by kernel_rfl
theorem some_110 : (Tryz.prog.underlying 110).isSome = true := by kernel_rfl
theorem flat_111 : flatB Tryz.prog 111 = true := by kernel_rfl
theorem size_111 : sizeIs Tryz.prog 111 1 = true := by kernel_rfl
theorem zero_111 : zeroOf Tryz.prog 111 = some (.nilFunc) := by kernel_rfl
theorem some_111 : (Tryz.prog.underlying 111).isSome = true := by kernel_rfl
theorem flat_112 : flatB Tryz.prog 112 = true := by kernel_rfl
theorem size_112 : sizeIs Tryz.prog 112 1 = true := by kernel_rfl
theorem zero_112 : zeroOf Tryz.prog 112 = some (.nilFunc) := by kernel_rfl
theorem some_112 : (Tryz.prog.underlying 112).isSome = true := by kernel_rfl
theorem flat_113 : flatB Tryz.prog 113 = true := by kernel_rfl
theorem size_113 : sizeIs Tryz.prog 113 1 = true := by kernel_rfl
theorem zero_113 : zeroOf Tryz.prog 113 = some (.nilFunc) := by kernel_rfl
theorem some_113 : (Tryz.prog.underlying 113).isSome = true := by kernel_rfl
theorem flat_114 : flatB Tryz.prog 114 = true := by kernel_rfl
theorem size_114 : sizeIs Tryz.prog 114 1 = true := by kernel_rfl
theorem zero_114 : zeroOf Tryz.prog 114 = some (.nilFunc) := by kernel_rfl
theorem some_114 : (Tryz.prog.underlying 114).isSome = true := by kernel_rfl
theorem flat_115 : flatB Tryz.prog 115 = true := by kernel_rfl
theorem size_115 : sizeIs Tryz.prog 115 1 = true := by kernel_rfl
theorem zero_115 : zeroOf Tryz.prog 115 = some (.nilFunc) := by kernel_rfl
theorem some_115 : (Tryz.prog.underlying 115).isSome = true := by kernel_rfl
theorem flat_116 : flatB Tryz.prog 116 = true := by kernel_rfl
theorem size_116 : sizeIs Tryz.prog 116 1 = true := by kernel_rfl
theorem zero_116 : zeroOf Tryz.prog 116 = some (.nilFunc) := by kernel_rfl
theorem some_116 : (Tryz.prog.underlying 116).isSome = true := by kernel_rfl
theorem flat_117 : flatB Tryz.prog 117 = true := by kernel_rfl
theorem size_117 : sizeIs Tryz.prog 117 1 = true := by kernel_rfl
theorem zero_117 : zeroOf Tryz.prog 117 = some (.nilFunc) := by kernel_rfl
theorem some_117 : (Tryz.prog.underlying 117).isSome = true := by kernel_rfl
theorem zero_118 : zeroOf Tryz.prog 118 = some (.tuple #[.int .i64 0, .bool false]) := by kernel_rfl
theorem some_118 : (Tryz.prog.underlying 118).isSome = true := by kernel_rfl
theorem flat_119 : flatB Tryz.prog 119 = true := by kernel_rfl
theorem size_119 : sizeIs Tryz.prog 119 1 = true := by kernel_rfl
theorem zero_119 : zeroOf Tryz.prog 119 = some (.nilFunc) := by kernel_rfl
theorem some_119 : (Tryz.prog.underlying 119).isSome = true := by kernel_rfl
theorem flat_120 : flatB Tryz.prog 120 = true := by kernel_rfl
theorem size_120 : sizeIs Tryz.prog 120 1 = true := by kernel_rfl
theorem zero_120 : zeroOf Tryz.prog 120 = some (.nilFunc) := by kernel_rfl
theorem some_120 : (Tryz.prog.underlying 120).isSome = true := by kernel_rfl
theorem flat_121 : flatB Tryz.prog 121 = true := by kernel_rfl
theorem size_121 : sizeIs Tryz.prog 121 1 = true := by kernel_rfl
theorem zero_121 : zeroOf Tryz.prog 121 = some (.nilFunc) := by kernel_rfl
theorem some_121 : (Tryz.prog.underlying 121).isSome = true := by kernel_rfl
theorem flat_122 : flatB Tryz.prog 122 = true := by kernel_rfl
theorem size_122 : sizeIs Tryz.prog 122 1 = true := by kernel_rfl
theorem zero_122 : zeroOf Tryz.prog 122 = some (.nilFunc) := by kernel_rfl
theorem some_122 : (Tryz.prog.underlying 122).isSome = true := by kernel_rfl
theorem flat_123 : flatB Tryz.prog 123 = true := by kernel_rfl
theorem size_123 : sizeIs Tryz.prog 123 1 = true := by kernel_rfl
theorem zero_123 : zeroOf Tryz.prog 123 = some (.nilFunc) := by kernel_rfl
theorem some_123 : (Tryz.prog.underlying 123).isSome = true := by kernel_rfl
theorem flat_124 : flatB Tryz.prog 124 = true := by kernel_rfl
theorem size_124 : sizeIs Tryz.prog 124 1 = true := by kernel_rfl
theorem zero_124 : zeroOf Tryz.prog 124 = some (.nilFunc) := by kernel_rfl
theorem some_124 : (Tryz.prog.underlying 124).isSome = true := by kernel_rfl
theorem flat_125 : flatB Tryz.prog 125 = true := by kernel_rfl
theorem size_125 : sizeIs Tryz.prog 125 1 = true := by kernel_rfl
theorem zero_125 : zeroOf Tryz.prog 125 = some (.pointer none) := by kernel_rfl
theorem ptr_125 : Tryz.prog.underlying 125 = some (.pointer (Tryz.prog.pointee 125)) := by kernel_rfl
theorem some_125 : (Tryz.prog.underlying 125).isSome = true := by kernel_rfl
theorem flat_126 : flatB Tryz.prog 126 = true := by kernel_rfl
theorem size_126 : sizeIs Tryz.prog 126 1 = true := by kernel_rfl
theorem zero_126 : zeroOf Tryz.prog 126 = some (.nilFunc) := by kernel_rfl
theorem some_126 : (Tryz.prog.underlying 126).isSome = true := by kernel_rfl
theorem flat_127 : flatB Tryz.prog 127 = true := by kernel_rfl
theorem size_127 : sizeIs Tryz.prog 127 1 = true := by kernel_rfl
theorem zero_127 : zeroOf Tryz.prog 127 = some (.pointer none) := by kernel_rfl
theorem ptr_127 : Tryz.prog.underlying 127 = some (.pointer (Tryz.prog.pointee 127)) := by kernel_rfl
theorem some_127 : (Tryz.prog.underlying 127).isSome = true := by kernel_rfl
theorem agg_128 : aggB Tryz.prog 128 = true := by kernel_rfl
theorem size_128 : sizeIs Tryz.prog 128 24 = true := by kernel_rfl
theorem zero_128 : zeroOf Tryz.prog 128 = some (.agg #[.int .u8 0, .int .u8 0, .int .u8 0, .int .u8 0, .int .u8 0, .int .u8 0, .int .u8 0, .int .u8 0, .int .u8 0, .int .u8 0, .int .u8 0, .int .u8 0, .int .u8 0, .int .u8 0, .int .u8 0, .int .u8 0, .int .u8 0, .int .u8 0, .int .u8 0, .int .u8 0, .int .u8 0, .int .u8 0, .int .u8 0, .int .u8 0]) := by kernel_rfl
theorem arrz_128 : arrayOf Tryz.prog 128 = some 1 := by kernel_rfl
theorem arr_128 : Tryz.prog.underlying 128 = some (.array 24 5) := by kernel_rfl
theorem some_128 : (Tryz.prog.underlying 128).isSome = true := by kernel_rfl
theorem flat_129 : flatB Tryz.prog 129 = true := by kernel_rfl
theorem size_129 : sizeIs Tryz.prog 129 1 = true := by kernel_rfl
theorem zero_129 : zeroOf Tryz.prog 129 = some (.nilFunc) := by kernel_rfl
theorem some_129 : (Tryz.prog.underlying 129).isSome = true := by kernel_rfl
theorem flat_130 : flatB Tryz.prog 130 = true := by kernel_rfl
theorem size_130 : sizeIs Tryz.prog 130 1 = true := by kernel_rfl
theorem zero_130 : zeroOf Tryz.prog 130 = some (.nilFunc) := by kernel_rfl
theorem some_130 : (Tryz.prog.underlying 130).isSome = true := by kernel_rfl
theorem zero_131 : zeroOf Tryz.prog 131 = some (.tuple #[.slice none 0 0, .string ⟨#[]⟩]) := by kernel_rfl
theorem some_131 : (Tryz.prog.underlying 131).isSome = true := by kernel_rfl
theorem flat_132 : flatB Tryz.prog 132 = true := by kernel_rfl
theorem size_132 : sizeIs Tryz.prog 132 1 = true := by kernel_rfl
theorem zero_132 : zeroOf Tryz.prog 132 = some (.nilFunc) := by kernel_rfl
theorem some_132 : (Tryz.prog.underlying 132).isSome = true := by kernel_rfl
theorem flat_133 : flatB Tryz.prog 133 = true := by kernel_rfl
theorem size_133 : sizeIs Tryz.prog 133 1 = true := by kernel_rfl
theorem zero_133 : zeroOf Tryz.prog 133 = some (.nilFunc) := by kernel_rfl
theorem some_133 : (Tryz.prog.underlying 133).isSome = true := by kernel_rfl
theorem flat_134 : flatB Tryz.prog 134 = true := by kernel_rfl
theorem size_134 : sizeIs Tryz.prog 134 1 = true := by kernel_rfl
theorem zero_134 : zeroOf Tryz.prog 134 = some (.pointer none) := by kernel_rfl
theorem ptr_134 : Tryz.prog.underlying 134 = some (.pointer (Tryz.prog.pointee 134)) := by kernel_rfl
theorem some_134 : (Tryz.prog.underlying 134).isSome = true := by kernel_rfl
theorem flat_135 : flatB Tryz.prog 135 = true := by kernel_rfl
theorem size_135 : sizeIs Tryz.prog 135 1 = true := by kernel_rfl
theorem zero_135 : zeroOf Tryz.prog 135 = some (.nilFunc) := by kernel_rfl
theorem some_135 : (Tryz.prog.underlying 135).isSome = true := by kernel_rfl
theorem flat_136 : flatB Tryz.prog 136 = true := by kernel_rfl
theorem size_136 : sizeIs Tryz.prog 136 1 = true := by kernel_rfl
theorem zero_136 : zeroOf Tryz.prog 136 = some (.pointer none) := by kernel_rfl
theorem ptr_136 : Tryz.prog.underlying 136 = some (.pointer (Tryz.prog.pointee 136)) := by kernel_rfl
theorem some_136 : (Tryz.prog.underlying 136).isSome = true := by kernel_rfl
theorem flat_137 : flatB Tryz.prog 137 = true := by kernel_rfl
theorem size_137 : sizeIs Tryz.prog 137 1 = true := by kernel_rfl
theorem zero_137 : zeroOf Tryz.prog 137 = some (.nilFunc) := by kernel_rfl
theorem some_137 : (Tryz.prog.underlying 137).isSome = true := by kernel_rfl
theorem flat_138 : flatB Tryz.prog 138 = true := by kernel_rfl
theorem size_138 : sizeIs Tryz.prog 138 1 = true := by kernel_rfl
theorem zero_138 : zeroOf Tryz.prog 138 = some (.pointer none) := by kernel_rfl
theorem ptr_138 : Tryz.prog.underlying 138 = some (.pointer (Tryz.prog.pointee 138)) := by kernel_rfl
theorem some_138 : (Tryz.prog.underlying 138).isSome = true := by kernel_rfl
theorem flat_139 : flatB Tryz.prog 139 = true := by kernel_rfl
theorem size_139 : sizeIs Tryz.prog 139 1 = true := by kernel_rfl
theorem zero_139 : zeroOf Tryz.prog 139 = some (.nilFunc) := by kernel_rfl
theorem some_139 : (Tryz.prog.underlying 139).isSome = true := by kernel_rfl
theorem flat_140 : flatB Tryz.prog 140 = true := by kernel_rfl
theorem size_140 : sizeIs Tryz.prog 140 1 = true := by kernel_rfl
theorem zero_140 : zeroOf Tryz.prog 140 = some (.pointer none) := by kernel_rfl
theorem ptr_140 : Tryz.prog.underlying 140 = some (.pointer (Tryz.prog.pointee 140)) := by kernel_rfl
theorem some_140 : (Tryz.prog.underlying 140).isSome = true := by kernel_rfl
theorem flat_141 : flatB Tryz.prog 141 = true := by kernel_rfl
theorem size_141 : sizeIs Tryz.prog 141 1 = true := by kernel_rfl
theorem zero_141 : zeroOf Tryz.prog 141 = some (.nilFunc) := by kernel_rfl
theorem some_141 : (Tryz.prog.underlying 141).isSome = true := by kernel_rfl
theorem agg_142 : aggB Tryz.prog 142 = true := by kernel_rfl
theorem size_142 : sizeIs Tryz.prog 142 256 = true := by kernel_rfl
theorem zero_142 : zeroOf Tryz.prog 142 = some (.agg #[.int .u8 0, .int .u8 0, .int .u8 0, .int .u8 0, .int .u8 0, .int .u8 0, .int .u8 0, .int .u8 0, .int .u8 0, .int .u8 0, .int .u8 0, .int .u8 0, .int .u8 0, .int .u8 0, .int .u8 0, .int .u8 0, .int .u8 0, .int .u8 0, .int .u8 0, .int .u8 0, .int .u8 0, .int .u8 0, .int .u8 0, .int .u8 0, .int .u8 0, .int .u8 0, .int .u8 0, .int .u8 0, .int .u8 0, .int .u8 0, .int .u8 0, .int .u8 0, .int .u8 0, .int .u8 0, .int .u8 0, .int .u8 0, .int .u8 0, .int .u8 0, .int .u8 0, .int .u8 0, .int .u8 0, .int .u8 0, .int .u8 0, .int .u8 0, .int .u8 0, .int .u8 0, .int .u8 0, .int .u8 0, .int .u8 0, .int .u8 0, .int .u8 0, .int .u8 0, .int .u8 0, .int .u8 0, .int .u8 0, .int .u8 0, .int .u8 0, .int .u8 0, .int .u8 0, .int .u8 0, .int .u8 0, .int .u8 0, .int .u8 0, .int .u8 0, .int .u8 0, .int .u8 0, .int .u8 0, .int .u8 0, .int .u8 0, .int .u8 0, .int .u8 0, .int .u8 0, .int .u8 0, .int .u8 0, .int .u8 0, .int .u8 0, .int .u8 0, .int .u8 0, .int .u8 0, .int .u8 0, .int .u8 0, .int .u8 0, .int .u8 0, .int .u8 0, .int .u8 0, .int .u8 0, .int .u8 0, .int .u8 0, .int .u8 0, .int .u8 0, .int .u8 0, .int .u8 0, .int .u8 0, .int .u8 0, .int .u8 0, .int .u8 0, .int .u8 0, .int .u8 0, .int .u8 0, .int .u8 0, .int .u8 0, .int .u8 0, .int .u8 0, .int .u8 0, .int .u8 0, .int .u8 0, .int .u8 0, .int .u8 0, .int .u8 0, .int .u8 0, .int .u8 0, .int .u8 0, .int .u8 0, .int .u8 0, .int .u8 0, .int .u8 0, .int .u8 0, .int .u8 0, .int .u8 0, .int .u8 0, .int .u8 0, .int .u8 0, .int .u8 0, .int .u8 0, .int .u8 0, .int .u8 0, .int .u8 0, .int .u8 0, .int .u8 0, .int .u8 0, .int .u8 0, .int .u8 0, .int .u8 0, .int .u8 0, .int .u8 0, .int .u8 0, .int .u8 0, .int .u8 0, .int .u8 0, .int .u8 0, .int .u8 0, .int .u8 0, .int .u8 0, .int .u8 0, .int .u8 0, .int .u8 0, .int .u8 0, .int .u8 0, .int .u8 0, .int .u8 0, .int .u8 0, .int .u8 0, .int .u8 0, .int .u8 0, .int .u8 0, .int .u8 0, .int .u8 0, .int .u8 0, .int .u8 0, .int .u8 0, .int .u8 0, .int .u8 0, .int .u8 0, .int .u8 0, .int .u8 0, .int .u8 0, .int .u8 0, .int .u8 0, .int .u8 0, .int .u8 0, .int .u8 0, .int .u8 0, .int .u8 0, .int .u8 0, .int .u8 0, .int .u8 0, .int .u8 0, .int .u8 0, .int .u8 0, .int .u8 0, .int .u8 0, .int .u8 0, .int .u8 0, .int .u8 0, .int .u8 0, .int .u8 0, .int .u8 0, .int .u8 0, .int .u8 0, .int .u8 0, .int .u8 0, .int .u8 0, .int .u8 0, .int .u8 0, .int .u8 0, .int .u8 0, .int .u8 0, .int .u8 0, .int .u8 0, .int .u8 0, .int .u8 0, .int .u8 0, .int .u8 0, .int .u8 0, .int .u8 0, .int .u8 0, .int .u8 0, .int .u8 0, .int .u8 0, .int .u8 0, .int .u8 0, .int .u8 0, .int .u8 0, .int .u8 0, .int .u8 0, .int .u8 0, .int .u8 0, .int .u8 0, .int .u8 0, .int .u8 0, .int .u8 0, .int .u8 0, .int .u8 0, .int .u8 0, .int .u8 0, .int .u8 0, .int .u8 0, .int .u8 0, .int .u8 0, .int .u8 0, .int .u8 0, .int .u8 0, .int .u8 0, .int .u8 0, .int .u8 0, .int .u8 0, .int .u8 0, .int .u8 0, .int .u8 0, .int .u8 0, .int .u8 0, .int .u8 0, .int .u8 0, .int .u8 0, .int .u8 0, .int .u8 0, .int .u8 0, .int .u8 0, .int .u8 0, .int .u8 0, .int .u8 0, .int .u8 0, .int .u8 0, .int .u8 0, .int .u8 0, .int .u8 0]) := by kernel_rfl
theorem arrz_142 : arrayOf Tryz.prog 142 = some 1 := by kernel_rfl
theorem arr_142 : Tryz.prog.underlying 142 = some (.array 256 5) := by kernel_rfl
theorem some_142 : (Tryz.prog.underlying 142).isSome = true := by kernel_rfl
theorem agg_143 : aggB Tryz.prog 143 = true := by kernel_rfl
theorem size_143 : sizeIs Tryz.prog 143 256 = true := by kernel_rfl
theorem zero_143 : zeroOf Tryz.prog 143 = some (.agg #[.int .u8 0, .int .u8 0, .int .u8 0, .int .u8 0, .int .u8 0, .int .u8 0, .int .u8 0, .int .u8 0, .int .u8 0, .int .u8 0, .int .u8 0, .int .u8 0, .int .u8 0, .int .u8 0, .int .u8 0, .int .u8 0, .int .u8 0, .int .u8 0, .int .u8 0, .int .u8 0, .int .u8 0, .int .u8 0, .int .u8 0, .int .u8 0, .int .u8 0, .int .u8 0, .int .u8 0, .int .u8 0, .int .u8 0, .int .u8 0, .int .u8 0, .int .u8 0, .int .u8 0, .int .u8 0, .int .u8 0, .int .u8 0, .int .u8 0, .int .u8 0, .int .u8 0, .int .u8 0, .int .u8 0, .int .u8 0, .int .u8 0, .int .u8 0, .int .u8 0, .int .u8 0, .int .u8 0, .int .u8 0, .int .u8 0, .int .u8 0, .int .u8 0, .int .u8 0, .int .u8 0, .int .u8 0, .int .u8 0, .int .u8 0, .int .u8 0, .int .u8 0, .int .u8 0, .int .u8 0, .int .u8 0, .int .u8 0, .int .u8 0, .int .u8 0, .int .u8 0, .int .u8 0, .int .u8 0, .int .u8 0, .int .u8 0, .int .u8 0, .int .u8 0, .int .u8 0, .int .u8 0, .int .u8 0, .int .u8 0, .int .u8 0, .int .u8 0, .int .u8 0, .int .u8 0, .int .u8 0, .int .u8 0, .int .u8 0, .int .u8 0, .int .u8 0, .int .u8 0, .int .u8 0, .int .u8 0, .int .u8 0, .int .u8 0, .int .u8 0, .int .u8 0, .int .u8 0, .int .u8 0, .int .u8 0, .int .u8 0, .int .u8 0, .int .u8 0, .int .u8 0, .int .u8 0, .int .u8 0, .int .u8 0, .int .u8 0, .int .u8 0, .int .u8 0, .int .u8 0, .int .u8 0, .int .u8 0, .int .u8 0, .int .u8 0, .int .u8 0, .int .u8 0, .int .u8 0, .int .u8 0, .int .u8 0, .int .u8 0, .int .u8 0, .int .u8 0, .int .u8 0, .int .u8 0, .int .u8 0, .int .u8 0, .int .u8 0, .int .u8 0, .int .u8 0, .int .u8 0, .int .u8 0, .int .u8 0, .int .u8 0, .int .u8 0, .int .u8 0, .int .u8 0, .int .u8 0, .int .u8 0, .int .u8 0, .int .u8 0, .int .u8 0, .int .u8 0, .int .u8 0, .int .u8 0, .int .u8 0, .int .u8 0, .int .u8 0, .int .u8 0, .int .u8 0, .int .u8 0, .int .u8 0, .int .u8 0, .int .u8 0, .int .u8 0, .int .u8 0, .int .u8 0, .int .u8 0, .int .u8 0, .int .u8 0, .int .u8 0, .int .u8 0, .int .u8 0, .int .u8 0, .int .u8 0, .int .u8 0, .int .u8 0, .int .u8 0, .int .u8 0, .int .u8 0, .int .u8 0, .int .u8 0, .int .u8 0, .int .u8 0, .int .u8 0, .int .u8 0, .int .u8 0, .int .u8 0, .int .u8 0, .int .u8 0, .int .u8 0, .int .u8 0, .int .u8 0, .int .u8 0, .int .u8 0, .int .u8 0, .int .u8 0, .int .u8 0, .int .u8 0, .int .u8 0, .int .u8 0, .int .u8 0, .int .u8 0, .int .u8 0, .int .u8 0, .int .u8 0, .int .u8 0, .int .u8 0, .int .u8 0, .int .u8 0, .int .u8 0, .int .u8 0, .int .u8 0, .int .u8 0, .int .u8 0, .int .u8 0, .int .u8 0, .int .u8 0, .int .u8 0, .int .u8 0, .int .u8 0, .int .u8 0, .int .u8 0, .int .u8 0, .int .u8 0, .int .u8 0, .int .u8 0, .int .u8 0, .int .u8 0, .int .u8 0, .int .u8 0, .int .u8 0, .int .u8 0, .int .u8 0, .int .u8 0, .int .u8 0, .int .u8 0, .int .u8 0, .int .u8 0, .int .u8 0, .int .u8 0, .int .u8 0, .int .u8 0, .int .u8 0, .int .u8 0, .int .u8 0, .int .u8 0, .int .u8 0, .int .u8 0, .int .u8 0, .int .u8 0, .int .u8 0, .int .u8 0, .int .u8 0, .int .u8 0, .int .u8 0, .int .u8 0, .int .u8 0, .int .u8 0, .int .u8 0, .int .u8 0, .int .u8 0, .int .u8 0, .int .u8 0, .int .u8 0, .int .u8 0, .int .u8 0, .int .u8 0, .int .u8 0, .int .u8 0, .int .u8 0, .int .u8 0]) := by kernel_rfl
theorem arrz_143 : arrayOf Tryz.prog 143 = some 1 := by kernel_rfl
theorem arr_143 : Tryz.prog.underlying 143 = some (.array 256 5) := by kernel_rfl
theorem some_143 : (Tryz.prog.underlying 143).isSome = true := by kernel_rfl
theorem flat_144 : flatB Tryz.prog 144 = true := by kernel_rfl
theorem size_144 : sizeIs Tryz.prog 144 1 = true := by kernel_rfl
theorem zero_144 : zeroOf Tryz.prog 144 = some (.pointer none) := by kernel_rfl
theorem ptr_144 : Tryz.prog.underlying 144 = some (.pointer (Tryz.prog.pointee 144)) := by kernel_rfl
theorem some_144 : (Tryz.prog.underlying 144).isSome = true := by kernel_rfl
theorem agg_145 : aggB Tryz.prog 145 = true := by kernel_rfl
theorem size_145 : sizeIs Tryz.prog 145 256 = true := by kernel_rfl
theorem zero_145 : zeroOf Tryz.prog 145 = some (.agg #[.slice none 0 0, .slice none 0 0, .slice none 0 0, .slice none 0 0, .slice none 0 0, .slice none 0 0, .slice none 0 0, .slice none 0 0, .slice none 0 0, .slice none 0 0, .slice none 0 0, .slice none 0 0, .slice none 0 0, .slice none 0 0, .slice none 0 0, .slice none 0 0, .slice none 0 0, .slice none 0 0, .slice none 0 0, .slice none 0 0, .slice none 0 0, .slice none 0 0, .slice none 0 0, .slice none 0 0, .slice none 0 0, .slice none 0 0, .slice none 0 0, .slice none 0 0, .slice none 0 0, .slice none 0 0, .slice none 0 0, .slice none 0 0, .slice none 0 0, .slice none 0 0, .slice none 0 0, .slice none 0 0, .slice none 0 0, .slice none 0 0, .slice none 0 0, .slice none 0 0, .slice none 0 0, .slice none 0 0, .slice none 0 0, .slice none 0 0, .slice none 0 0, .slice none 0 0, .slice none 0 0, .slice none 0 0, .slice none 0 0, .slice none 0 0, .slice none 0 0, .slice none 0 0, .slice none 0 0, .slice none 0 0, .slice none 0 0, .slice none 0 0, .slice none 0 0, .slice none 0 0, .slice none 0 0, .slice none 0 0, .slice none 0 0, .slice none 0 0, .slice none 0 0, .slice none 0 0, .slice none 0 0, .slice none 0 0, .slice none 0 0, .slice none 0 0, .slice none 0 0, .slice none 0 0, .slice none 0 0, .slice none 0 0, .slice none 0 0, .slice none 0 0, .slice none 0 0, .slice none 0 0, .slice none 0 0, .slice none 0 0, .slice none 0 0, .slice none 0 0, .slice none 0 0, .slice none 0 0, .slice none 0 0, .slice none 0 0, .slice none 0 0, .slice none 0 0, .slice none 0 0, .slice none 0 0, .slice none 0 0, .slice none 0 0, .slice none 0 0, .slice none 0 0, .slice none 0 0, .slice none 0 0, .slice none 0 0, .slice none 0 0, .slice none 0 0, .slice none 0 0, .slice none 0 0, .slice none 0 0, .slice none 0 0, .slice none 0 0, .slice none 0 0, .slice none 0 0, .slice none 0 0, .slice none 0 0, .slice none 0 0, .slice none 0 0, .slice none 0 0, .slice none 0 0, .slice none 0 0, .slice none 0 0, .slice none 0 0, .slice none 0 0, .slice none 0 0, .slice none 0 0, .slice none 0 0, .slice none 0 0, .slice none 0 0, .slice none 0 0, .slice none 0 0, .slice none 0 0, .slice none 0 0, .slice none 0 0, .slice none 0 0, .slice none 0 0, .slice none 0 0, .slice none 0 0, .slice none 0 0, .slice none 0 0, .slice none 0 0, .slice none 0 0, .slice none 0 0, .slice none 0 0, .slice none 0 0, .slice none 0 0, .slice none 0 0, .slice none 0 0, .slice none 0 0, .slice none 0 0, .slice none 0 0, .slice none 0 0, .slice none 0 0, .slice none 0 0, .slice none 0 0, .slice none 0 0, .slice none 0 0, .slice none 0 0, .slice none 0 0, .slice none 0 0, .slice none 0 0, .slice none 0 0, .slice none 0 0, .slice none 0 0, .slice none 0 0, .slice none 0 0, .slice none 0 0, .slice none 0 0, .slice none 0 0, .slice none 0 0, .slice none 0 0, .slice none 0 0, .slice none 0 0, .slice none 0 0, .slice none 0 0, .slice none 0 0, .slice none 0 0, .slice none 0 0, .slice none 0 0, .slice none 0 0, .slice none 0 0, .slice none 0 0, .slice none 0 0, .slice none 0 0, .slice none 0 0, .slice none 0 0, .slice none 0 0, .slice none 0 0, .slice none 0 0, .slice none 0 0, .slice none 0 0, .slice none 0 0, .slice none 0 0, .slice none 0 0, .slice none 0 0, .slice none 0 0, .slice none 0 0, .slice none 0 0, .slice none 0 0, .slice none 0 0, .slice none 0 0, .slice none 0 0, .slice none 0 0, .slice none 0 0, .slice none 0 0, .slice none 0 0, .slice none 0 0, .slice none 0 0, .slice none 0 0, .slice none 0 0, .slice none 0 0, .slice none 0 0, .slice none 0 0, .slice none 0 0, .slice none 0 0, .slice none 0 0, .slice none 0 0, .slice none 0 0, .slice none 0 0, .slice none 0 0, .slice none 0 0, .slice none 0 0, .slice none 0 0, .slice none 0 0, .slice none 0 0, .slice none 0 0, .slice none 0 0, .slice none 0 0, .slice none 0 0, .slice none 0 0, .slice none 0 0, .slice none 0 0, .slice none 0 0, .slice none 0 0, .slice none 0 0, .slice none 0 0, .slice none 0 0, .slice none 0 0, .slice none 0 0, .slice none 0 0, .slice none 0 0, .slice none 0 0, .slice none 0 0, .slice none 0 0, .slice none 0 0, .slice none 0 0, .slice none 0 0, .slice none 0 0, .slice none 0 0, .slice none 0 0, .slice none 0 0, .slice none 0 0, .slice none 0 0, .slice none 0 0, .slice none 0 0, .slice none 0 0, .slice none 0 0, .slice none 0 0, .slice none 0 0, .slice none 0 0, .slice none 0 0, .slice none 0 0, .slice none 0 0, .slice none 0 0, .slice none 0 0, .slice none 0 0]) := by kernel_rfl
theorem arrz_145 : arrayOf Tryz.prog 145 = some 1 := by kernel_rfl
theorem arr_145 : Tryz.prog.underlying 145 = some (.array 256 64) := by kernel_rfl
theorem some_145 : (Tryz.prog.underlying 145).isSome = true := by kernel_rfl
theorem agg_146 : aggB Tryz.prog 146 = true := by kernel_rfl
theorem size_146 : sizeIs Tryz.prog 146 257 = true := by kernel_rfl
theorem zero_146 : zeroOf Tryz.prog 146 = some (.agg #[.slice none 0 0, .slice none 0 0, .slice none 0 0, .slice none 0 0, .slice none 0 0, .slice none 0 0, .slice none 0 0, .slice none 0 0, .slice none 0 0, .slice none 0 0, .slice none 0 0, .slice none 0 0, .slice none 0 0, .slice none 0 0, .slice none 0 0, .slice none 0 0, .slice none 0 0, .slice none 0 0, .slice none 0 0, .slice none 0 0, .slice none 0 0, .slice none 0 0, .slice none 0 0, .slice none 0 0, .slice none 0 0, .slice none 0 0, .slice none 0 0, .slice none 0 0, .slice none 0 0, .slice none 0 0, .slice none 0 0, .slice none 0 0, .slice none 0 0, .slice none 0 0, .slice none 0 0, .slice none 0 0, .slice none 0 0, .slice none 0 0, .slice none 0 0, .slice none 0 0, .slice none 0 0, .slice none 0 0, .slice none 0 0, .slice none 0 0, .slice none 0 0, .slice none 0 0, .slice none 0 0, .slice none 0 0, .slice none 0 0, .slice none 0 0, .slice none 0 0, .slice none 0 0, .slice none 0 0, .slice none 0 0, .slice none 0 0, .slice none 0 0, .slice none 0 0, .slice none 0 0, .slice none 0 0, .slice none 0 0, .slice none 0 0, .slice none 0 0, .slice none 0 0, .slice none 0 0, .slice none 0 0, .slice none 0 0, .slice none 0 0, .slice none 0 0, .slice none 0 0, .slice none 0 0, .slice none 0 0, .slice none 0 0, .slice none 0 0, .slice none 0 0, .slice none 0 0, .slice none 0 0, .slice none 0 0, .slice none 0 0, .slice none 0 0, .slice none 0 0, .slice none 0 0, .slice none 0 0, .slice none 0 0, .slice none 0 0, .slice none 0 0, .slice none 0 0, .slice none 0 0, .slice none 0 0, .slice none 0 0, .slice none 0 0, .slice none 0 0, .slice none 0 0, .slice none 0 0, .slice none 0 0, .slice none 0 0, .slice none 0 0, .slice none 0 0, .slice none 0 0, .slice none 0 0, .slice none 0 0, .slice none 0 0, .slice none 0 0, .slice none 0 0, .slice none 0 0, .slice none 0 0, .slice none 0 0, .slice none 0 0, .slice none 0 0, .slice none 0 0, .slice none 0 0, .slice none 0 0, .slice none 0 0, .slice none 0 0, .slice none 0 0, .slice none 0 0, .slice none 0 0, .slice none 0 0, .slice none 0 0, .slice none 0 0, .slice none 0 0, .slice none 0 0, .slice none 0 0, .slice none 0 0, .slice none 0 0, .slice none 0 0, .slice none 0 0, .slice none 0 0, .slice none 0 0, .slice none 0 0, .slice none 0 0, .slice none 0 0, .slice none 0 0, .slice none 0 0, .slice none 0 0, .slice none 0 0, .slice none 0 0, .slice none 0 0, .slice none 0 0, .slice none 0 0, .slice none 0 0, .slice none 0 0, .slice none 0 0, .slice none 0 0, .slice none 0 0, .slice none 0 0, .slice none 0 0, .slice none 0 0, .slice none 0 0, .slice none 0 0, .slice none 0 0, .slice none 0 0, .slice none 0 0, .slice none 0 0, .slice none 0 0, .slice none 0 0, .slice none 0 0, .slice none 0 0, .slice none 0 0, .slice none 0 0, .slice none 0 0, .slice none 0 0, .slice none 0 0, .slice none 0 0, .slice none 0 0, .slice none 0 0, .slice none 0 0, .slice none 0 0, .slice none 0 0, .slice none 0 0, .slice none 0 0, .slice none 0 0, .slice none 0 0, .slice none 0 0, .slice none 0 0, .slice none 0 0, .slice none 0 0, .slice none 0 0, .slice none 0 0, .slice none 0 0, .slice none 0 0, .slice none 0 0, .slice none 0 0, .slice none 0 0, .slice none 0 0, .slice none 0 0, .slice none 0 0, .slice none 0 0, .slice none 0 0, .slice none 0 0, .slice none 0 0, .slice none 0 0, .slice none 0 0, .slice none 0 0, .slice none 0 0, .slice none 0 0, .slice none 0 0, .slice none 0 0, .slice none 0 0, .slice none 0 0, .slice none 0 0, .slice none 0 0, .slice none 0 0, .slice none 0 0, .slice none 0 0, .slice none 0 0, .slice none 0 0, .slice none 0 0, .slice none 0 0, .slice none 0 0, .slice none 0 0, .slice none 0 0, .slice none 0 0, .slice none 0 0, .slice none 0 0, .slice none 0 0, .slice none 0 0, .slice none 0 0, .slice none 0 0, .slice none 0 0, .slice none 0 0, .slice none 0 0, .slice none 0 0, .slice none 0 0, .slice none 0 0, .slice none 0 0, .slice none 0 0, .slice none 0 0, .slice none 0 0, .slice none 0 0, .slice none 0 0, .slice none 0 0, .slice none 0 0, .slice none 0 0, .slice none 0 0, .slice none 0 0, .slice none 0 0, .slice none 0 0, .slice none 0 0, .slice none 0 0, .slice none 0 0, .slice none 0 0, .slice none 0 0, .slice none 0 0, .slice none 0 0, .slice none 0 0, .slice none 0 0, .slice none 0 0, .slice none 0 0, .slice none 0 0, .slice none 0 0, .slice none 0 0, .slice none 0 0, .slice none 0 0, .slice none 0 0, .slice none 0 0, .slice none 0 0, .slice none 0 0]) := by kernel_rfl
theorem plc_146 : placesOf Tryz.prog 146 = some [(0, 256), (256, 1)] := by kernel_rfl
theorem fld_146_0 : fieldOff Tryz.prog 146 0 = some 0 := by kernel_rfl
theorem fld_146_1 : fieldOff Tryz.prog 146 1 = some 256 := by kernel_rfl
theorem some_146 : (Tryz.prog.underlying 146).isSome = true := by kernel_rfl
theorem agg_147 : aggB Tryz.prog 147 = true := by kernel_rfl
theorem size_147 : sizeIs Tryz.prog 147 257 = true := by kernel_rfl
theorem zero_147 : zeroOf Tryz.prog 147 = some (.agg #[.slice none 0 0, .slice none 0 0, .slice none 0 0, .slice none 0 0, .slice none 0 0, .slice none 0 0, .slice none 0 0, .slice none 0 0, .slice none 0 0, .slice none 0 0, .slice none 0 0, .slice none 0 0, .slice none 0 0, .slice none 0 0, .slice none 0 0, .slice none 0 0, .slice none 0 0, .slice none 0 0, .slice none 0 0, .slice none 0 0, .slice none 0 0, .slice none 0 0, .slice none 0 0, .slice none 0 0, .slice none 0 0, .slice none 0 0, .slice none 0 0, .slice none 0 0, .slice none 0 0, .slice none 0 0, .slice none 0 0, .slice none 0 0, .slice none 0 0, .slice none 0 0, .slice none 0 0, .slice none 0 0, .slice none 0 0, .slice none 0 0, .slice none 0 0, .slice none 0 0, .slice none 0 0, .slice none 0 0, .slice none 0 0, .slice none 0 0, .slice none 0 0, .slice none 0 0, .slice none 0 0, .slice none 0 0, .slice none 0 0, .slice none 0 0, .slice none 0 0, .slice none 0 0, .slice none 0 0, .slice none 0 0, .slice none 0 0, .slice none 0 0, .slice none 0 0, .slice none 0 0, .slice none 0 0, .slice none 0 0, .slice none 0 0, .slice none 0 0, .slice none 0 0, .slice none 0 0, .slice none 0 0, .slice none 0 0, .slice none 0 0, .slice none 0 0, .slice none 0 0, .slice none 0 0, .slice none 0 0, .slice none 0 0, .slice none 0 0, .slice none 0 0, .slice none 0 0, .slice none 0 0, .slice none 0 0, .slice none 0 0, .slice none 0 0, .slice none 0 0, .slice none 0 0, .slice none 0 0, .slice none 0 0, .slice none 0 0, .slice none 0 0, .slice none 0 0, .slice none 0 0, .slice none 0 0, .slice none 0 0, .slice none 0 0, .slice none 0 0, .slice none 0 0, .slice none 0 0, .slice none 0 0, .slice none 0 0, .slice none 0 0, .slice none 0 0, .slice none 0 0, .slice none 0 0, .slice none 0 0, .slice none 0 0, .slice none 0 0, .slice none 0 0, .slice none 0 0, .slice none 0 0, .slice none 0 0, .slice none 0 0, .slice none 0 0, .slice none 0 0, .slice none 0 0, .slice none 0 0, .slice none 0 0, .slice none 0 0, .slice none 0 0, .slice none 0 0, .slice none 0 0, .slice none 0 0, .slice none 0 0, .slice none 0 0, .slice none 0 0, .slice none 0 0, .slice none 0 0, .slice none 0 0, .slice none 0 0, .slice none 0 0, .slice none 0 0, .slice none 0 0, .slice none 0 0, .slice none 0 0, .slice none 0 0, .slice none 0 0, .slice none 0 0, .slice none 0 0, .slice none 0 0, .slice none 0 0, .slice none 0 0, .slice none 0 0, .slice none 0 0, .slice none 0 0, .slice none 0 0, .slice none 0 0, .slice none 0 0, .slice none 0 0, .slice none 0 0, .slice none 0 0, .slice none 0 0, .slice none 0 0, .slice none 0 0, .slice none 0 0, .slice none 0 0, .slice none 0 0, .slice none 0 0, .slice none 0 0, .slice none 0 0, .slice none 0 0, .slice none 0 0, .slice none 0 0, .slice none 0 0, .slice none 0 0, .slice none 0 0, .slice none 0 0, .slice none 0 0, .slice none 0 0, .slice none 0 0, .slice none 0 0, .slice none 0 0, .slice none 0 0, .slice none 0 0, .slice none 0 0, .slice none 0 0, .slice none 0 0, .slice none 0 0, .slice none 0 0, .slice none 0 0, .slice none 0 0, .slice none 0 0, .slice none 0 0, .slice none 0 0, .slice none 0 0, .slice none 0 0, .slice none 0 0, .slice none 0 0, .slice none 0 0, .slice none 0 0, .slice none 0 0, .slice none 0 0, .slice none 0 0, .slice none 0 0, .slice none 0 0, .slice none 0 0, .slice none 0 0, .slice none 0 0, .slice none 0 0, .slice none 0 0, .slice none 0 0, .slice none 0 0, .slice none 0 0, .slice none 0 0, .slice none 0 0, .slice none 0 0, .slice none 0 0, .slice none 0 0, .slice none 0 0, .slice none 0 0, .slice none 0 0, .slice none 0 0, .slice none 0 0, .slice none 0 0, .slice none 0 0, .slice none 0 0, .slice none 0 0, .slice none 0 0, .slice none 0 0, .slice none 0 0, .slice none 0 0, .slice none 0 0, .slice none 0 0, .slice none 0 0, .slice none 0 0, .slice none 0 0, .slice none 0 0, .slice none 0 0, .slice none 0 0, .slice none 0 0, .slice none 0 0, .slice none 0 0, .slice none 0 0, .slice none 0 0, .slice none 0 0, .slice none 0 0, .slice none 0 0, .slice none 0 0, .slice none 0 0, .slice none 0 0, .slice none 0 0, .slice none 0 0, .slice none 0 0, .slice none 0 0, .slice none 0 0, .slice none 0 0, .slice none 0 0, .slice none 0 0, .slice none 0 0, .slice none 0 0, .slice none 0 0, .slice none 0 0, .slice none 0 0, .slice none 0 0, .slice none 0 0, .slice none 0 0, .slice none 0 0, .slice none 0 0, .slice none 0 0, .slice none 0 0, .slice none 0 0, .slice none 0 0, .slice none 0 0]) := by kernel_rfl
theorem plc_147 : placesOf Tryz.prog 147 = some [(0, 256), (256, 1)] := by kernel_rfl
theorem fld_147_0 : fieldOff Tryz.prog 147 0 = some 0 := by kernel_rfl
theorem fld_147_1 : fieldOff Tryz.prog 147 1 = some 256 := by kernel_rfl
theorem some_147 : (Tryz.prog.underlying 147).isSome = true := by kernel_rfl
theorem flat_148 : flatB Tryz.prog 148 = true := by kernel_rfl
theorem size_148 : sizeIs Tryz.prog 148 1 = true := by kernel_rfl
theorem zero_148 : zeroOf Tryz.prog 148 = some (.pointer none) := by kernel_rfl
theorem ptr_148 : Tryz.prog.underlying 148 = some (.pointer (Tryz.prog.pointee 148)) := by kernel_rfl
theorem some_148 : (Tryz.prog.underlying 148).isSome = true := by kernel_rfl
theorem flat_149 : flatB Tryz.prog 149 = true := by kernel_rfl
theorem zero_149 : zeroOf Tryz.prog 149 = some (.pointer none) := by kernel_rfl
theorem some_149 : (Tryz.prog.underlying 149).isSome = true := by kernel_rfl
theorem flat_150 : flatB Tryz.prog 150 = true := by kernel_rfl
theorem size_150 : sizeIs Tryz.prog 150 1 = true := by kernel_rfl
theorem zero_150 : zeroOf Tryz.prog 150 = some (.nilFunc) := by kernel_rfl
theorem some_150 : (Tryz.prog.underlying 150).isSome = true := by kernel_rfl
theorem flat_151 : flatB Tryz.prog 151 = true := by kernel_rfl
theorem size_151 : sizeIs Tryz.prog 151 1 = true := by kernel_rfl
theorem zero_151 : zeroOf Tryz.prog 151 = some (.nilFunc) := by kernel_rfl
theorem some_151 : (Tryz.prog.underlying 151).isSome = true := by kernel_rfl
theorem flat_152 : flatB Tryz.prog 152 = true := by kernel_rfl
theorem size_152 : sizeIs Tryz.prog 152 1 = true := by kernel_rfl
theorem zero_152 : zeroOf Tryz.prog 152 = some (.nilFunc) := by kernel_rfl
theorem some_152 : (Tryz.prog.underlying 152).isSome = true := by kernel_rfl
theorem flat_153 : flatB Tryz.prog 153 = true := by kernel_rfl
theorem size_153 : sizeIs Tryz.prog 153 1 = true := by kernel_rfl
theorem zero_153 : zeroOf Tryz.prog 153 = some (.nilFunc) := by kernel_rfl
theorem some_153 : (Tryz.prog.underlying 153).isSome = true := by kernel_rfl
theorem agg_154 : aggB Tryz.prog 154 = true := by kernel_rfl
theorem size_154 : sizeIs Tryz.prog 154 20 = true := by kernel_rfl
theorem zero_154 : zeroOf Tryz.prog 154 = some (.agg #[.int .u64 0, .int .u64 0, .int .u64 0, .int .u64 0, .int .u64 0, .int .u64 0, .int .u64 0, .int .u64 0, .int .u64 0, .int .u64 0, .int .u64 0, .int .u64 0, .int .u64 0, .int .u64 0, .int .u64 0, .int .u64 0, .int .u64 0, .int .u64 0, .int .u64 0, .int .u64 0]) := by kernel_rfl
theorem arrz_154 : arrayOf Tryz.prog 154 = some 1 := by kernel_rfl
theorem arr_154 : Tryz.prog.underlying 154 = some (.array 20 103) := by kernel_rfl
theorem some_154 : (Tryz.prog.underlying 154).isSome = true := by kernel_rfl
theorem agg_155 : aggB Tryz.prog 155 = true := by kernel_rfl
theorem size_155 : sizeIs Tryz.prog 155 65 = true := by kernel_rfl
theorem zero_155 : zeroOf Tryz.prog 155 = some (.agg #[.int .u8 0, .int .u8 0, .int .u8 0, .int .u8 0, .int .u8 0, .int .u8 0, .int .u8 0, .int .u8 0, .int .u8 0, .int .u8 0, .int .u8 0, .int .u8 0, .int .u8 0, .int .u8 0, .int .u8 0, .int .u8 0, .int .u8 0, .int .u8 0, .int .u8 0, .int .u8 0, .int .u8 0, .int .u8 0, .int .u8 0, .int .u8 0, .int .u8 0, .int .u8 0, .int .u8 0, .int .u8 0, .int .u8 0, .int .u8 0, .int .u8 0, .int .u8 0, .int .u8 0, .int .u8 0, .int .u8 0, .int .u8 0, .int .u8 0, .int .u8 0, .int .u8 0, .int .u8 0, .int .u8 0, .int .u8 0, .int .u8 0, .int .u8 0, .int .u8 0, .int .u8 0, .int .u8 0, .int .u8 0, .int .u8 0, .int .u8 0, .int .u8 0, .int .u8 0, .int .u8 0, .int .u8 0, .int .u8 0, .int .u8 0, .int .u8 0, .int .u8 0, .int .u8 0, .int .u8 0, .int .u8 0, .int .u8 0, .int .u8 0, .int .u8 0, .int .u8 0]) := by kernel_rfl
theorem arrz_155 : arrayOf Tryz.prog 155 = some 1 := by kernel_rfl
theorem arr_155 : Tryz.prog.underlying 155 = some (.array 65 5) := by kernel_rfl
theorem some_155 : (Tryz.prog.underlying 155).isSome = true := by kernel_rfl
theorem flat_156 : flatB Tryz.prog 156 = true := by kernel_rfl
theorem size_156 : sizeIs Tryz.prog 156 1 = true := by kernel_rfl
theorem zero_156 : zeroOf Tryz.prog 156 = some (.nilFunc) := by kernel_rfl
theorem some_156 : (Tryz.prog.underlying 156).isSome = true := by kernel_rfl
theorem flat_157 : flatB Tryz.prog 157 = true := by kernel_rfl
theorem size_157 : sizeIs Tryz.prog 157 1 = true := by kernel_rfl
theorem zero_157 : zeroOf Tryz.prog 157 = some (.int .u64 0) := by kernel_rfl
theorem int_157 : Tryz.prog.underlying 157 = some (.int .u64) := by kernel_rfl
theorem some_157 : (Tryz.prog.underlying 157).isSome = true := by kernel_rfl
theorem flat_158 : flatB Tryz.prog 158 = true := by kernel_rfl
theorem size_158 : sizeIs Tryz.prog 158 1 = true := by kernel_rfl
theorem zero_158 : zeroOf Tryz.prog 158 = some (.nilFunc) := by kernel_rfl
theorem some_158 : (Tryz.prog.underlying 158).isSome = true := by kernel_rfl
theorem flat_159 : flatB Tryz.prog 159 = true := by kernel_rfl
theorem size_159 : sizeIs Tryz.prog 159 1 = true := by kernel_rfl
theorem zero_159 : zeroOf Tryz.prog 159 = some (.nilFunc) := by kernel_rfl
theorem some_159 : (Tryz.prog.underlying 159).isSome = true := by kernel_rfl
theorem flat_160 : flatB Tryz.prog 160 = true := by kernel_rfl
theorem size_160 : sizeIs Tryz.prog 160 1 = true := by kernel_rfl
theorem zero_160 : zeroOf Tryz.prog 160 = some (.pointer none) := by kernel_rfl
theorem ptr_160 : Tryz.prog.underlying 160 = some (.pointer (Tryz.prog.pointee 160)) := by kernel_rfl
theorem some_160 : (Tryz.prog.underlying 160).isSome = true := by kernel_rfl
theorem flat_161 : flatB Tryz.prog 161 = true := by kernel_rfl
theorem size_161 : sizeIs Tryz.prog 161 1 = true := by kernel_rfl
theorem zero_161 : zeroOf Tryz.prog 161 = some (.nilFunc) := by kernel_rfl
theorem some_161 : (Tryz.prog.underlying 161).isSome = true := by kernel_rfl
theorem flat_162 : flatB Tryz.prog 162 = true := by kernel_rfl
theorem size_162 : sizeIs Tryz.prog 162 1 = true := by kernel_rfl
theorem zero_162 : zeroOf Tryz.prog 162 = some (.nilFunc) := by kernel_rfl
theorem some_162 : (Tryz.prog.underlying 162).isSome = true := by kernel_rfl
theorem flat_163 : flatB Tryz.prog 163 = true := by kernel_rfl
theorem size_163 : sizeIs Tryz.prog 163 1 = true := by kernel_rfl
theorem zero_163 : zeroOf Tryz.prog 163 = some (.pointer none) := by kernel_rfl
theorem ptr_163 : Tryz.prog.underlying 163 = some (.pointer (Tryz.prog.pointee 163)) := by kernel_rfl
theorem some_163 : (Tryz.prog.underlying 163).isSome = true := by kernel_rfl
theorem flat_164 : flatB Tryz.prog 164 = true := by kernel_rfl
theorem size_164 : sizeIs Tryz.prog 164 1 = true := by kernel_rfl
theorem zero_164 : zeroOf Tryz.prog 164 = some (.nilFunc) := by kernel_rfl
theorem some_164 : (Tryz.prog.underlying 164).isSome = true := by kernel_rfl
theorem agg_165 : aggB Tryz.prog 165 = true := by kernel_rfl
theorem size_165 : sizeIs Tryz.prog 165 2 = true := by kernel_rfl
theorem zero_165 : zeroOf Tryz.prog 165 = some (.agg #[.pointer none, .string ⟨#[]⟩]) := by kernel_rfl
theorem plc_165 : placesOf Tryz.prog 165 = some [(0, 1), (1, 1)] := by kernel_rfl
theorem fld_165_0 : fieldOff Tryz.prog 165 0 = some 0 := by kernel_rfl
theorem fld_165_1 : fieldOff Tryz.prog 165 1 = some 1 := by kernel_rfl
theorem some_165 : (Tryz.prog.underlying 165).isSome = true := by kernel_rfl
theorem agg_166 : aggB Tryz.prog 166 = true := by kernel_rfl
theorem size_166 : sizeIs Tryz.prog 166 2 = true := by kernel_rfl
theorem zero_166 : zeroOf Tryz.prog 166 = some (.agg #[.pointer none, .string ⟨#[]⟩]) := by kernel_rfl
theorem plc_166 : placesOf Tryz.prog 166 = some [(0, 1), (1, 1)] := by kernel_rfl
theorem fld_166_0 : fieldOff Tryz.prog 166 0 = some 0 := by kernel_rfl
theorem fld_166_1 : fieldOff Tryz.prog 166 1 = some 1 := by kernel_rfl
theorem some_166 : (Tryz.prog.underlying 166).isSome = true := by kernel_rfl
theorem flat_167 : flatB Tryz.prog 167 = true := by kernel_rfl
theorem size_167 : sizeIs Tryz.prog 167 1 = true := by kernel_rfl
theorem zero_167 : zeroOf Tryz.prog 167 = some (.pointer none) := by kernel_rfl
theorem ptr_167 : Tryz.prog.underlying 167 = some (.pointer (Tryz.prog.pointee 167)) := by kernel_rfl
theorem some_167 : (Tryz.prog.underlying 167).isSome = true := by kernel_rfl
theorem flat_168 : flatB Tryz.prog 168 = true := by kernel_rfl
theorem size_168 : sizeIs Tryz.prog 168 1 = true := by kernel_rfl
theorem zero_168 : zeroOf Tryz.prog 168 = some (.slice none 0 0) := by kernel_rfl
theorem elem_168 : sliceElem Tryz.prog 168 = some 167 := by kernel_rfl
theorem row_168 : RowT Tryz.prog 168 167 1 8 (.pointer none) := ⟨by kernel_rfl, by kernel_rfl, rfl, by decide⟩
theorem some_168 : (Tryz.prog.underlying 168).isSome = true := by kernel_rfl
theorem agg_169 : aggB Tryz.prog 169 = true := by kernel_rfl
theorem size_169 : sizeIs Tryz.prog 169 5 = true := by kernel_rfl
theorem zero_169 : zeroOf Tryz.prog 169 = some (.agg #[.string ⟨#[]⟩, .int .i64 0, .string ⟨#[]⟩, .pointer none, .slice none 0 0]) := by kernel_rfl
theorem plc_169 : placesOf Tryz.prog 169 = some [(0, 1), (1, 1), (2, 1), (3, 1), (4, 1)] := by kernel_rfl
theorem fld_169_0 : fieldOff Tryz.prog 169 0 = some 0 := by kernel_rfl
theorem fld_169_1 : fieldOff Tryz.prog 169 1 = some 1 := by kernel_rfl
theorem fld_169_2 : fieldOff Tryz.prog 169 2 = some 2 := by kernel_rfl
theorem fld_169_3 : fieldOff Tryz.prog 169 3 = some 3 := by kernel_rfl
theorem fld_169_4 : fieldOff Tryz.prog 169 4 = some 4 := by kernel_rfl
theorem some_169 : (Tryz.prog.underlying 169).isSome = true := by kernel_rfl
theorem agg_170 : aggB Tryz.prog 170 = true := by kernel_rfl
theorem size_170 : sizeIs Tryz.prog 170 5 = true := by kernel_rfl
theorem zero_170 : zeroOf Tryz.prog 170 = some (.agg #[.string ⟨#[]⟩, .int .i64 0, .string ⟨#[]⟩, .pointer none, .slice none 0 0]) := by kernel_rfl
theorem plc_170 : placesOf Tryz.prog 170 = some [(0, 1), (1, 1), (2, 1), (3, 1), (4, 1)] := by kernel_rfl
theorem fld_170_0 : fieldOff Tryz.prog 170 0 = some 0 := by kernel_rfl
theorem fld_170_1 : fieldOff Tryz.prog 170 1 = some 1 := by kernel_rfl
theorem fld_170_2 : fieldOff Tryz.prog 170 2 = some 2 := by kernel_rfl
theorem fld_170_3 : fieldOff Tryz.prog 170 3 = some 3 := by kernel_rfl
theorem fld_170_4 : fieldOff Tryz.prog 170 4 = some 4 := by kernel_rfl
theorem some_170 : (Tryz.prog.underlying 170).isSome = true := by kernel_rfl
theorem agg_171 : aggB Tryz.prog 171 = true := by kernel_rfl
theorem size_171 : sizeIs Tryz.prog 171 262 = true := by kernel_rfl
theorem zero_171 : zeroOf Tryz.prog 171 = some (.agg #[.string ⟨#[]⟩, .int .i64 0, .string ⟨#[]⟩, .pointer none, .slice none 0 0, .int .i64 0, .int .u8 0, .int .u8 0, .int .u8 0, .int .u8 0, .int .u8 0, .int .u8 0, .int .u8 0, .int .u8 0, .int .u8 0, .int .u8 0, .int .u8 0, .int .u8 0, .int .u8 0, .int .u8 0, .int .u8 0, .int .u8 0, .int .u8 0, .int .u8 0, .int .u8 0, .int .u8 0, .int .u8 0, .int .u8 0, .int .u8 0, .int .u8 0, .int .u8 0, .int .u8 0, .int .u8 0, .int .u8 0, .int .u8 0, .int .u8 0, .int .u8 0, .int .u8 0, .int .u8 0, .int .u8 0, .int .u8 0, .int .u8 0, .int .u8 0, .int .u8 0, .int .u8 0, .int .u8 0, .int .u8 0, .int .u8 0, .int .u8 0, .int .u8 0, .int .u8 0, .int .u8 0, .int .u8 0, .int .u8 0, .int .u8 0, .int .u8 0, .int .u8 0, .int .u8 0, .int .u8 0, .int .u8 0, .int .u8 0, .int .u8 0, .int .u8 0, .int .u8 0, .int .u8 0, .int .u8 0, .int .u8 0, .int .u8 0, .int .u8 0, .int .u8 0, .int .u8 0, .int .u8 0, .int .u8 0, .int .u8 0, .int .u8 0, .int .u8 0, .int .u8 0, .int .u8 0, .int .u8 0, .int .u8 0, .int .u8 0, .int .u8 0, .int .u8 0, .int .u8 0, .int .u8 0, .int .u8 0, .int .u8 0, .int .u8 0, .int .u8 0, .int .u8 0, .int .u8 0, .int .u8 0, .int .u8 0, .int .u8 0, .int .u8 0, .int .u8 0, .int .u8 0, .int .u8 0, .int .u8 0, .int .u8 0, .int .u8 0, .int .u8 0, .int .u8 0, .int .u8 0, .int .u8 0, .int .u8 0, .int .u8 0, .int .u8 0, .int .u8 0, .int .u8 0, .int .u8 0, .int .u8 0, .int .u8 0, .int .u8 0, .int .u8 0, .int .u8 0, .int .u8 0, .int .u8 0, .int .u8 0, .int .u8 0, .int .u8 0, .int .u8 0, .int .u8 0, .int .u8 0, .int .u8 0, .int .u8 0, .int .u8 0, .int .u8 0, .int .u8 0, .int .u8 0, .int .u8 0, .int .u8 0, .int .u8 0, .int .u8 0, .int .u8 0, .int .u8 0, .int .u8 0, .int .u8 0, .int .u8 0, .int .u8 0, .int .u8 0, .int .u8 0, .int .u8 0, .int .u8 0, .int .u8 0, .int .u8 0, .int .u8 0, .int .u8 0, .int .u8 0, .int .u8 0, .int .u8 0, .int .u8 0, .int .u8 0, .int .u8 0, .int .u8 0, .int .u8 0, .int .u8 0, .int .u8 0, .int .u8 0, .int .u8 0, .int .u8 0, .int .u8 0, .int .u8 0, .int .u8 0, .int .u8 0, .int .u8 0, .int .u8 0, .int .u8 0, .int .u8 0, .int .u8 0, .int .u8 0, .int .u8 0, .int .u8 0, .int .u8 0, .int .u8 0, .int .u8 0, .int .u8 0, .int .u8 0, .int .u8 0, .int .u8 0, .int .u8 0, .int .u8 0, .int .u8 0, .int .u8 0, .int .u8 0, .int .u8 0, .int .u8 0, .int .u8 0, .int .u8 0, .int .u8 0, .int .u8 0, .int .u8 0, .int .u8 0, .int .u8 0, .int .u8 0, .int .u8 0, .int .u8 0, .int .u8 0, .int .u8 0, .int .u8 0, .int .u8 0, .int .u8 0, .int .u8 0, .int .u8 0, .int .u8 0, .int .u8 0, .int .u8 0, .int .u8 0, .int .u8 0, .int .u8 0, .int .u8 0, .int .u8 0, .int .u8 0, .int .u8 0, .int .u8 0, .int .u8 0, .int .u8 0, .int .u8 0, .int .u8 0, .int .u8 0, .int .u8 0, .int .u8 0, .int .u8 0, .int .u8 0, .int .u8 0, .int .u8 0, .int .u8 0, .int .u8 0, .int .u8 0, .int .u8 0, .int .u8 0, .int .u8 0, .int .u8 0, .int .u8 0, .int .u8 0, .int .u8 0, .int .u8 0, .int .u8 0, .int .u8 0, .int .u8 0, .int .u8 0, .int .u8 0, .int .u8 0, .int .u8 0, .int .u8 0, .int .u8 0, .int .u8 0, .int .u8 0, .int .u8 0, .int .u8 0, .int .u8 0, .int .u8 0, .int .u8 0, .int .u8 0, .int .u8 0, .int .u8 0, .int .u8 0, .int .u8 0, .int .u8 0, .int .u8 0, .int .u8 0, .int .u8 0]) := by kernel_rfl
theorem plc_171 : placesOf Tryz.prog 171 = some [(0, 5), (5, 1), (6, 256)] := by kernel_rfl
theorem fld_171_0 : fieldOff Tryz.prog 171 0 = some 0 := by kernel_rfl
theorem fld_171_1 : fieldOff Tryz.prog 171 1 = some 5 := by kernel_rfl
theorem fld_171_2 : fieldOff Tryz.prog 171 2 = some 6 := by kernel_rfl
theorem some_171 : (Tryz.prog.underlying 171).isSome = true := by kernel_rfl
theorem agg_172 : aggB Tryz.prog 172 = true := by kernel_rfl
theorem size_172 : sizeIs Tryz.prog 172 262 = true := by kernel_rfl
theorem zero_172 : zeroOf Tryz.prog 172 = some (.agg #[.string ⟨#[]⟩, .int .i64 0, .string ⟨#[]⟩, .pointer none, .slice none 0 0, .int .i64 0, .int .u8 0, .int .u8 0, .int .u8 0, .int .u8 0, .int .u8 0, .int .u8 0, .int .u8 0, .int .u8 0, .int .u8 0, .int .u8 0, .int .u8 0, .int .u8 0, .int .u8 0, .int .u8 0, .int .u8 0, .int .u8 0, .int .u8 0, .int .u8 0, .int .u8 0, .int .u8 0, .int .u8 0, .int .u8 0, .int .u8 0, .int .u8 0, .int .u8 0, .int .u8 0, .int .u8 0, .int .u8 0, .int .u8 0, .int .u8 0, .int .u8 0, .int .u8 0, .int .u8 0, .int .u8 0, .int .u8 0, .int .u8 0, .int .u8 0, .int .u8 0, .int .u8 0, .int .u8 0, .int .u8 0, .int .u8 0, .int .u8 0, .int .u8 0, .int .u8 0, .int .u8 0, .int .u8 0, .int .u8 0, .int .u8 0, .int .u8 0, .int .u8 0, .int .u8 0, .int .u8 0, .int .u8 0, .int .u8 0, .int .u8 0, .int .u8 0, .int .u8 0, .int .u8 0, .int .u8 0, .int .u8 0, .int .u8 0, .int .u8 0, .int .u8 0, .int .u8 0, .int .u8 0, .int .u8 0, .int .u8 0, .int .u8 0, .int .u8 0, .int .u8 0, .int .u8 0, .int .u8 0, .int .u8 0, .int .u8 0, .int .u8 0, .int .u8 0, .int .u8 0, .int .u8 0, .int .u8 0, .int .u8 0, .int .u8 0, .int .u8 0, .int .u8 0, .int .u8 0, .int .u8 0, .int .u8 0, .int .u8 0, .int .u8 0, .int .u8 0, .int .u8 0, .int .u8 0, .int .u8 0, .int .u8 0, .int .u8 0, .int .u8 0, .int .u8 0, .int .u8 0, .int .u8 0, .int .u8 0, .int .u8 0, .int .u8 0, .int .u8 0, .int .u8 0, .int .u8 0, .int .u8 0, .int .u8 0, .int .u8 0, .int .u8 0, .int .u8 0, .int .u8 0, .int .u8 0, .int .u8 0, .int .u8 0, .int .u8 0, .int .u8 0, .int .u8 0, .int .u8 0, .int .u8 0, .int .u8 0, .int .u8 0, .int .u8 0, .int .u8 0, .int .u8 0, .int .u8 0, .int .u8 0, .int .u8 0, .int .u8 0, .int .u8 0, .int .u8 0, .int .u8 0, .int .u8 0, .int .u8 0, .int .u8 0, .int .u8 0, .int .u8 0, .int .u8 0, .int .u8 0, .int .u8 0, .int .u8 0, .int .u8 0, .int .u8 0, .int .u8 0, .int .u8 0, .int .u8 0, .int .u8 0, .int .u8 0, .int .u8 0, .int .u8 0, .int .u8 0, .int .u8 0, .int .u8 0, .int .u8 0, .int .u8 0, .int .u8 0, .int .u8 0, .int .u8 0, .int .u8 0, .int .u8 0, .int .u8 0, .int .u8 0, .int .u8 0, .int .u8 0, .int .u8 0, .int .u8 0, .int .u8 0, .int .u8 0, .int .u8 0, .int .u8 0, .int .u8 0, .int .u8 0, .int .u8 0, .int .u8 0, .int .u8 0, .int .u8 0, .int .u8 0, .int .u8 0, .int .u8 0, .int .u8 0, .int .u8 0, .int .u8 0, .int .u8 0, .int .u8 0, .int .u8 0, .int .u8 0, .int .u8 0, .int .u8 0, .int .u8 0, .int .u8 0, .int .u8 0, .int .u8 0, .int .u8 0, .int .u8 0, .int .u8 0, .int .u8 0, .int .u8 0, .int .u8 0, .int .u8 0, .int .u8 0, .int .u8 0, .int .u8 0, .int .u8 0, .int .u8 0, .int .u8 0, .int .u8 0, .int .u8 0, .int .u8 0, .int .u8 0, .int .u8 0, .int .u8 0, .int .u8 0, .int .u8 0, .int .u8 0, .int .u8 0, .int .u8 0, .int .u8 0, .int .u8 0, .int .u8 0, .int .u8 0, .int .u8 0, .int .u8 0, .int .u8 0, .int .u8 0, .int .u8 0, .int .u8 0, .int .u8 0, .int .u8 0, .int .u8 0, .int .u8 0, .int .u8 0, .int .u8 0, .int .u8 0, .int .u8 0, .int .u8 0, .int .u8 0, .int .u8 0, .int .u8 0, .int .u8 0, .int .u8 0, .int .u8 0, .int .u8 0, .int .u8 0, .int .u8 0, .int .u8 0, .int .u8 0, .int .u8 0, .int .u8 0, .int .u8 0, .int .u8 0, .int .u8 0, .int .u8 0, .int .u8 0, .int .u8 0, .int .u8 0, .int .u8 0, .int .u8 0]) := by kernel_rfl
theorem plc_172 : placesOf Tryz.prog 172 = some [(0, 5), (5, 1), (6, 256)] := by kernel_rfl
theorem fld_172_0 : fieldOff Tryz.prog 172 0 = some 0 := by kernel_rfl
theorem fld_172_1 : fieldOff Tryz.prog 172 1 = some 5 := by kernel_rfl
theorem fld_172_2 : fieldOff Tryz.prog 172 2 = some 6 := by kernel_rfl
theorem some_172 : (Tryz.prog.underlying 172).isSome = true := by kernel_rfl
theorem flat_173 : flatB Tryz.prog 173 = true := by kernel_rfl
theorem size_173 : sizeIs Tryz.prog 173 1 = true := by kernel_rfl
theorem zero_173 : zeroOf Tryz.prog 173 = some (.nilFunc) := by kernel_rfl
theorem some_173 : (Tryz.prog.underlying 173).isSome = true := by kernel_rfl
theorem flat_174 : flatB Tryz.prog 174 = true := by kernel_rfl
theorem size_174 : sizeIs Tryz.prog 174 1 = true := by kernel_rfl
theorem zero_174 : zeroOf Tryz.prog 174 = some (.nilFunc) := by kernel_rfl
theorem some_174 : (Tryz.prog.underlying 174).isSome = true := by kernel_rfl
theorem flat_175 : flatB Tryz.prog 175 = true := by kernel_rfl
theorem size_175 : sizeIs Tryz.prog 175 1 = true := by kernel_rfl
theorem zero_175 : zeroOf Tryz.prog 175 = some (.nilFunc) := by kernel_rfl
theorem some_175 : (Tryz.prog.underlying 175).isSome = true := by kernel_rfl
theorem flat_176 : flatB Tryz.prog 176 = true := by kernel_rfl
theorem size_176 : sizeIs Tryz.prog 176 1 = true := by kernel_rfl
theorem zero_176 : zeroOf Tryz.prog 176 = some (.slice none 0 0) := by kernel_rfl
theorem elem_176 : sliceElem Tryz.prog 176 = some 66 := by kernel_rfl
theorem row_176 : RowT Tryz.prog 176 66 1 24 (.slice none 0 0) := ⟨by kernel_rfl, by kernel_rfl, rfl, by decide⟩
theorem some_176 : (Tryz.prog.underlying 176).isSome = true := by kernel_rfl
theorem flat_177 : flatB Tryz.prog 177 = true := by kernel_rfl
theorem size_177 : sizeIs Tryz.prog 177 1 = true := by kernel_rfl
theorem zero_177 : zeroOf Tryz.prog 177 = some (.pointer none) := by kernel_rfl
theorem ptr_177 : Tryz.prog.underlying 177 = some (.pointer (Tryz.prog.pointee 177)) := by kernel_rfl
theorem some_177 : (Tryz.prog.underlying 177).isSome = true := by kernel_rfl
theorem flat_178 : flatB Tryz.prog 178 = true := by kernel_rfl
theorem size_178 : sizeIs Tryz.prog 178 1 = true := by kernel_rfl
theorem zero_178 : zeroOf Tryz.prog 178 = some (.nilFunc) := by kernel_rfl
theorem some_178 : (Tryz.prog.underlying 178).isSome = true := by kernel_rfl
theorem flat_179 : flatB Tryz.prog 179 = true := by kernel_rfl
theorem size_179 : sizeIs Tryz.prog 179 1 = true := by kernel_rfl
theorem zero_179 : zeroOf Tryz.prog 179 = some (.pointer none) := by kernel_rfl
theorem ptr_179 : Tryz.prog.underlying 179 = some (.pointer (Tryz.prog.pointee 179)) := by kernel_rfl
theorem some_179 : (Tryz.prog.underlying 179).isSome = true := by kernel_rfl
theorem flat_180 : flatB Tryz.prog 180 = true := by kernel_rfl
theorem size_180 : sizeIs Tryz.prog 180 1 = true := by kernel_rfl
theorem zero_180 : zeroOf Tryz.prog 180 = some (.nilFunc) := by kernel_rfl
theorem some_180 : (Tryz.prog.underlying 180).isSome = true := by kernel_rfl
theorem flat_181 : flatB Tryz.prog 181 = true := by kernel_rfl
theorem size_181 : sizeIs Tryz.prog 181 1 = true := by kernel_rfl
theorem zero_181 : zeroOf Tryz.prog 181 = some (.nilFunc) := by kernel_rfl
theorem some_181 : (Tryz.prog.underlying 181).isSome = true := by kernel_rfl
theorem flat_182 : flatB Tryz.prog 182 = true := by kernel_rfl
theorem size_182 : sizeIs Tryz.prog 182 1 = true := by kernel_rfl
theorem zero_182 : zeroOf Tryz.prog 182 = some (.nilFunc) := by kernel_rfl
theorem some_182 : (Tryz.prog.underlying 182).isSome = true := by kernel_rfl
theorem flat_183 : flatB Tryz.prog 183 = true := by kernel_rfl
theorem size_183 : sizeIs Tryz.prog 183 1 = true := by kernel_rfl
theorem zero_183 : zeroOf Tryz.prog 183 = some (.slice none 0 0) := by kernel_rfl
theorem elem_183 : sliceElem Tryz.prog 183 = some 3 := by kernel_rfl
theorem row_183 : RowT Tryz.prog 183 3 1 8 (.int .i64 0) := ⟨by kernel_rfl, by kernel_rfl, rfl, by decide⟩
theorem some_183 : (Tryz.prog.underlying 183).isSome = true := by kernel_rfl
theorem agg_184 : aggB Tryz.prog 184 = true := by kernel_rfl
theorem size_184 : sizeIs Tryz.prog 184 256 = true := by kernel_rfl
theorem zero_184 : zeroOf Tryz.prog 184 = some (.agg #[.int .i64 0, .int .i64 0, .int .i64 0, .int .i64 0, .int .i64 0, .int .i64 0, .int .i64 0, .int .i64 0, .int .i64 0, .int .i64 0, .int .i64 0, .int .i64 0, .int .i64 0, .int .i64 0, .int .i64 0, .int .i64 0, .int .i64 0, .int .i64 0, .int .i64 0, .int .i64 0, .int .i64 0, .int .i64 0, .int .i64 0, .int .i64 0, .int .i64 0, .int .i64 0, .int .i64 0, .int .i64 0, .int .i64 0, .int .i64 0, .int .i64 0, .int .i64 0, .int .i64 0, .int .i64 0, .int .i64 0, .int .i64 0, .int .i64 0, .int .i64 0, .int .i64 0, .int .i64 0, .int .i64 0, .int .i64 0, .int .i64 0, .int .i64 0, .int .i64 0, .int .i64 0, .int .i64 0, .int .i64 0, .int .i64 0, .int .i64 0, .int .i64 0, .int .i64 0, .int .i64 0, .int .i64 0, .int .i64 0, .int .i64 0, .int .i64 0, .int .i64 0, .int .i64 0, .int .i64 0, .int .i64 0, .int .i64 0, .int .i64 0, .int .i64 0, .int .i64 0, .int .i64 0, .int .i64 0, .int .i64 0, .int .i64 0, .int .i64 0, .int .i64 0, .int .i64 0, .int .i64 0, .int .i64 0, .int .i64 0, .int .i64 0, .int .i64 0, .int .i64 0, .int .i64 0, .int .i64 0, .int .i64 0, .int .i64 0, .int .i64 0, .int .i64 0, .int .i64 0, .int .i64 0, .int .i64 0, .int .i64 0, .int .i64 0, .int .i64 0, .int .i64 0, .int .i64 0, .int .i64 0, .int .i64 0, .int .i64 0, .int .i64 0, .int .i64 0, .int .i64 0, .int .i64 0, .int .i64 0, .int .i64 0, .int .i64 0, .int .i64 0, .int .i64 0, .int .i64 0, .int .i64 0, .int .i64 0, .int .i64 0, .int .i64 0, .int .i64 0, .int .i64 0, .int .i64 0, .int .i64 0, .int .i64 0, .int .i64 0, .int .i64 0, .int .i64 0, .int .i64 0, .int .i64 0, .int .i64 0, .int .i64 0, .int .i64 0, .int .i64 0, .int .i64 0, .int .i64 0, .int .i64 0, .int .i64 0, .int .i64 0, .int .i64 0, .int .i64 0, .int .i64 0, .int .i64 0, .int .i64 0, .int .i64 0, .int .i64 0, .int .i64 0, .int .i64 0, .int .i64 0, .int .i64 0, .int .i64 0, .int .i64 0, .int .i64 0, .int .i64 0, .int .i64 0, .int .i64 0, .int .i64 0, .int .i64 0, .int .i64 0, .int .i64 0, .int .i64 0, .int .i64 0, .int .i64 0, .int .i64 0, .int .i64 0, .int .i64 0, .int .i64 0, .int .i64 0, .int .i64 0, .int .i64 0, .int .i64 0, .int .i64 0, .int .i64 0, .int .i64 0, .int .i64 0, .int .i64 0, .int .i64 0, .int .i64 0, .int .i64 0, .int .i64 0, .int .i64 0, .int .i64 0, .int .i64 0, .int .i64 0, .int .i64 0, .int .i64 0, .int .i64 0, .int .i64 0, .int .i64 0, .int .i64 0, .int .i64 0, .int .i64 0, .int .i64 0, .int .i64 0, .int .i64 0, .int .i64 0, .int .i64 0, .int .i64 0, .int .i64 0, .int .i64 0, .int .i64 0, .int .i64 0, .int .i64 0, .int .i64 0, .int .i64 0, .int .i64 0, .int .i64 0, .int .i64 0, .int .i64 0, .int .i64 0, .int .i64 0, .int .i64 0, .int .i64 0, .int .i64 0, .int .i64 0, .int .i64 0, .int .i64 0, .int .i64 0, .int .i64 0, .int .i64 0, .int .i64 0, .int .i64 0, .int .i64 0, .int .i64 0, .int .i64 0, .int .i64 0, .int .i64 0, .int .i64 0, .int .i64 0, .int .i64 0, .int .i64 0, .int .i64 0, .int .i64 0, .int .i64 0, .int .i64 0, .int .i64 0, .int .i64 0, .int .i64 0, .int .i64 0, .int .i64 0, .int .i64 0, .int .i64 0, .int .i64 0, .int .i64 0, .int .i64 0, .int .i64 0, .int .i64 0, .int .i64 0, .int .i64 0, .int .i64 0, .int .i64 0, .int .i64 0, .int .i64 0, .int .i64 0, .int .i64 0, .int .i64 0, .int .i64 0, .int .i64 0, .int .i64 0, .int .i64 0, .int .i64 0, .int .i64 0, .int .i64 0, .int .i64 0, .int .i64 0, .int .i64 0, .int .i64 0]) := by kernel_rfl
theorem arrz_184 : arrayOf Tryz.prog 184 = some 1 := by kernel_rfl
theorem arr_184 : Tryz.prog.underlying 184 = some (.array 256 3) := by kernel_rfl
theorem some_184 : (Tryz.prog.underlying 184).isSome = true := by kernel_rfl
theorem agg_185 : aggB Tryz.prog 185 = true := by kernel_rfl
theorem size_185 : sizeIs Tryz.prog 185 258 = true := by kernel_rfl
theorem zero_185 : zeroOf Tryz.prog 185 = some (.agg #[.string ⟨#[]⟩, .int .i64 0, .int .i64 0, .int .i64 0, .int .i64 0, .int .i64 0, .int .i64 0, .int .i64 0, .int .i64 0, .int .i64 0, .int .i64 0, .int .i64 0, .int .i64 0, .int .i64 0, .int .i64 0, .int .i64 0, .int .i64 0, .int .i64 0, .int .i64 0, .int .i64 0, .int .i64 0, .int .i64 0, .int .i64 0, .int .i64 0, .int .i64 0, .int .i64 0, .int .i64 0, .int .i64 0, .int .i64 0, .int .i64 0, .int .i64 0, .int .i64 0, .int .i64 0, .int .i64 0, .int .i64 0, .int .i64 0, .int .i64 0, .int .i64 0, .int .i64 0, .int .i64 0, .int .i64 0, .int .i64 0, .int .i64 0, .int .i64 0, .int .i64 0, .int .i64 0, .int .i64 0, .int .i64 0, .int .i64 0, .int .i64 0, .int .i64 0, .int .i64 0, .int .i64 0, .int .i64 0, .int .i64 0, .int .i64 0, .int .i64 0, .int .i64 0, .int .i64 0, .int .i64 0, .int .i64 0, .int .i64 0, .int .i64 0, .int .i64 0, .int .i64 0, .int .i64 0, .int .i64 0, .int .i64 0, .int .i64 0, .int .i64 0, .int .i64 0, .int .i64 0, .int .i64 0, .int .i64 0, .int .i64 0, .int .i64 0, .int .i64 0, .int .i64 0, .int .i64 0, .int .i64 0, .int .i64 0, .int .i64 0, .int .i64 0, .int .i64 0, .int .i64 0, .int .i64 0, .int .i64 0, .int .i64 0, .int .i64 0, .int .i64 0, .int .i64 0, .int .i64 0, .int .i64 0, .int .i64 0, .int .i64 0, .int .i64 0, .int .i64 0, .int .i64 0, .int .i64 0, .int .i64 0, .int .i64 0, .int .i64 0, .int .i64 0, .int .i64 0, .int .i64 0, .int .i64 0, .int .i64 0, .int .i64 0, .int .i64 0, .int .i64 0, .int .i64 0, .int .i64 0, .int .i64 0, .int .i64 0, .int .i64 0, .int .i64 0, .int .i64 0, .int .i64 0, .int .i64 0, .int .i64 0, .int .i64 0, .int .i64 0, .int .i64 0, .int .i64 0, .int .i64 0, .int .i64 0, .int .i64 0, .int .i64 0, .int .i64 0, .int .i64 0, .int .i64 0, .int .i64 0, .int .i64 0, .int .i64 0, .int .i64 0, .int .i64 0, .int .i64 0, .int .i64 0, .int .i64 0, .int .i64 0, .int .i64 0, .int .i64 0, .int .i64 0, .int .i64 0, .int .i64 0, .int .i64 0, .int .i64 0, .int .i64 0, .int .i64 0, .int .i64 0, .int .i64 0, .int .i64 0, .int .i64 0, .int .i64 0, .int .i64 0, .int .i64 0, .int .i64 0, .int .i64 0, .int .i64 0, .int .i64 0, .int .i64 0, .int .i64 0, .int .i64 0, .int .i64 0, .int .i64 0, .int .i64 0, .int .i64 0, .int .i64 0, .int .i64 0, .int .i64 0, .int .i64 0, .int .i64 0, .int .i64 0, .int .i64 0, .int .i64 0, .int .i64 0, .int .i64 0, .int .i64 0, .int .i64 0, .int .i64 0, .int .i64 0, .int .i64 0, .int .i64 0, .int .i64 0, .int .i64 0, .int .i64 0, .int .i64 0, .int .i64 0, .int .i64 0, .int .i64 0, .int .i64 0, .int .i64 0, .int .i64 0, .int .i64 0, .int .i64 0, .int .i64 0, .int .i64 0, .int .i64 0, .int .i64 0, .int .i64 0, .int .i64 0, .int .i64 0, .int .i64 0, .int .i64 0, .int .i64 0, .int .i64 0, .int .i64 0, .int .i64 0, .int .i64 0, .int .i64 0, .int .i64 0, .int .i64 0, .int .i64 0, .int .i64 0, .int .i64 0, .int .i64 0, .int .i64 0, .int .i64 0, .int .i64 0, .int .i64 0, .int .i64 0, .int .i64 0, .int .i64 0, .int .i64 0, .int .i64 0, .int .i64 0, .int .i64 0, .int .i64 0, .int .i64 0, .int .i64 0, .int .i64 0, .int .i64 0, .int .i64 0, .int .i64 0, .int .i64 0, .int .i64 0, .int .i64 0, .int .i64 0, .int .i64 0, .int .i64 0, .int .i64 0, .int .i64 0, .int .i64 0, .int .i64 0, .int .i64 0, .int .i64 0, .int .i64 0, .int .i64 0, .int .i64 0, .int .i64 0, .int .i64 0, .int .i64 0, .int .i64 0, .int .i64 0, .int .i64 0, .int .i64 0, .int .i64 0, .slice none 0 0]) := by kernel_rfl
theorem plc_185 : placesOf Tryz.prog 185 = some [(0, 1), (1, 256), (257, 1)] := by kernel_rfl
theorem fld_185_0 : fieldOff Tryz.prog 185 0 = some 0 := by kernel_rfl
theorem fld_185_1 : fieldOff Tryz.prog 185 1 = some 1 := by kernel_rfl
theorem fld_185_2 : fieldOff Tryz.prog 185 2 = some 257 := by kernel_rfl
theorem some_185 : (Tryz.prog.underlying 185).isSome = true := by kernel_rfl
theorem agg_186 : aggB Tryz.prog 186 = true := by kernel_rfl
theorem size_186 : sizeIs Tryz.prog 186 258 = true := by kernel_rfl
theorem zero_186 : zeroOf Tryz.prog 186 = some (.agg #[.string ⟨#[]⟩, .int .i64 0, .int .i64 0, .int .i64 0, .int .i64 0, .int .i64 0, .int .i64 0, .int .i64 0, .int .i64 0, .int .i64 0, .int .i64 0, .int .i64 0, .int .i64 0, .int .i64 0, .int .i64 0, .int .i64 0, .int .i64 0, .int .i64 0, .int .i64 0, .int .i64 0, .int .i64 0, .int .i64 0, .int .i64 0, .int .i64 0, .int .i64 0, .int .i64 0, .int .i64 0, .int .i64 0, .int .i64 0, .int .i64 0, .int .i64 0, .int .i64 0, .int .i64 0, .int .i64 0, .int .i64 0, .int .i64 0, .int .i64 0, .int .i64 0, .int .i64 0, .int .i64 0, .int .i64 0, .int .i64 0, .int .i64 0, .int .i64 0, .int .i64 0, .int .i64 0, .int .i64 0, .int .i64 0, .int .i64 0, .int .i64 0, .int .i64 0, .int .i64 0, .int .i64 0, .int .i64 0, .int .i64 0, .int .i64 0, .int .i64 0, .int .i64 0, .int .i64 0, .int .i64 0, .int .i64 0, .int .i64 0, .int .i64 0, .int .i64 0, .int .i64 0, .int .i64 0, .int .i64 0, .int .i64 0, .int .i64 0, .int .i64 0, .int .i64 0, .int .i64 0, .int .i64 0, .int .i64 0, .int .i64 0, .int .i64 0, .int .i64 0, .int .i64 0, .int .i64 0, .int .i64 0, .int .i64 0, .int .i64 0, .int .i64 0, .int .i64 0, .int .i64 0, .int .i64 0, .int .i64 0, .int .i64 0, .int .i64 0, .int .i64 0, .int .i64 0, .int .i64 0, .int .i64 0, .int .i64 0, .int .i64 0, .int .i64 0, .int .i64 0, .int .i64 0, .int .i64 0, .int .i64 0, .int .i64 0, .int .i64 0, .int .i64 0, .int .i64 0, .int .i64 0, .int .i64 0, .int .i64 0, .int .i64 0, .int .i64 0, .int .i64 0, .int .i64 0, .int .i64 0, .int .i64 0, .int .i64 0, .int .i64 0, .int .i64 0, .int .i64 0, .int .i64 0, .int .i64 0, .int .i64 0, .int .i64 0, .int .i64 0, .int .i64 0, .int .i64 0, .int .i64 0, .int .i64 0, .int .i64 0, .int .i64 0, .int .i64 0, .int .i64 0, .int .i64 0, .int .i64 0, .int .i64 0, .int .i64 0, .int .i64 0, .int .i64 0, .int .i64 0, .int .i64 0, .int .i64 0, .int .i64 0, .int .i64 0, .int .i64 0, .int .i64 0, .int .i64 0, .int .i64 0, .int .i64 0, .int .i64 0, .int .i64 0, .int .i64 0, .int .i64 0, .int .i64 0, .int .i64 0, .int .i64 0, .int .i64 0, .int .i64 0, .int .i64 0, .int .i64 0, .int .i64 0, .int .i64 0, .int .i64 0, .int .i64 0, .int .i64 0, .int .i64 0, .int .i64 0, .int .i64 0, .int .i64 0, .int .i64 0, .int .i64 0, .int .i64 0, .int .i64 0, .int .i64 0, .int .i64 0, .int .i64 0, .int .i64 0, .int .i64 0, .int .i64 0, .int .i64 0, .int .i64 0, .int .i64 0, .int .i64 0, .int .i64 0, .int .i64 0, .int .i64 0, .int .i64 0, .int .i64 0, .int .i64 0, .int .i64 0, .int .i64 0, .int .i64 0, .int .i64 0, .int .i64 0, .int .i64 0, .int .i64 0, .int .i64 0, .int .i64 0, .int .i64 0, .int .i64 0, .int .i64 0, .int .i64 0, .int .i64 0, .int .i64 0, .int .i64 0, .int .i64 0, .int .i64 0, .int .i64 0, .int .i64 0, .int .i64 0, .int .i64 0, .int .i64 0, .int .i64 0, .int .i64 0, .int .i64 0, .int .i64 0, .int .i64 0, .int .i64 0, .int .i64 0, .int .i64 0, .int .i64 0, .int .i64 0, .int .i64 0, .int .i64 0, .int .i64 0, .int .i64 0, .int .i64 0, .int .i64 0, .int .i64 0, .int .i64 0, .int .i64 0, .int .i64 0, .int .i64 0, .int .i64 0, .int .i64 0, .int .i64 0, .int .i64 0, .int .i64 0, .int .i64 0, .int .i64 0, .int .i64 0, .int .i64 0, .int .i64 0, .int .i64 0, .int .i64 0, .int .i64 0, .int .i64 0, .int .i64 0, .int .i64 0, .int .i64 0, .int .i64 0, .int .i64 0, .int .i64 0, .int .i64 0, .int .i64 0, .int .i64 0, .int .i64 0, .int .i64 0, .int .i64 0, .int .i64 0, .slice none 0 0]) := by kernel_rfl
theorem plc_186 : placesOf Tryz.prog 186 = some [(0, 1), (1, 256), (257, 1)] := by kernel_rfl
theorem fld_186_0 : fieldOff Tryz.prog 186 0 = some 0 := by kernel_rfl
theorem fld_186_1 : fieldOff Tryz.prog 186 1 = some 1 := by kernel_rfl
theorem fld_186_2 : fieldOff Tryz.prog 186 2 = some 257 := by kernel_rfl
theorem some_186 : (Tryz.prog.underlying 186).isSome = true := by kernel_rfl
theorem flat_187 : flatB Tryz.prog 187 = true := by kernel_rfl
theorem size_187 : sizeIs Tryz.prog 187 1 = true := by kernel_rfl
theorem zero_187 : zeroOf Tryz.prog 187 = some (.nilFunc) := by kernel_rfl
theorem some_187 : (Tryz.prog.underlying 187).isSome = true := by kernel_rfl
theorem agg_188 : aggB Tryz.prog 188 = true := by kernel_rfl
theorem size_188 : sizeIs Tryz.prog 188 32 = true := by kernel_rfl
theorem zero_188 : zeroOf Tryz.prog 188 = some (.agg #[.int .u8 0, .int .u8 0, .int .u8 0, .int .u8 0, .int .u8 0, .int .u8 0, .int .u8 0, .int .u8 0, .int .u8 0, .int .u8 0, .int .u8 0, .int .u8 0, .int .u8 0, .int .u8 0, .int .u8 0, .int .u8 0, .int .u8 0, .int .u8 0, .int .u8 0, .int .u8 0, .int .u8 0, .int .u8 0, .int .u8 0, .int .u8 0, .int .u8 0, .int .u8 0, .int .u8 0, .int .u8 0, .int .u8 0, .int .u8 0, .int .u8 0, .int .u8 0]) := by kernel_rfl
theorem arrz_188 : arrayOf Tryz.prog 188 = some 1 := by kernel_rfl
theorem arr_188 : Tryz.prog.underlying 188 = some (.array 32 5) := by kernel_rfl
theorem some_188 : (Tryz.prog.underlying 188).isSome = true := by kernel_rfl
theorem agg_189 : aggB Tryz.prog 189 = true := by kernel_rfl
theorem size_189 : sizeIs Tryz.prog 189 64 = true := by kernel_rfl
theorem zero_189 : zeroOf Tryz.prog 189 = some (.agg #[.int .u8 0, .int .u8 0, .int .u8 0, .int .u8 0, .int .u8 0, .int .u8 0, .int .u8 0, .int .u8 0, .int .u8 0, .int .u8 0, .int .u8 0, .int .u8 0, .int .u8 0, .int .u8 0, .int .u8 0, .int .u8 0, .int .u8 0, .int .u8 0, .int .u8 0, .int .u8 0, .int .u8 0, .int .u8 0, .int .u8 0, .int .u8 0, .int .u8 0, .int .u8 0, .int .u8 0, .int .u8 0, .int .u8 0, .int .u8 0, .int .u8 0, .int .u8 0, .int .u8 0, .int .u8 0, .int .u8 0, .int .u8 0, .int .u8 0, .int .u8 0, .int .u8 0, .int .u8 0, .int .u8 0, .int .u8 0, .int .u8 0, .int .u8 0, .int .u8 0, .int .u8 0, .int .u8 0, .int .u8 0, .int .u8 0, .int .u8 0, .int .u8 0, .int .u8 0, .int .u8 0, .int .u8 0, .int .u8 0, .int .u8 0, .int .u8 0, .int .u8 0, .int .u8 0, .int .u8 0, .int .u8 0, .int .u8 0, .int .u8 0, .int .u8 0]) := by kernel_rfl
theorem arrz_189 : arrayOf Tryz.prog 189 = some 1 := by kernel_rfl
theorem arr_189 : Tryz.prog.underlying 189 = some (.array 64 5) := by kernel_rfl
theorem some_189 : (Tryz.prog.underlying 189).isSome = true := by kernel_rfl
theorem flat_190 : flatB Tryz.prog 190 = true := by kernel_rfl
theorem size_190 : sizeIs Tryz.prog 190 1 = true := by kernel_rfl
theorem zero_190 : zeroOf Tryz.prog 190 = some (.nilFunc) := by kernel_rfl
theorem some_190 : (Tryz.prog.underlying 190).isSome = true := by kernel_rfl
theorem flat_191 : flatB Tryz.prog 191 = true := by kernel_rfl
theorem size_191 : sizeIs Tryz.prog 191 1 = true := by kernel_rfl
theorem zero_191 : zeroOf Tryz.prog 191 = some (.nilFunc) := by kernel_rfl
theorem some_191 : (Tryz.prog.underlying 191).isSome = true := by kernel_rfl
theorem flat_197 : flatB Tryz.prog 197 = true := by kernel_rfl
theorem size_197 : sizeIs Tryz.prog 197 1 = true := by kernel_rfl
theorem zero_197 : zeroOf Tryz.prog 197 = some (.nilFunc) := by kernel_rfl
theorem some_197 : (Tryz.prog.underlying 197).isSome = true := by kernel_rfl
theorem flat_200 : flatB Tryz.prog 200 = true := by kernel_rfl
theorem size_200 : sizeIs Tryz.prog 200 1 = true := by kernel_rfl
theorem zero_200 : zeroOf Tryz.prog 200 = some (.nilFunc) := by kernel_rfl
theorem some_200 : (Tryz.prog.underlying 200).isSome = true := by kernel_rfl
theorem flat_205 : flatB Tryz.prog 205 = true := by kernel_rfl
theorem size_205 : sizeIs Tryz.prog 205 1 = true := by kernel_rfl
theorem zero_205 : zeroOf Tryz.prog 205 = some (.nilFunc) := by kernel_rfl
theorem some_205 : (Tryz.prog.underlying 205).isSome = true := by kernel_rfl
theorem flat_206 : flatB Tryz.prog 206 = true := by kernel_rfl
theorem size_206 : sizeIs Tryz.prog 206 1 = true := by kernel_rfl
theorem zero_206 : zeroOf Tryz.prog 206 = some (.nilFunc) := by kernel_rfl
theorem some_206 : (Tryz.prog.underlying 206).isSome = true := by kernel_rfl
theorem flat_207 : flatB Tryz.prog 207 = true := by kernel_rfl
theorem size_207 : sizeIs Tryz.prog 207 1 = true := by kernel_rfl
theorem zero_207 : zeroOf Tryz.prog 207 = some (.slice none 0 0) := by kernel_rfl
theorem elem_207 : sliceElem Tryz.prog 207 = some 5 := by kernel_rfl
theorem row_207 : RowT Tryz.prog 207 5 1 1 (.int .u8 0) := ⟨by kernel_rfl, by kernel_rfl, rfl, by decide⟩
theorem some_207 : (Tryz.prog.underlying 207).isSome = true := by kernel_rfl
theorem flat_208 : flatB Tryz.prog 208 = true := by kernel_rfl
theorem size_208 : sizeIs Tryz.prog 208 1 = true := by kernel_rfl
theorem zero_208 : zeroOf Tryz.prog 208 = some (.pointer none) := by kernel_rfl
theorem ptr_208 : Tryz.prog.underlying 208 = some (.pointer (Tryz.prog.pointee 208)) := by kernel_rfl
theorem some_208 : (Tryz.prog.underlying 208).isSome = true := by kernel_rfl
theorem flat_209 : flatB Tryz.prog 209 = true := by kernel_rfl
theorem size_209 : sizeIs Tryz.prog 209 1 = true := by kernel_rfl
theorem zero_209 : zeroOf Tryz.prog 209 = some (.nilIface) := by kernel_rfl
theorem some_209 : (Tryz.prog.underlying 209).isSome = true := by kernel_rfl
theorem flat_210 : flatB Tryz.prog 210 = true := by kernel_rfl
theorem size_210 : sizeIs Tryz.prog 210 1 = true := by kernel_rfl
theorem zero_210 : zeroOf Tryz.prog 210 = some (.nilIface) := by kernel_rfl
theorem some_210 : (Tryz.prog.underlying 210).isSome = true := by kernel_rfl
theorem flat_211 : flatB Tryz.prog 211 = true := by kernel_rfl
theorem size_211 : sizeIs Tryz.prog 211 1 = true := by kernel_rfl
theorem zero_211 : zeroOf Tryz.prog 211 = some (.nilIface) := by kernel_rfl
theorem some_211 : (Tryz.prog.underlying 211).isSome = true := by kernel_rfl
theorem flat_212 : flatB Tryz.prog 212 = true := by kernel_rfl
theorem size_212 : sizeIs Tryz.prog 212 1 = true := by kernel_rfl
theorem zero_212 : zeroOf Tryz.prog 212 = some (.nilIface) := by kernel_rfl
theorem some_212 : (Tryz.prog.underlying 212).isSome = true := by kernel_rfl
theorem flat_213 : flatB Tryz.prog 213 = true := by kernel_rfl
theorem size_213 : sizeIs Tryz.prog 213 1 = true := by kernel_rfl
theorem zero_213 : zeroOf Tryz.prog 213 = some (.nilFunc) := by kernel_rfl
theorem some_213 : (Tryz.prog.underlying 213).isSome = true := by kernel_rfl
theorem zero_214 : zeroOf Tryz.prog 214 = some (.tuple #[.string ⟨#[]⟩, .int .i64 0, .bool false]) := by kernel_rfl
theorem some_214 : (Tryz.prog.underlying 214).isSome = true := by kernel_rfl
theorem flat_215 : flatB Tryz.prog 215 = true := by kernel_rfl
theorem size_215 : sizeIs Tryz.prog 215 1 = true := by kernel_rfl
theorem zero_215 : zeroOf Tryz.prog 215 = some (.nilFunc) := by kernel_rfl
theorem some_215 : (Tryz.prog.underlying 215).isSome = true := by kernel_rfl
theorem zero_216 : zeroOf Tryz.prog 216 = some (.tuple #[.nilIface, .bool false]) := by kernel_rfl
theorem some_216 : (Tryz.prog.underlying 216).isSome = true := by kernel_rfl
theorem agg_217 : aggB Tryz.prog 217 = true := by kernel_rfl
theorem size_217 : sizeIs Tryz.prog 217 1 = true := by kernel_rfl
theorem zero_217 : zeroOf Tryz.prog 217 = some (.agg #[.nilIface]) := by kernel_rfl
theorem plc_217 : placesOf Tryz.prog 217 = some [(0, 1)] := by kernel_rfl
theorem fld_217_0 : fieldOff Tryz.prog 217 0 = some 0 := by kernel_rfl
theorem some_217 : (Tryz.prog.underlying 217).isSome = true := by kernel_rfl
theorem agg_218 : aggB Tryz.prog 218 = true := by kernel_rfl
theorem size_218 : sizeIs Tryz.prog 218 1 = true := by kernel_rfl
theorem zero_218 : zeroOf Tryz.prog 218 = some (.agg #[.nilIface]) := by kernel_rfl
theorem plc_218 : placesOf Tryz.prog 218 = some [(0, 1)] := by kernel_rfl
theorem fld_218_0 : fieldOff Tryz.prog 218 0 = some 0 := by kernel_rfl
theorem some_218 : (Tryz.prog.underlying 218).isSome = true := by kernel_rfl
theorem flat_219 : flatB Tryz.prog 219 = true := by kernel_rfl
theorem size_219 : sizeIs Tryz.prog 219 1 = true := by kernel_rfl
theorem zero_219 : zeroOf Tryz.prog 219 = some (.nilFunc) := by kernel_rfl
theorem some_219 : (Tryz.prog.underlying 219).isSome = true := by kernel_rfl
theorem flat_220 : flatB Tryz.prog 220 = true := by kernel_rfl
theorem size_220 : sizeIs Tryz.prog 220 1 = true := by kernel_rfl
theorem zero_220 : zeroOf Tryz.prog 220 = some (.nilFunc) := by kernel_rfl
theorem some_220 : (Tryz.prog.underlying 220).isSome = true := by kernel_rfl
theorem zero_221 : zeroOf Tryz.prog 221 = some (.tuple #[.int .u32 0, .int .u32 0]) := by kernel_rfl
theorem some_221 : (Tryz.prog.underlying 221).isSome = true := by kernel_rfl
theorem flat_222 : flatB Tryz.prog 222 = true := by kernel_rfl
theorem size_222 : sizeIs Tryz.prog 222 1 = true := by kernel_rfl
theorem zero_222 : zeroOf Tryz.prog 222 = some (.nilFunc) := by kernel_rfl
theorem some_222 : (Tryz.prog.underlying 222).isSome = true := by kernel_rfl
theorem body_3 : hasBody Tryz.prog 3 = true := by kernel_rfl
theorem body_4 : hasBody Tryz.prog 4 = true := by kernel_rfl
theorem body_5 : hasBody Tryz.prog 5 = true := by kernel_rfl
theorem body_6 : hasBody Tryz.prog 6 = true := by kernel_rfl
theorem body_7 : hasBody Tryz.prog 7 = true := by kernel_rfl
theorem body_8 : hasBody Tryz.prog 8 = true := by kernel_rfl
theorem body_9 : hasBody Tryz.prog 9 = true := by kernel_rfl
theorem body_10 : hasBody Tryz.prog 10 = true := by kernel_rfl
theorem body_11 : hasBody Tryz.prog 11 = true := by kernel_rfl
theorem body_12 : hasBody Tryz.prog 12 = true := by kernel_rfl
theorem body_13 : hasBody Tryz.prog 13 = true := by kernel_rfl
theorem body_14 : hasBody Tryz.prog 14 = true := by kernel_rfl
theorem body_15 : hasBody Tryz.prog 15 = true := by kernel_rfl
theorem body_16 : hasBody Tryz.prog 16 = true := by kernel_rfl
theorem body_17 : hasBody Tryz.prog 17 = true := by kernel_rfl
theorem body_18 : hasBody Tryz.prog 18 = true := by kernel_rfl
theorem body_19 : hasBody Tryz.prog 19 = true := by kernel_rfl
theorem body_20 : hasBody Tryz.prog 20 = true := by kernel_rfl
theorem body_21 : hasBody Tryz.prog 21 = true := by kernel_rfl
theorem body_22 : hasBody Tryz.prog 22 = true := by kernel_rfl
theorem body_23 : hasBody Tryz.prog 23 = true := by kernel_rfl
theorem body_24 : hasBody Tryz.prog 24 = true := by kernel_rfl
theorem body_25 : hasBody Tryz.prog 25 = true := by kernel_rfl
theorem body_26 : hasBody Tryz.prog 26 = true := by kernel_rfl
theorem body_27 : hasBody Tryz.prog 27 = true := by kernel_rfl
theorem body_28 : hasBody Tryz.prog 28 = true := by kernel_rfl
theorem body_29 : hasBody Tryz.prog 29 = true := by kernel_rfl
theorem body_30 : hasBody Tryz.prog 30 = true := by kernel_rfl
theorem body_31 : hasBody Tryz.prog 31 = true := by kernel_rfl
theorem body_32 : hasBody Tryz.prog 32 = true := by kernel_rfl
theorem body_33 : hasBody Tryz.prog 33 = true := by kernel_rfl
theorem body_34 : hasBody Tryz.prog 34 = true := by kernel_rfl
theorem body_35 : hasBody Tryz.prog 35 = true := by kernel_rfl
theorem body_36 : hasBody Tryz.prog 36 = true := by kernel_rfl
theorem body_37 : hasBody Tryz.prog 37 = true := by kernel_rfl
theorem body_38 : hasBody Tryz.prog 38 = true := by kernel_rfl
theorem body_39 : hasBody Tryz.prog 39 = true := by kernel_rfl
theorem body_40 : hasBody Tryz.prog 40 = true := by kernel_rfl
theorem body_41 : hasBody Tryz.prog 41 = true := by kernel_rfl
theorem body_42 : hasBody Tryz.prog 42 = true := by kernel_rfl
theorem body_43 : hasBody Tryz.prog 43 = true := by kernel_rfl
theorem body_44 : hasBody Tryz.prog 44 = true := by kernel_rfl
theorem body_45 : hasBody Tryz.prog 45 = true := by kernel_rfl
theorem body_46 : hasBody Tryz.prog 46 = true := by kernel_rfl
theorem body_47 : hasBody Tryz.prog 47 = true := by kernel_rfl
theorem body_48 : hasBody Tryz.prog 48 = true := by kernel_rfl
theorem body_49 : hasBody Tryz.prog 49 = true := by kernel_rfl
theorem body_50 : hasBody Tryz.prog 50 = true := by kernel_rfl
theorem body_51 : hasBody Tryz.prog 51 = true := by kernel_rfl
theorem body_52 : hasBody Tryz.prog 52 = true := by kernel_rfl
theorem body_53 : hasBody Tryz.prog 53 = true := by kernel_rfl
theorem body_54 : hasBody Tryz.prog 54 = true := by kernel_rfl
theorem body_55 : hasBody Tryz.prog 55 = true := by kernel_rfl
theorem body_56 : hasBody Tryz.prog 56 = true := by kernel_rfl
theorem body_57 : hasBody Tryz.prog 57 = true := by kernel_rfl
theorem body_58 : hasBody Tryz.prog 58 = true := by kernel_rfl
theorem body_59 : hasBody Tryz.prog 59 = true := by kernel_rfl
theorem body_60 : hasBody Tryz.prog 60 = true := by kernel_rfl
theorem body_61 : hasBody Tryz.prog 61 = true := by kernel_rfl
theorem body_63 : hasBody Tryz.prog 63 = true := by kernel_rfl
theorem body_64 : hasBody Tryz.prog 64 = true := by kernel_rfl
theorem body_65 : hasBody Tryz.prog 65 = true := by kernel_rfl
theorem body_66 : hasBody Tryz.prog 66 = true := by kernel_rfl
theorem body_67 : hasBody Tryz.prog 67 = true := by kernel_rfl
theorem body_68 : hasBody Tryz.prog 68 = true := by kernel_rfl
theorem body_69 : hasBody Tryz.prog 69 = true := by kernel_rfl
theorem body_70 : hasBody Tryz.prog 70 = true := by kernel_rfl
theorem body_71 : hasBody Tryz.prog 71 = true := by kernel_rfl
theorem body_74 : hasBody Tryz.prog 74 = true := by kernel_rfl
theorem body_75 : hasBody Tryz.prog 75 = true := by kernel_rfl
theorem body_76 : hasBody Tryz.prog 76 = true := by kernel_rfl
theorem body_77 : hasBody Tryz.prog 77 = true := by kernel_rfl
theorem body_78 : hasBody Tryz.prog 78 = true := by kernel_rfl
theorem body_79 : hasBody Tryz.prog 79 = true := by kernel_rfl
theorem body_80 : hasBody Tryz.prog 80 = true := by kernel_rfl
theorem body_81 : hasBody Tryz.prog 81 = true := by kernel_rfl
theorem body_82 : hasBody Tryz.prog 82 = true := by kernel_rfl
theorem body_83 : hasBody Tryz.prog 83 = true := by kernel_rfl
theorem body_84 : hasBody Tryz.prog 84 = true := by kernel_rfl
theorem body_85 : hasBody Tryz.prog 85 = true := by kernel_rfl
theorem body_86 : hasBody Tryz.prog 86 = true := by kernel_rfl
theorem body_87 : hasBody Tryz.prog 87 = true := by kernel_rfl
theorem body_88 : hasBody Tryz.prog 88 = true := by kernel_rfl
theorem body_89 : hasBody Tryz.prog 89 = true := by kernel_rfl
theorem body_90 : hasBody Tryz.prog 90 = true := by kernel_rfl
theorem body_91 : hasBody Tryz.prog 91 = true := by kernel_rfl
theorem body_92 : hasBody Tryz.prog 92 = true := by kernel_rfl
theorem body_93 : hasBody Tryz.prog 93 = true := by kernel_rfl
theorem body_98 : hasBody Tryz.prog 98 = true := by kernel_rfl
theorem body_99 : hasBody Tryz.prog 99 = true := by kernel_rfl
theorem body_100 : hasBody Tryz.prog 100 = true := by kernel_rfl
theorem body_102 : hasBody Tryz.prog 102 = true := by kernel_rfl
theorem body_103 : hasBody Tryz.prog 103 = true := by kernel_rfl
theorem body_104 : hasBody Tryz.prog 104 = true := by kernel_rfl
theorem body_105 : hasBody Tryz.prog 105 = true := by kernel_rfl
theorem body_106 : hasBody Tryz.prog 106 = true := by kernel_rfl
theorem body_110 : hasBody Tryz.prog 110 = true := by kernel_rfl
theorem body_113 : hasBody Tryz.prog 113 = true := by kernel_rfl
theorem body_114 : hasBody Tryz.prog 114 = true := by kernel_rfl
theorem body_115 : hasBody Tryz.prog 115 = true := by kernel_rfl
theorem body_116 : hasBody Tryz.prog 116 = true := by kernel_rfl
theorem body_120 : hasBody Tryz.prog 120 = true := by kernel_rfl
theorem body_121 : hasBody Tryz.prog 121 = true := by kernel_rfl
theorem body_122 : hasBody Tryz.prog 122 = true := by kernel_rfl
theorem body_123 : hasBody Tryz.prog 123 = true := by kernel_rfl
theorem body_124 : hasBody Tryz.prog 124 = true := by kernel_rfl
theorem body_125 : hasBody Tryz.prog 125 = true := by kernel_rfl
theorem body_126 : hasBody Tryz.prog 126 = true := by kernel_rfl
theorem body_127 : hasBody Tryz.prog 127 = true := by kernel_rfl
theorem body_136 : hasBody Tryz.prog 136 = true := by kernel_rfl
theorem body_137 : hasBody Tryz.prog 137 = true := by kernel_rfl
theorem body_138 : hasBody Tryz.prog 138 = true := by kernel_rfl
theorem body_139 : hasBody Tryz.prog 139 = true := by kernel_rfl
theorem body_140 : hasBody Tryz.prog 140 = true := by kernel_rfl
theorem body_141 : hasBody Tryz.prog 141 = true := by kernel_rfl
theorem body_150 : hasBody Tryz.prog 150 = true := by kernel_rfl
theorem body_151 : hasBody Tryz.prog 151 = true := by kernel_rfl
theorem body_168 : hasBody Tryz.prog 168 = true := by kernel_rfl
theorem body_169 : hasBody Tryz.prog 169 = true := by kernel_rfl
theorem body_170 : hasBody Tryz.prog 170 = true := by kernel_rfl
theorem body_171 : hasBody Tryz.prog 171 = true := by kernel_rfl
theorem body_172 : hasBody Tryz.prog 172 = true := by kernel_rfl
theorem body_173 : hasBody Tryz.prog 173 = true := by kernel_rfl
theorem body_174 : hasBody Tryz.prog 174 = true := by kernel_rfl
theorem body_175 : hasBody Tryz.prog 175 = true := by kernel_rfl
theorem body_176 : hasBody Tryz.prog 176 = true := by kernel_rfl
theorem body_177 : hasBody Tryz.prog 177 = true := by kernel_rfl
theorem body_178 : hasBody Tryz.prog 178 = true := by kernel_rfl
theorem body_179 : hasBody Tryz.prog 179 = true := by kernel_rfl
theorem body_180 : hasBody Tryz.prog 180 = true := by kernel_rfl
theorem body_182 : hasBody Tryz.prog 182 = true := by kernel_rfl
theorem body_191 : hasBody Tryz.prog 191 = true := by kernel_rfl
theorem body_192 : hasBody Tryz.prog 192 = true := by kernel_rfl
theorem body_193 : hasBody Tryz.prog 193 = true := by kernel_rfl
theorem body_194 : hasBody Tryz.prog 194 = true := by kernel_rfl
theorem body_195 : hasBody Tryz.prog 195 = true := by kernel_rfl
theorem mixed : Tryz.prog.follows .mixedOrders = true := by kernel_rfl
end Go.Proofs.YtomkdhkkggbioaaGreatDoor
