/-
  Closed facts on the types and functions of this seat, by a program of this work (tab.py).
-/
import Derived.Test.YtejlmcdmoghmaaaFg
import Derived.Test.YtejlmcdmoghmaaaChecked
import Derived.KernelRfl
namespace Go.Proofs.Ytejlmcdmoghmaaa

theorem zero_0 : zeroOf Try.prog 0 = some (.tuple #[]) := by kernel_rfl
theorem some_0 : (Try.prog.underlying 0).isSome = true := by kernel_rfl
theorem flat_1 : flatB Try.prog 1 = true := by kernel_rfl
theorem size_1 : sizeIs Try.prog 1 1 = true := by kernel_rfl
theorem zero_1 : zeroOf Try.prog 1 = some (.nilFunc) := by kernel_rfl
theorem some_1 : (Try.prog.underlying 1).isSome = true := by kernel_rfl
theorem flat_2 : flatB Try.prog 2 = true := by kernel_rfl
theorem size_2 : sizeIs Try.prog 2 1 = true := by kernel_rfl
theorem zero_2 : zeroOf Try.prog 2 = some (.int .i64 0) := by kernel_rfl
theorem int_2 : Try.prog.underlying 2 = some (.int .i64) := by kernel_rfl
theorem some_2 : (Try.prog.underlying 2).isSome = true := by kernel_rfl
theorem flat_3 : flatB Try.prog 3 = true := by kernel_rfl
theorem size_3 : sizeIs Try.prog 3 1 = true := by kernel_rfl
theorem zero_3 : zeroOf Try.prog 3 = some (.int .i64 0) := by kernel_rfl
theorem int_3 : Try.prog.underlying 3 = some (.int .i64) := by kernel_rfl
theorem some_3 : (Try.prog.underlying 3).isSome = true := by kernel_rfl
theorem flat_4 : flatB Try.prog 4 = true := by kernel_rfl
theorem size_4 : sizeIs Try.prog 4 1 = true := by kernel_rfl
theorem zero_4 : zeroOf Try.prog 4 = some (.bool false) := by kernel_rfl
theorem bool_4 : Try.prog.underlying 4 = some .bool := by kernel_rfl
theorem some_4 : (Try.prog.underlying 4).isSome = true := by kernel_rfl
theorem flat_5 : flatB Try.prog 5 = true := by kernel_rfl
theorem size_5 : sizeIs Try.prog 5 1 = true := by kernel_rfl
theorem zero_5 : zeroOf Try.prog 5 = some (.int .u8 0) := by kernel_rfl
theorem int_5 : Try.prog.underlying 5 = some (.int .u8) := by kernel_rfl
theorem some_5 : (Try.prog.underlying 5).isSome = true := by kernel_rfl
theorem flat_9 : flatB Try.prog 9 = true := by kernel_rfl
theorem size_9 : sizeIs Try.prog 9 1 = true := by kernel_rfl
theorem zero_9 : zeroOf Try.prog 9 = some (.string ⟨#[]⟩) := by kernel_rfl
theorem str_9 : Try.prog.underlying 9 = some .string := by kernel_rfl
theorem some_9 : (Try.prog.underlying 9).isSome = true := by kernel_rfl
theorem flat_12 : flatB Try.prog 12 = true := by kernel_rfl
theorem size_12 : sizeIs Try.prog 12 1 = true := by kernel_rfl
theorem zero_12 : zeroOf Try.prog 12 = some (.int .u64 0) := by kernel_rfl
theorem int_12 : Try.prog.underlying 12 = some (.int .u64) := by kernel_rfl
theorem some_12 : (Try.prog.underlying 12).isSome = true := by kernel_rfl
theorem agg_13 : aggB Try.prog 13 = true := by kernel_rfl
theorem size_13 : sizeIs Try.prog 13 2 = true := by kernel_rfl
theorem zero_13 : zeroOf Try.prog 13 = some (.agg #[.string ⟨#[]⟩, .int .u64 0]) := by kernel_rfl
theorem plc_13 : placesOf Try.prog 13 = some [(0, 1), (1, 1)] := by kernel_rfl
theorem fld_13_0 : fieldOff Try.prog 13 0 = some 0 := by kernel_rfl
theorem fld_13_1 : fieldOff Try.prog 13 1 = some 1 := by kernel_rfl
theorem some_13 : (Try.prog.underlying 13).isSome = true := by kernel_rfl
theorem flat_20 : flatB Try.prog 20 = true := by kernel_rfl
theorem size_20 : sizeIs Try.prog 20 1 = true := by kernel_rfl
theorem zero_20 : zeroOf Try.prog 20 = some (.nilIface) := by kernel_rfl
theorem some_20 : (Try.prog.underlying 20).isSome = true := by kernel_rfl
theorem flat_21 : flatB Try.prog 21 = true := by kernel_rfl
theorem size_21 : sizeIs Try.prog 21 1 = true := by kernel_rfl
theorem zero_21 : zeroOf Try.prog 21 = some (.int .i32 0) := by kernel_rfl
theorem int_21 : Try.prog.underlying 21 = some (.int .i32) := by kernel_rfl
theorem some_21 : (Try.prog.underlying 21).isSome = true := by kernel_rfl
theorem flat_22 : flatB Try.prog 22 = true := by kernel_rfl
theorem size_22 : sizeIs Try.prog 22 1 = true := by kernel_rfl
theorem zero_22 : zeroOf Try.prog 22 = some (.slice none 0 0) := by kernel_rfl
theorem elem_22 : sliceElem Try.prog 22 = some 5 := by kernel_rfl
theorem row_22 : RowT Try.prog 22 5 1 1 (.int .u8 0) := ⟨by kernel_rfl, by kernel_rfl, rfl, by decide⟩
theorem some_22 : (Try.prog.underlying 22).isSome = true := by kernel_rfl
theorem flat_23 : flatB Try.prog 23 = true := by kernel_rfl
theorem size_23 : sizeIs Try.prog 23 1 = true := by kernel_rfl
theorem zero_23 : zeroOf Try.prog 23 = some (.slice none 0 0) := by kernel_rfl
theorem elem_23 : sliceElem Try.prog 23 = some 3 := by kernel_rfl
theorem row_23 : RowT Try.prog 23 3 1 8 (.int .i64 0) := ⟨by kernel_rfl, by kernel_rfl, rfl, by decide⟩
theorem some_23 : (Try.prog.underlying 23).isSome = true := by kernel_rfl
theorem flat_24 : flatB Try.prog 24 = true := by kernel_rfl
theorem size_24 : sizeIs Try.prog 24 1 = true := by kernel_rfl
theorem zero_24 : zeroOf Try.prog 24 = some (.nilFunc) := by kernel_rfl
theorem some_24 : (Try.prog.underlying 24).isSome = true := by kernel_rfl
theorem flat_25 : flatB Try.prog 25 = true := by kernel_rfl
theorem size_25 : sizeIs Try.prog 25 1 = true := by kernel_rfl
theorem zero_25 : zeroOf Try.prog 25 = some (.pointer none) := by kernel_rfl
theorem ptr_25 : Try.prog.underlying 25 = some (.pointer (Try.prog.pointee 25)) := by kernel_rfl
theorem some_25 : (Try.prog.underlying 25).isSome = true := by kernel_rfl
theorem flat_26 : flatB Try.prog 26 = true := by kernel_rfl
theorem size_26 : sizeIs Try.prog 26 1 = true := by kernel_rfl
theorem zero_26 : zeroOf Try.prog 26 = some (.int .i64 0) := by kernel_rfl
theorem int_26 : Try.prog.underlying 26 = some (.int .i64) := by kernel_rfl
theorem some_26 : (Try.prog.underlying 26).isSome = true := by kernel_rfl
theorem zero_27 : zeroOf Try.prog 27 = some (.tuple #[.pointer none, .int .i64 0]) := by kernel_rfl
theorem some_27 : (Try.prog.underlying 27).isSome = true := by kernel_rfl
theorem flat_28 : flatB Try.prog 28 = true := by kernel_rfl
theorem size_28 : sizeIs Try.prog 28 1 = true := by kernel_rfl
theorem zero_28 : zeroOf Try.prog 28 = some (.nilFunc) := by kernel_rfl
theorem some_28 : (Try.prog.underlying 28).isSome = true := by kernel_rfl
theorem flat_29 : flatB Try.prog 29 = true := by kernel_rfl
theorem size_29 : sizeIs Try.prog 29 1 = true := by kernel_rfl
theorem zero_29 : zeroOf Try.prog 29 = some (.nilFunc) := by kernel_rfl
theorem some_29 : (Try.prog.underlying 29).isSome = true := by kernel_rfl
theorem flat_30 : flatB Try.prog 30 = true := by kernel_rfl
theorem size_30 : sizeIs Try.prog 30 1 = true := by kernel_rfl
theorem zero_30 : zeroOf Try.prog 30 = some (.nilFunc) := by kernel_rfl
theorem some_30 : (Try.prog.underlying 30).isSome = true := by kernel_rfl
theorem flat_31 : flatB Try.prog 31 = true := by kernel_rfl
theorem size_31 : sizeIs Try.prog 31 1 = true := by kernel_rfl
theorem zero_31 : zeroOf Try.prog 31 = some (.nilFunc) := by kernel_rfl
theorem some_31 : (Try.prog.underlying 31).isSome = true := by kernel_rfl
theorem zero_32 : zeroOf Try.prog 32 = some (.tuple #[.slice none 0 0, .int .i64 0]) := by kernel_rfl
theorem some_32 : (Try.prog.underlying 32).isSome = true := by kernel_rfl
theorem flat_33 : flatB Try.prog 33 = true := by kernel_rfl
theorem size_33 : sizeIs Try.prog 33 1 = true := by kernel_rfl
theorem zero_33 : zeroOf Try.prog 33 = some (.nilFunc) := by kernel_rfl
theorem some_33 : (Try.prog.underlying 33).isSome = true := by kernel_rfl
theorem flat_34 : flatB Try.prog 34 = true := by kernel_rfl
theorem size_34 : sizeIs Try.prog 34 1 = true := by kernel_rfl
theorem zero_34 : zeroOf Try.prog 34 = some (.nilFunc) := by kernel_rfl
theorem some_34 : (Try.prog.underlying 34).isSome = true := by kernel_rfl
theorem flat_35 : flatB Try.prog 35 = true := by kernel_rfl
theorem size_35 : sizeIs Try.prog 35 1 = true := by kernel_rfl
theorem zero_35 : zeroOf Try.prog 35 = some (.nilFunc) := by kernel_rfl
theorem some_35 : (Try.prog.underlying 35).isSome = true := by kernel_rfl
theorem flat_36 : flatB Try.prog 36 = true := by kernel_rfl
theorem size_36 : sizeIs Try.prog 36 1 = true := by kernel_rfl
theorem zero_36 : zeroOf Try.prog 36 = some (.slice none 0 0) := by kernel_rfl
theorem elem_36 : sliceElem Try.prog 36 = some 38 := by kernel_rfl
theorem row_36 : RowT Try.prog 36 38 5 72 (.agg #[.int .u8 0, .int .i64 0, .slice none 0 0, .int .i64 0, .slice none 0 0]) := ⟨by kernel_rfl, by kernel_rfl, rfl, by decide⟩
theorem some_36 : (Try.prog.underlying 36).isSome = true := by kernel_rfl
theorem agg_37 : aggB Try.prog 37 = true := by kernel_rfl
theorem size_37 : sizeIs Try.prog 37 5 = true := by kernel_rfl
theorem zero_37 : zeroOf Try.prog 37 = some (.agg #[.int .u8 0, .int .i64 0, .slice none 0 0, .int .i64 0, .slice none 0 0]) := by kernel_rfl
theorem plc_37 : placesOf Try.prog 37 = some [(0, 1), (1, 1), (2, 1), (3, 1), (4, 1)] := by kernel_rfl
theorem fld_37_0 : fieldOff Try.prog 37 0 = some 0 := by kernel_rfl
theorem fld_37_1 : fieldOff Try.prog 37 1 = some 1 := by kernel_rfl
theorem fld_37_2 : fieldOff Try.prog 37 2 = some 2 := by kernel_rfl
theorem fld_37_3 : fieldOff Try.prog 37 3 = some 3 := by kernel_rfl
theorem fld_37_4 : fieldOff Try.prog 37 4 = some 4 := by kernel_rfl
theorem some_37 : (Try.prog.underlying 37).isSome = true := by kernel_rfl
theorem agg_38 : aggB Try.prog 38 = true := by kernel_rfl
theorem size_38 : sizeIs Try.prog 38 5 = true := by kernel_rfl
theorem zero_38 : zeroOf Try.prog 38 = some (.agg #[.int .u8 0, .int .i64 0, .slice none 0 0, .int .i64 0, .slice none 0 0]) := by kernel_rfl
theorem plc_38 : placesOf Try.prog 38 = some [(0, 1), (1, 1), (2, 1), (3, 1), (4, 1)] := by kernel_rfl
theorem fld_38_0 : fieldOff Try.prog 38 0 = some 0 := by kernel_rfl
theorem fld_38_1 : fieldOff Try.prog 38 1 = some 1 := by kernel_rfl
theorem fld_38_2 : fieldOff Try.prog 38 2 = some 2 := by kernel_rfl
theorem fld_38_3 : fieldOff Try.prog 38 3 = some 3 := by kernel_rfl
theorem fld_38_4 : fieldOff Try.prog 38 4 = some 4 := by kernel_rfl
theorem some_38 : (Try.prog.underlying 38).isSome = true := by kernel_rfl
theorem flat_39 : flatB Try.prog 39 = true := by kernel_rfl
theorem size_39 : sizeIs Try.prog 39 1 = true := by kernel_rfl
theorem zero_39 : zeroOf Try.prog 39 = some (.nilFunc) := by kernel_rfl
theorem some_39 : (Try.prog.underlying 39).isSome = true := by kernel_rfl
theorem flat_40 : flatB Try.prog 40 = true := by kernel_rfl
theorem size_40 : sizeIs Try.prog 40 1 = true := by kernel_rfl
theorem zero_40 : zeroOf Try.prog 40 = some (.nilFunc) := by kernel_rfl
theorem some_40 : (Try.prog.underlying 40).isSome = true := by kernel_rfl
theorem flat_41 : flatB Try.prog 41 = true := by kernel_rfl
theorem size_41 : sizeIs Try.prog 41 1 = true := by kernel_rfl
theorem zero_41 : zeroOf Try.prog 41 = some (.nilFunc) := by kernel_rfl
theorem some_41 : (Try.prog.underlying 41).isSome = true := by kernel_rfl
theorem flat_42 : flatB Try.prog 42 = true := by kernel_rfl
theorem size_42 : sizeIs Try.prog 42 1 = true := by kernel_rfl
theorem zero_42 : zeroOf Try.prog 42 = some (.nilFunc) := by kernel_rfl
theorem some_42 : (Try.prog.underlying 42).isSome = true := by kernel_rfl
theorem flat_43 : flatB Try.prog 43 = true := by kernel_rfl
theorem size_43 : sizeIs Try.prog 43 1 = true := by kernel_rfl
theorem zero_43 : zeroOf Try.prog 43 = some (.int .u16 0) := by kernel_rfl
theorem int_43 : Try.prog.underlying 43 = some (.int .u16) := by kernel_rfl
theorem some_43 : (Try.prog.underlying 43).isSome = true := by kernel_rfl
theorem flat_44 : flatB Try.prog 44 = true := by kernel_rfl
theorem size_44 : sizeIs Try.prog 44 1 = true := by kernel_rfl
theorem zero_44 : zeroOf Try.prog 44 = some (.pointer none) := by kernel_rfl
theorem ptr_44 : Try.prog.underlying 44 = some (.pointer (Try.prog.pointee 44)) := by kernel_rfl
theorem some_44 : (Try.prog.underlying 44).isSome = true := by kernel_rfl
theorem zero_45 : zeroOf Try.prog 45 = some (.tuple #[.pointer none, .pointer none]) := by kernel_rfl
theorem some_45 : (Try.prog.underlying 45).isSome = true := by kernel_rfl
theorem flat_46 : flatB Try.prog 46 = true := by kernel_rfl
theorem size_46 : sizeIs Try.prog 46 1 = true := by kernel_rfl
theorem zero_46 : zeroOf Try.prog 46 = some (.nilFunc) := by kernel_rfl
theorem some_46 : (Try.prog.underlying 46).isSome = true := by kernel_rfl
theorem flat_47 : flatB Try.prog 47 = true := by kernel_rfl
theorem size_47 : sizeIs Try.prog 47 1 = true := by kernel_rfl
theorem zero_47 : zeroOf Try.prog 47 = some (.nilFunc) := by kernel_rfl
theorem some_47 : (Try.prog.underlying 47).isSome = true := by kernel_rfl
theorem flat_48 : flatB Try.prog 48 = true := by kernel_rfl
theorem size_48 : sizeIs Try.prog 48 1 = true := by kernel_rfl
theorem zero_48 : zeroOf Try.prog 48 = some (.int .u64 0) := by kernel_rfl
theorem int_48 : Try.prog.underlying 48 = some (.int .u64) := by kernel_rfl
theorem some_48 : (Try.prog.underlying 48).isSome = true := by kernel_rfl
theorem agg_49 : aggB Try.prog 49 = true := by kernel_rfl
theorem size_49 : sizeIs Try.prog 49 3 = true := by kernel_rfl
theorem zero_49 : zeroOf Try.prog 49 = some (.agg #[.int .u64 0, .int .u64 0, .slice none 0 0]) := by kernel_rfl
theorem plc_49 : placesOf Try.prog 49 = some [(0, 1), (1, 1), (2, 1)] := by kernel_rfl
theorem fld_49_0 : fieldOff Try.prog 49 0 = some 0 := by kernel_rfl
theorem fld_49_1 : fieldOff Try.prog 49 1 = some 1 := by kernel_rfl
theorem fld_49_2 : fieldOff Try.prog 49 2 = some 2 := by kernel_rfl
theorem some_49 : (Try.prog.underlying 49).isSome = true := by kernel_rfl
theorem agg_50 : aggB Try.prog 50 = true := by kernel_rfl
theorem size_50 : sizeIs Try.prog 50 3 = true := by kernel_rfl
theorem zero_50 : zeroOf Try.prog 50 = some (.agg #[.int .u64 0, .int .u64 0, .slice none 0 0]) := by kernel_rfl
theorem plc_50 : placesOf Try.prog 50 = some [(0, 1), (1, 1), (2, 1)] := by kernel_rfl
theorem fld_50_0 : fieldOff Try.prog 50 0 = some 0 := by kernel_rfl
theorem fld_50_1 : fieldOff Try.prog 50 1 = some 1 := by kernel_rfl
theorem fld_50_2 : fieldOff Try.prog 50 2 = some 2 := by kernel_rfl
theorem some_50 : (Try.prog.underlying 50).isSome = true := by kernel_rfl
theorem flat_51 : flatB Try.prog 51 = true := by kernel_rfl
theorem size_51 : sizeIs Try.prog 51 1 = true := by kernel_rfl
theorem zero_51 : zeroOf Try.prog 51 = some (.nilFunc) := by kernel_rfl
theorem some_51 : (Try.prog.underlying 51).isSome = true := by kernel_rfl
theorem flat_52 : flatB Try.prog 52 = true := by kernel_rfl
theorem size_52 : sizeIs Try.prog 52 1 = true := by kernel_rfl
theorem zero_52 : zeroOf Try.prog 52 = some (.nilFunc) := by kernel_rfl
theorem some_52 : (Try.prog.underlying 52).isSome = true := by kernel_rfl
theorem flat_53 : flatB Try.prog 53 = true := by kernel_rfl
theorem size_53 : sizeIs Try.prog 53 1 = true := by kernel_rfl
theorem zero_53 : zeroOf Try.prog 53 = some (.nilFunc) := by kernel_rfl
theorem some_53 : (Try.prog.underlying 53).isSome = true := by kernel_rfl
theorem flat_54 : flatB Try.prog 54 = true := by kernel_rfl
theorem size_54 : sizeIs Try.prog 54 1 = true := by kernel_rfl
theorem zero_54 : zeroOf Try.prog 54 = some (.slice none 0 0) := by kernel_rfl
theorem elem_54 : sliceElem Try.prog 54 = some 56 := by kernel_rfl
theorem row_54 : RowT Try.prog 54 56 7 80 (.agg #[.int .u8 0, .int .u64 0, .int .u64 0, .slice none 0 0, .int .u8 0, .int .u16 0, .slice none 0 0]) := ⟨by kernel_rfl, by kernel_rfl, rfl, by decide⟩
theorem some_54 : (Try.prog.underlying 54).isSome = true := by kernel_rfl
theorem agg_55 : aggB Try.prog 55 = true := by kernel_rfl
theorem size_55 : sizeIs Try.prog 55 7 = true := by kernel_rfl
theorem zero_55 : zeroOf Try.prog 55 = some (.agg #[.int .u8 0, .int .u64 0, .int .u64 0, .slice none 0 0, .int .u8 0, .int .u16 0, .slice none 0 0]) := by kernel_rfl
theorem plc_55 : placesOf Try.prog 55 = some [(0, 1), (1, 3), (4, 1), (5, 1), (6, 1)] := by kernel_rfl
theorem fld_55_0 : fieldOff Try.prog 55 0 = some 0 := by kernel_rfl
theorem fld_55_1 : fieldOff Try.prog 55 1 = some 1 := by kernel_rfl
theorem fld_55_2 : fieldOff Try.prog 55 2 = some 4 := by kernel_rfl
theorem fld_55_3 : fieldOff Try.prog 55 3 = some 5 := by kernel_rfl
theorem fld_55_4 : fieldOff Try.prog 55 4 = some 6 := by kernel_rfl
theorem some_55 : (Try.prog.underlying 55).isSome = true := by kernel_rfl
theorem agg_56 : aggB Try.prog 56 = true := by kernel_rfl
theorem size_56 : sizeIs Try.prog 56 7 = true := by kernel_rfl
theorem zero_56 : zeroOf Try.prog 56 = some (.agg #[.int .u8 0, .int .u64 0, .int .u64 0, .slice none 0 0, .int .u8 0, .int .u16 0, .slice none 0 0]) := by kernel_rfl
theorem plc_56 : placesOf Try.prog 56 = some [(0, 1), (1, 3), (4, 1), (5, 1), (6, 1)] := by kernel_rfl
theorem fld_56_0 : fieldOff Try.prog 56 0 = some 0 := by kernel_rfl
theorem fld_56_1 : fieldOff Try.prog 56 1 = some 1 := by kernel_rfl
theorem fld_56_2 : fieldOff Try.prog 56 2 = some 4 := by kernel_rfl
theorem fld_56_3 : fieldOff Try.prog 56 3 = some 5 := by kernel_rfl
theorem fld_56_4 : fieldOff Try.prog 56 4 = some 6 := by kernel_rfl
theorem some_56 : (Try.prog.underlying 56).isSome = true := by kernel_rfl
theorem flat_57 : flatB Try.prog 57 = true := by kernel_rfl
theorem size_57 : sizeIs Try.prog 57 1 = true := by kernel_rfl
theorem zero_57 : zeroOf Try.prog 57 = some (.nilFunc) := by kernel_rfl
theorem some_57 : (Try.prog.underlying 57).isSome = true := by kernel_rfl
theorem zero_58 : zeroOf Try.prog 58 = some (.tuple #[.pointer none, .int .i64 0]) := by kernel_rfl
theorem some_58 : (Try.prog.underlying 58).isSome = true := by kernel_rfl
theorem flat_59 : flatB Try.prog 59 = true := by kernel_rfl
theorem size_59 : sizeIs Try.prog 59 1 = true := by kernel_rfl
theorem zero_59 : zeroOf Try.prog 59 = some (.nilFunc) := by kernel_rfl
theorem some_59 : (Try.prog.underlying 59).isSome = true := by kernel_rfl
theorem flat_60 : flatB Try.prog 60 = true := by kernel_rfl
theorem size_60 : sizeIs Try.prog 60 1 = true := by kernel_rfl
theorem zero_60 : zeroOf Try.prog 60 = some (.nilFunc) := by kernel_rfl
theorem some_60 : (Try.prog.underlying 60).isSome = true := by kernel_rfl
theorem flat_61 : flatB Try.prog 61 = true := by kernel_rfl
theorem size_61 : sizeIs Try.prog 61 1 = true := by kernel_rfl
theorem zero_61 : zeroOf Try.prog 61 = some (.pointer none) := by kernel_rfl
theorem ptr_61 : Try.prog.underlying 61 = some (.pointer (Try.prog.pointee 61)) := by kernel_rfl
theorem some_61 : (Try.prog.underlying 61).isSome = true := by kernel_rfl
theorem zero_62 : zeroOf Try.prog 62 = some (.tuple #[.pointer none, .pointer none]) := by kernel_rfl
theorem some_62 : (Try.prog.underlying 62).isSome = true := by kernel_rfl
theorem flat_63 : flatB Try.prog 63 = true := by kernel_rfl
theorem size_63 : sizeIs Try.prog 63 1 = true := by kernel_rfl
theorem zero_63 : zeroOf Try.prog 63 = some (.nilFunc) := by kernel_rfl
theorem some_63 : (Try.prog.underlying 63).isSome = true := by kernel_rfl
theorem flat_64 : flatB Try.prog 64 = true := by kernel_rfl
theorem size_64 : sizeIs Try.prog 64 1 = true := by kernel_rfl
theorem zero_64 : zeroOf Try.prog 64 = some (.slice none 0 0) := by kernel_rfl
theorem elem_64 : sliceElem Try.prog 64 = some 68 := by kernel_rfl
theorem row_64 : RowT Try.prog 64 68 4 48 (.agg #[.int .u64 0, .int .u64 0, .int .u64 0, .slice none 0 0]) := ⟨by kernel_rfl, by kernel_rfl, rfl, by decide⟩
theorem some_64 : (Try.prog.underlying 64).isSome = true := by kernel_rfl
theorem agg_65 : aggB Try.prog 65 = true := by kernel_rfl
theorem size_65 : sizeIs Try.prog 65 4 = true := by kernel_rfl
theorem zero_65 : zeroOf Try.prog 65 = some (.agg #[.int .u64 0, .int .i64 0, .int .u64 0, .slice none 0 0]) := by kernel_rfl
theorem plc_65 : placesOf Try.prog 65 = some [(0, 1), (1, 1), (2, 1), (3, 1)] := by kernel_rfl
theorem fld_65_0 : fieldOff Try.prog 65 0 = some 0 := by kernel_rfl
theorem fld_65_1 : fieldOff Try.prog 65 1 = some 1 := by kernel_rfl
theorem fld_65_2 : fieldOff Try.prog 65 2 = some 2 := by kernel_rfl
theorem fld_65_3 : fieldOff Try.prog 65 3 = some 3 := by kernel_rfl
theorem some_65 : (Try.prog.underlying 65).isSome = true := by kernel_rfl
theorem agg_66 : aggB Try.prog 66 = true := by kernel_rfl
theorem size_66 : sizeIs Try.prog 66 4 = true := by kernel_rfl
theorem zero_66 : zeroOf Try.prog 66 = some (.agg #[.int .u64 0, .int .i64 0, .int .u64 0, .slice none 0 0]) := by kernel_rfl
theorem plc_66 : placesOf Try.prog 66 = some [(0, 1), (1, 1), (2, 1), (3, 1)] := by kernel_rfl
theorem fld_66_0 : fieldOff Try.prog 66 0 = some 0 := by kernel_rfl
theorem fld_66_1 : fieldOff Try.prog 66 1 = some 1 := by kernel_rfl
theorem fld_66_2 : fieldOff Try.prog 66 2 = some 2 := by kernel_rfl
theorem fld_66_3 : fieldOff Try.prog 66 3 = some 3 := by kernel_rfl
theorem some_66 : (Try.prog.underlying 66).isSome = true := by kernel_rfl
theorem agg_67 : aggB Try.prog 67 = true := by kernel_rfl
theorem size_67 : sizeIs Try.prog 67 4 = true := by kernel_rfl
theorem zero_67 : zeroOf Try.prog 67 = some (.agg #[.int .u64 0, .int .u64 0, .int .u64 0, .slice none 0 0]) := by kernel_rfl
theorem plc_67 : placesOf Try.prog 67 = some [(0, 1), (1, 1), (2, 1), (3, 1)] := by kernel_rfl
theorem fld_67_0 : fieldOff Try.prog 67 0 = some 0 := by kernel_rfl
theorem fld_67_1 : fieldOff Try.prog 67 1 = some 1 := by kernel_rfl
theorem fld_67_2 : fieldOff Try.prog 67 2 = some 2 := by kernel_rfl
theorem fld_67_3 : fieldOff Try.prog 67 3 = some 3 := by kernel_rfl
theorem some_67 : (Try.prog.underlying 67).isSome = true := by kernel_rfl
theorem agg_68 : aggB Try.prog 68 = true := by kernel_rfl
theorem size_68 : sizeIs Try.prog 68 4 = true := by kernel_rfl
theorem zero_68 : zeroOf Try.prog 68 = some (.agg #[.int .u64 0, .int .u64 0, .int .u64 0, .slice none 0 0]) := by kernel_rfl
theorem plc_68 : placesOf Try.prog 68 = some [(0, 1), (1, 1), (2, 1), (3, 1)] := by kernel_rfl
theorem fld_68_0 : fieldOff Try.prog 68 0 = some 0 := by kernel_rfl
theorem fld_68_1 : fieldOff Try.prog 68 1 = some 1 := by kernel_rfl
theorem fld_68_2 : fieldOff Try.prog 68 2 = some 2 := by kernel_rfl
theorem fld_68_3 : fieldOff Try.prog 68 3 = some 3 := by kernel_rfl
theorem some_68 : (Try.prog.underlying 68).isSome = true := by kernel_rfl
theorem flat_69 : flatB Try.prog 69 = true := by kernel_rfl
theorem size_69 : sizeIs Try.prog 69 1 = true := by kernel_rfl
theorem zero_69 : zeroOf Try.prog 69 = some (.nilFunc) := by kernel_rfl
theorem some_69 : (Try.prog.underlying 69).isSome = true := by kernel_rfl
theorem agg_70 : aggB Try.prog 70 = true := by kernel_rfl
theorem size_70 : sizeIs Try.prog 70 4 = true := by kernel_rfl
theorem zero_70 : zeroOf Try.prog 70 = some (.agg #[.int .u64 0, .int .i64 0, .int .u64 0, .slice none 0 0]) := by kernel_rfl
theorem plc_70 : placesOf Try.prog 70 = some [(0, 1), (1, 1), (2, 1), (3, 1)] := by kernel_rfl
theorem fld_70_0 : fieldOff Try.prog 70 0 = some 0 := by kernel_rfl
theorem fld_70_1 : fieldOff Try.prog 70 1 = some 1 := by kernel_rfl
theorem fld_70_2 : fieldOff Try.prog 70 2 = some 2 := by kernel_rfl
theorem fld_70_3 : fieldOff Try.prog 70 3 = some 3 := by kernel_rfl
theorem some_70 : (Try.prog.underlying 70).isSome = true := by kernel_rfl
theorem flat_71 : flatB Try.prog 71 = true := by kernel_rfl
theorem size_71 : sizeIs Try.prog 71 1 = true := by kernel_rfl
theorem zero_71 : zeroOf Try.prog 71 = some (.nilFunc) := by kernel_rfl
theorem some_71 : (Try.prog.underlying 71).isSome = true := by kernel_rfl
theorem flat_72 : flatB Try.prog 72 = true := by kernel_rfl
theorem size_72 : sizeIs Try.prog 72 1 = true := by kernel_rfl
theorem zero_72 : zeroOf Try.prog 72 = some (.nilFunc) := by kernel_rfl
theorem some_72 : (Try.prog.underlying 72).isSome = true := by kernel_rfl
theorem flat_73 : flatB Try.prog 73 = true := by kernel_rfl
theorem size_73 : sizeIs Try.prog 73 1 = true := by kernel_rfl
theorem zero_73 : zeroOf Try.prog 73 = some (.nilFunc) := by kernel_rfl
theorem some_73 : (Try.prog.underlying 73).isSome = true := by kernel_rfl
theorem flat_74 : flatB Try.prog 74 = true := by kernel_rfl
theorem size_74 : sizeIs Try.prog 74 1 = true := by kernel_rfl
theorem zero_74 : zeroOf Try.prog 74 = some (.nilFunc) := by kernel_rfl
theorem some_74 : (Try.prog.underlying 74).isSome = true := by kernel_rfl
theorem flat_75 : flatB Try.prog 75 = true := by kernel_rfl
theorem size_75 : sizeIs Try.prog 75 1 = true := by kernel_rfl
theorem zero_75 : zeroOf Try.prog 75 = some (.slice none 0 0) := by kernel_rfl
theorem elem_75 : sliceElem Try.prog 75 = some 77 := by kernel_rfl
theorem row_75 : RowT Try.prog 75 77 8 96 (.agg #[.int .u8 0, .int .u64 0, .int .i64 0, .int .u8 0, .int .u64 0, .slice none 0 0, .bool false, .slice none 0 0]) := ⟨by kernel_rfl, by kernel_rfl, rfl, by decide⟩
theorem some_75 : (Try.prog.underlying 75).isSome = true := by kernel_rfl
theorem agg_76 : aggB Try.prog 76 = true := by kernel_rfl
theorem size_76 : sizeIs Try.prog 76 8 = true := by kernel_rfl
theorem zero_76 : zeroOf Try.prog 76 = some (.agg #[.int .u8 0, .int .u64 0, .int .i64 0, .int .u8 0, .int .u64 0, .slice none 0 0, .bool false, .slice none 0 0]) := by kernel_rfl
theorem plc_76 : placesOf Try.prog 76 = some [(0, 1), (1, 1), (2, 1), (3, 1), (4, 1), (5, 1), (6, 1), (7, 1)] := by kernel_rfl
theorem fld_76_0 : fieldOff Try.prog 76 0 = some 0 := by kernel_rfl
theorem fld_76_1 : fieldOff Try.prog 76 1 = some 1 := by kernel_rfl
theorem fld_76_2 : fieldOff Try.prog 76 2 = some 2 := by kernel_rfl
theorem fld_76_3 : fieldOff Try.prog 76 3 = some 3 := by kernel_rfl
theorem fld_76_4 : fieldOff Try.prog 76 4 = some 4 := by kernel_rfl
theorem fld_76_5 : fieldOff Try.prog 76 5 = some 5 := by kernel_rfl
theorem fld_76_6 : fieldOff Try.prog 76 6 = some 6 := by kernel_rfl
theorem fld_76_7 : fieldOff Try.prog 76 7 = some 7 := by kernel_rfl
theorem some_76 : (Try.prog.underlying 76).isSome = true := by kernel_rfl
theorem agg_77 : aggB Try.prog 77 = true := by kernel_rfl
theorem size_77 : sizeIs Try.prog 77 8 = true := by kernel_rfl
theorem zero_77 : zeroOf Try.prog 77 = some (.agg #[.int .u8 0, .int .u64 0, .int .i64 0, .int .u8 0, .int .u64 0, .slice none 0 0, .bool false, .slice none 0 0]) := by kernel_rfl
theorem plc_77 : placesOf Try.prog 77 = some [(0, 1), (1, 1), (2, 1), (3, 1), (4, 1), (5, 1), (6, 1), (7, 1)] := by kernel_rfl
theorem fld_77_0 : fieldOff Try.prog 77 0 = some 0 := by kernel_rfl
theorem fld_77_1 : fieldOff Try.prog 77 1 = some 1 := by kernel_rfl
theorem fld_77_2 : fieldOff Try.prog 77 2 = some 2 := by kernel_rfl
theorem fld_77_3 : fieldOff Try.prog 77 3 = some 3 := by kernel_rfl
theorem fld_77_4 : fieldOff Try.prog 77 4 = some 4 := by kernel_rfl
theorem fld_77_5 : fieldOff Try.prog 77 5 = some 5 := by kernel_rfl
theorem fld_77_6 : fieldOff Try.prog 77 6 = some 6 := by kernel_rfl
theorem fld_77_7 : fieldOff Try.prog 77 7 = some 7 := by kernel_rfl
theorem some_77 : (Try.prog.underlying 77).isSome = true := by kernel_rfl
theorem zero_78 : zeroOf Try.prog 78 = some (.tuple #[.pointer none, .int .i64 0]) := by kernel_rfl
theorem some_78 : (Try.prog.underlying 78).isSome = true := by kernel_rfl
theorem flat_79 : flatB Try.prog 79 = true := by kernel_rfl
theorem size_79 : sizeIs Try.prog 79 1 = true := by kernel_rfl
theorem zero_79 : zeroOf Try.prog 79 = some (.nilFunc) := by kernel_rfl
theorem some_79 : (Try.prog.underlying 79).isSome = true := by kernel_rfl
theorem flat_80 : flatB Try.prog 80 = true := by kernel_rfl
theorem size_80 : sizeIs Try.prog 80 1 = true := by kernel_rfl
theorem zero_80 : zeroOf Try.prog 80 = some (.nilFunc) := by kernel_rfl
theorem some_80 : (Try.prog.underlying 80).isSome = true := by kernel_rfl
theorem flat_81 : flatB Try.prog 81 = true := by kernel_rfl
theorem size_81 : sizeIs Try.prog 81 1 = true := by kernel_rfl
theorem zero_81 : zeroOf Try.prog 81 = some (.slice none 0 0) := by kernel_rfl
theorem elem_81 : sliceElem Try.prog 81 = some 86 := by kernel_rfl
theorem row_81 : RowT Try.prog 81 86 3 56 (.agg #[.slice none 0 0, .slice none 0 0, .bool false]) := ⟨by kernel_rfl, by kernel_rfl, rfl, by decide⟩
theorem some_81 : (Try.prog.underlying 81).isSome = true := by kernel_rfl
theorem agg_82 : aggB Try.prog 82 = true := by kernel_rfl
theorem size_82 : sizeIs Try.prog 82 5 = true := by kernel_rfl
theorem zero_82 : zeroOf Try.prog 82 = some (.agg #[.slice none 0 0, .int .i64 0, .int .i64 0, .int .i64 0, .bool false]) := by kernel_rfl
theorem plc_82 : placesOf Try.prog 82 = some [(0, 1), (1, 1), (2, 1), (3, 1), (4, 1)] := by kernel_rfl
theorem fld_82_0 : fieldOff Try.prog 82 0 = some 0 := by kernel_rfl
theorem fld_82_1 : fieldOff Try.prog 82 1 = some 1 := by kernel_rfl
theorem fld_82_2 : fieldOff Try.prog 82 2 = some 2 := by kernel_rfl
theorem fld_82_3 : fieldOff Try.prog 82 3 = some 3 := by kernel_rfl
theorem fld_82_4 : fieldOff Try.prog 82 4 = some 4 := by kernel_rfl
theorem some_82 : (Try.prog.underlying 82).isSome = true := by kernel_rfl
theorem agg_83 : aggB Try.prog 83 = true := by kernel_rfl
theorem size_83 : sizeIs Try.prog 83 5 = true := by kernel_rfl
theorem zero_83 : zeroOf Try.prog 83 = some (.agg #[.slice none 0 0, .int .i64 0, .int .i64 0, .int .i64 0, .bool false]) := by kernel_rfl
theorem plc_83 : placesOf Try.prog 83 = some [(0, 1), (1, 1), (2, 1), (3, 1), (4, 1)] := by kernel_rfl
theorem fld_83_0 : fieldOff Try.prog 83 0 = some 0 := by kernel_rfl
theorem fld_83_1 : fieldOff Try.prog 83 1 = some 1 := by kernel_rfl
theorem fld_83_2 : fieldOff Try.prog 83 2 = some 2 := by kernel_rfl
theorem fld_83_3 : fieldOff Try.prog 83 3 = some 3 := by kernel_rfl
theorem fld_83_4 : fieldOff Try.prog 83 4 = some 4 := by kernel_rfl
theorem some_83 : (Try.prog.underlying 83).isSome = true := by kernel_rfl
theorem flat_84 : flatB Try.prog 84 = true := by kernel_rfl
theorem size_84 : sizeIs Try.prog 84 1 = true := by kernel_rfl
theorem zero_84 : zeroOf Try.prog 84 = some (.pointer none) := by kernel_rfl
theorem ptr_84 : Try.prog.underlying 84 = some (.pointer (Try.prog.pointee 84)) := by kernel_rfl
theorem some_84 : (Try.prog.underlying 84).isSome = true := by kernel_rfl
theorem agg_85 : aggB Try.prog 85 = true := by kernel_rfl
theorem size_85 : sizeIs Try.prog 85 3 = true := by kernel_rfl
theorem zero_85 : zeroOf Try.prog 85 = some (.agg #[.slice none 0 0, .slice none 0 0, .bool false]) := by kernel_rfl
theorem plc_85 : placesOf Try.prog 85 = some [(0, 1), (1, 1), (2, 1)] := by kernel_rfl
theorem fld_85_0 : fieldOff Try.prog 85 0 = some 0 := by kernel_rfl
theorem fld_85_1 : fieldOff Try.prog 85 1 = some 1 := by kernel_rfl
theorem fld_85_2 : fieldOff Try.prog 85 2 = some 2 := by kernel_rfl
theorem some_85 : (Try.prog.underlying 85).isSome = true := by kernel_rfl
theorem agg_86 : aggB Try.prog 86 = true := by kernel_rfl
theorem size_86 : sizeIs Try.prog 86 3 = true := by kernel_rfl
theorem zero_86 : zeroOf Try.prog 86 = some (.agg #[.slice none 0 0, .slice none 0 0, .bool false]) := by kernel_rfl
theorem plc_86 : placesOf Try.prog 86 = some [(0, 1), (1, 1), (2, 1)] := by kernel_rfl
theorem fld_86_0 : fieldOff Try.prog 86 0 = some 0 := by kernel_rfl
theorem fld_86_1 : fieldOff Try.prog 86 1 = some 1 := by kernel_rfl
theorem fld_86_2 : fieldOff Try.prog 86 2 = some 2 := by kernel_rfl
theorem some_86 : (Try.prog.underlying 86).isSome = true := by kernel_rfl
theorem flat_87 : flatB Try.prog 87 = true := by kernel_rfl
theorem size_87 : sizeIs Try.prog 87 1 = true := by kernel_rfl
theorem zero_87 : zeroOf Try.prog 87 = some (.nilFunc) := by kernel_rfl
theorem some_87 : (Try.prog.underlying 87).isSome = true := by kernel_rfl
theorem agg_88 : aggB Try.prog 88 = true := by kernel_rfl
theorem size_88 : sizeIs Try.prog 88 6 = true := by kernel_rfl
theorem zero_88 : zeroOf Try.prog 88 = some (.agg #[.pointer none, .int .i64 0, .int .i64 0, .int .u64 0, .int .u64 0, .slice none 0 0]) := by kernel_rfl
theorem plc_88 : placesOf Try.prog 88 = some [(0, 1), (1, 1), (2, 1), (3, 3)] := by kernel_rfl
theorem fld_88_0 : fieldOff Try.prog 88 0 = some 0 := by kernel_rfl
theorem fld_88_1 : fieldOff Try.prog 88 1 = some 1 := by kernel_rfl
theorem fld_88_2 : fieldOff Try.prog 88 2 = some 2 := by kernel_rfl
theorem fld_88_3 : fieldOff Try.prog 88 3 = some 3 := by kernel_rfl
theorem some_88 : (Try.prog.underlying 88).isSome = true := by kernel_rfl
theorem agg_89 : aggB Try.prog 89 = true := by kernel_rfl
theorem size_89 : sizeIs Try.prog 89 6 = true := by kernel_rfl
theorem zero_89 : zeroOf Try.prog 89 = some (.agg #[.pointer none, .int .i64 0, .int .i64 0, .int .u64 0, .int .u64 0, .slice none 0 0]) := by kernel_rfl
theorem plc_89 : placesOf Try.prog 89 = some [(0, 1), (1, 1), (2, 1), (3, 3)] := by kernel_rfl
theorem fld_89_0 : fieldOff Try.prog 89 0 = some 0 := by kernel_rfl
theorem fld_89_1 : fieldOff Try.prog 89 1 = some 1 := by kernel_rfl
theorem fld_89_2 : fieldOff Try.prog 89 2 = some 2 := by kernel_rfl
theorem fld_89_3 : fieldOff Try.prog 89 3 = some 3 := by kernel_rfl
theorem some_89 : (Try.prog.underlying 89).isSome = true := by kernel_rfl
theorem flat_90 : flatB Try.prog 90 = true := by kernel_rfl
theorem size_90 : sizeIs Try.prog 90 1 = true := by kernel_rfl
theorem zero_90 : zeroOf Try.prog 90 = some (.nilFunc) := by kernel_rfl
theorem some_90 : (Try.prog.underlying 90).isSome = true := by kernel_rfl
theorem zero_91 : zeroOf Try.prog 91 = some (.tuple #[.agg #[.int .u64 0, .int .u64 0, .slice none 0 0], .bool false]) := by kernel_rfl
theorem some_91 : (Try.prog.underlying 91).isSome = true := by kernel_rfl
theorem flat_92 : flatB Try.prog 92 = true := by kernel_rfl
theorem size_92 : sizeIs Try.prog 92 1 = true := by kernel_rfl
theorem zero_92 : zeroOf Try.prog 92 = some (.nilFunc) := by kernel_rfl
theorem some_92 : (Try.prog.underlying 92).isSome = true := by kernel_rfl
theorem agg_93 : aggB Try.prog 93 = true := by kernel_rfl
theorem size_93 : sizeIs Try.prog 93 8 = true := by kernel_rfl
theorem zero_93 : zeroOf Try.prog 93 = some (.agg #[.pointer none, .int .i64 0, .int .i64 0, .int .u64 0, .int .u64 0, .int .i64 0, .int .u64 0, .slice none 0 0]) := by kernel_rfl
theorem plc_93 : placesOf Try.prog 93 = some [(0, 1), (1, 1), (2, 1), (3, 1), (4, 4)] := by kernel_rfl
theorem fld_93_0 : fieldOff Try.prog 93 0 = some 0 := by kernel_rfl
theorem fld_93_1 : fieldOff Try.prog 93 1 = some 1 := by kernel_rfl
theorem fld_93_2 : fieldOff Try.prog 93 2 = some 2 := by kernel_rfl
theorem fld_93_3 : fieldOff Try.prog 93 3 = some 3 := by kernel_rfl
theorem fld_93_4 : fieldOff Try.prog 93 4 = some 4 := by kernel_rfl
theorem some_93 : (Try.prog.underlying 93).isSome = true := by kernel_rfl
theorem agg_94 : aggB Try.prog 94 = true := by kernel_rfl
theorem size_94 : sizeIs Try.prog 94 8 = true := by kernel_rfl
theorem zero_94 : zeroOf Try.prog 94 = some (.agg #[.pointer none, .int .i64 0, .int .i64 0, .int .u64 0, .int .u64 0, .int .i64 0, .int .u64 0, .slice none 0 0]) := by kernel_rfl
theorem plc_94 : placesOf Try.prog 94 = some [(0, 1), (1, 1), (2, 1), (3, 1), (4, 4)] := by kernel_rfl
theorem fld_94_0 : fieldOff Try.prog 94 0 = some 0 := by kernel_rfl
theorem fld_94_1 : fieldOff Try.prog 94 1 = some 1 := by kernel_rfl
theorem fld_94_2 : fieldOff Try.prog 94 2 = some 2 := by kernel_rfl
theorem fld_94_3 : fieldOff Try.prog 94 3 = some 3 := by kernel_rfl
theorem fld_94_4 : fieldOff Try.prog 94 4 = some 4 := by kernel_rfl
theorem some_94 : (Try.prog.underlying 94).isSome = true := by kernel_rfl
theorem flat_95 : flatB Try.prog 95 = true := by kernel_rfl
theorem size_95 : sizeIs Try.prog 95 1 = true := by kernel_rfl
theorem zero_95 : zeroOf Try.prog 95 = some (.nilFunc) := by kernel_rfl
theorem some_95 : (Try.prog.underlying 95).isSome = true := by kernel_rfl
theorem flat_96 : flatB Try.prog 96 = true := by kernel_rfl
theorem size_96 : sizeIs Try.prog 96 1 = true := by kernel_rfl
theorem zero_96 : zeroOf Try.prog 96 = some (.nilFunc) := by kernel_rfl
theorem some_96 : (Try.prog.underlying 96).isSome = true := by kernel_rfl
theorem flat_97 : flatB Try.prog 97 = true := by kernel_rfl
theorem size_97 : sizeIs Try.prog 97 1 = true := by kernel_rfl
theorem zero_97 : zeroOf Try.prog 97 = some (.nilFunc) := by kernel_rfl
theorem some_97 : (Try.prog.underlying 97).isSome = true := by kernel_rfl
theorem flat_98 : flatB Try.prog 98 = true := by kernel_rfl
theorem size_98 : sizeIs Try.prog 98 1 = true := by kernel_rfl
theorem zero_98 : zeroOf Try.prog 98 = some (.nilFunc) := by kernel_rfl
theorem some_98 : (Try.prog.underlying 98).isSome = true := by kernel_rfl
theorem flat_99 : flatB Try.prog 99 = true := by kernel_rfl
theorem size_99 : sizeIs Try.prog 99 1 = true := by kernel_rfl
theorem zero_99 : zeroOf Try.prog 99 = some (.nilFunc) := by kernel_rfl
theorem some_99 : (Try.prog.underlying 99).isSome = true := by kernel_rfl
theorem zero_100 : zeroOf Try.prog 100 = some (.tuple #[.agg #[.int .u64 0, .int .i64 0, .int .u64 0, .slice none 0 0], .int .i64 0, .int .u64 0]) := by kernel_rfl
theorem some_100 : (Try.prog.underlying 100).isSome = true := by kernel_rfl
theorem flat_101 : flatB Try.prog 101 = true := by kernel_rfl
theorem size_101 : sizeIs Try.prog 101 1 = true := by kernel_rfl
theorem zero_101 : zeroOf Try.prog 101 = some (.nilFunc) := by kernel_rfl
theorem some_101 : (Try.prog.underlying 101).isSome = true := by kernel_rfl
theorem flat_102 : flatB Try.prog 102 = true := by kernel_rfl
theorem size_102 : sizeIs Try.prog 102 1 = true := by kernel_rfl
theorem zero_102 : zeroOf Try.prog 102 = some (.pointer none) := by kernel_rfl
theorem ptr_102 : Try.prog.underlying 102 = some (.pointer (Try.prog.pointee 102)) := by kernel_rfl
theorem some_102 : (Try.prog.underlying 102).isSome = true := by kernel_rfl
theorem agg_103 : aggB Try.prog 103 = true := by kernel_rfl
theorem size_103 : sizeIs Try.prog 103 1 = true := by kernel_rfl
theorem zero_103 : zeroOf Try.prog 103 = some (.agg #[.slice none 0 0]) := by kernel_rfl
theorem plc_103 : placesOf Try.prog 103 = some [(0, 1)] := by kernel_rfl
theorem fld_103_0 : fieldOff Try.prog 103 0 = some 0 := by kernel_rfl
theorem some_103 : (Try.prog.underlying 103).isSome = true := by kernel_rfl
theorem agg_104 : aggB Try.prog 104 = true := by kernel_rfl
theorem size_104 : sizeIs Try.prog 104 1 = true := by kernel_rfl
theorem zero_104 : zeroOf Try.prog 104 = some (.agg #[.slice none 0 0]) := by kernel_rfl
theorem plc_104 : placesOf Try.prog 104 = some [(0, 1)] := by kernel_rfl
theorem fld_104_0 : fieldOff Try.prog 104 0 = some 0 := by kernel_rfl
theorem some_104 : (Try.prog.underlying 104).isSome = true := by kernel_rfl
theorem flat_105 : flatB Try.prog 105 = true := by kernel_rfl
theorem size_105 : sizeIs Try.prog 105 1 = true := by kernel_rfl
theorem zero_105 : zeroOf Try.prog 105 = some (.nilFunc) := by kernel_rfl
theorem some_105 : (Try.prog.underlying 105).isSome = true := by kernel_rfl
theorem flat_106 : flatB Try.prog 106 = true := by kernel_rfl
theorem size_106 : sizeIs Try.prog 106 1 = true := by kernel_rfl
theorem zero_106 : zeroOf Try.prog 106 = some (.nilFunc) := by kernel_rfl
theorem some_106 : (Try.prog.underlying 106).isSome = true := by kernel_rfl
theorem flat_107 : flatB Try.prog 107 = true := by kernel_rfl
theorem size_107 : sizeIs Try.prog 107 1 = true := by kernel_rfl
theorem zero_107 : zeroOf Try.prog 107 = some (.nilFunc) := by kernel_rfl
theorem some_107 : (Try.prog.underlying 107).isSome = true := by kernel_rfl
theorem flat_108 : flatB Try.prog 108 = true := by kernel_rfl
theorem size_108 : sizeIs Try.prog 108 1 = true := by kernel_rfl
theorem zero_108 : zeroOf Try.prog 108 = some (.nilFunc) := by kernel_rfl
theorem some_108 : (Try.prog.underlying 108).isSome = true := by kernel_rfl
theorem flat_109 : flatB Try.prog 109 = true := by kernel_rfl
theorem size_109 : sizeIs Try.prog 109 1 = true := by kernel_rfl
theorem zero_109 : zeroOf Try.prog 109 = some (.pointer none) := by kernel_rfl
theorem ptr_109 : Try.prog.underlying 109 = some (.pointer (Try.prog.pointee 109)) := by kernel_rfl
theorem some_109 : (Try.prog.underlying 109).isSome = true := by kernel_rfl
theorem flat_110 : flatB Try.prog 110 = true := by kernel_rfl
theorem size_110 : sizeIs Try.prog 110 1 = true := by kernel_rfl
theorem zero_110 : zeroOf Try.prog 110 = some (.nilFunc) := by kernel_rfl
theorem some_110 : (Try.prog.underlying 110).isSome = true := by kernel_rfl
theorem flat_111 : flatB Try.prog 111 = true := by kernel_rfl
theorem size_111 : sizeIs Try.prog 111 1 = true := by kernel_rfl
theorem zero_111 : zeroOf Try.prog 111 = some (.nilFunc) := by kernel_rfl
theorem some_111 : (Try.prog.underlying 111).isSome = true := by kernel_rfl
theorem flat_112 : flatB Try.prog 112 = true := by kernel_rfl
theorem size_112 : sizeIs Try.prog 112 1 = true := by kernel_rfl
theorem zero_112 : zeroOf Try.prog 112 = some (.nilFunc) := by kernel_rfl
theorem some_112 : (Try.prog.underlying 112).isSome = true := by kernel_rfl
theorem flat_113 : flatB Try.prog 113 = true := by kernel_rfl
theorem size_113 : sizeIs Try.prog 113 1 = true := by kernel_rfl
theorem zero_113 : zeroOf Try.prog 113 = some (.nilFunc) := by kernel_rfl
theorem some_113 : (Try.prog.underlying 113).isSome = true := by kernel_rfl
theorem flat_114 : flatB Try.prog 114 = true := by kernel_rfl
theorem size_114 : sizeIs Try.prog 114 1 = true := by kernel_rfl
theorem zero_114 : zeroOf Try.prog 114 = some (.nilFunc) := by kernel_rfl
theorem some_114 : (Try.prog.underlying 114).isSome = true := by kernel_rfl
theorem flat_115 : flatB Try.prog 115 = true := by kernel_rfl
theorem size_115 : sizeIs Try.prog 115 1 = true := by kernel_rfl
theorem zero_115 : zeroOf Try.prog 115 = some (.nilFunc) := by kernel_rfl
theorem some_115 : (Try.prog.underlying 115).isSome = true := by kernel_rfl
theorem flat_116 : flatB Try.prog 116 = true := by kernel_rfl
theorem size_116 : sizeIs Try.prog 116 1 = true := by kernel_rfl
theorem zero_116 : zeroOf Try.prog 116 = some (.nilFunc) := by kernel_rfl
theorem some_116 : (Try.prog.underlying 116).isSome = true := by kernel_rfl
theorem zero_117 : zeroOf Try.prog 117 = some (.tuple #[.int .i64 0, .int .i64 0]) := by kernel_rfl
theorem some_117 : (Try.prog.underlying 117).isSome = true := by kernel_rfl
theorem flat_118 : flatB Try.prog 118 = true := by kernel_rfl
theorem size_118 : sizeIs Try.prog 118 1 = true := by kernel_rfl
theorem zero_118 : zeroOf Try.prog 118 = some (.nilFunc) := by kernel_rfl
theorem some_118 : (Try.prog.underlying 118).isSome = true := by kernel_rfl
theorem flat_119 : flatB Try.prog 119 = true := by kernel_rfl
theorem size_119 : sizeIs Try.prog 119 1 = true := by kernel_rfl
theorem zero_119 : zeroOf Try.prog 119 = some (.nilFunc) := by kernel_rfl
theorem some_119 : (Try.prog.underlying 119).isSome = true := by kernel_rfl
theorem flat_120 : flatB Try.prog 120 = true := by kernel_rfl
theorem size_120 : sizeIs Try.prog 120 1 = true := by kernel_rfl
theorem zero_120 : zeroOf Try.prog 120 = some (.pointer none) := by kernel_rfl
theorem ptr_120 : Try.prog.underlying 120 = some (.pointer (Try.prog.pointee 120)) := by kernel_rfl
theorem some_120 : (Try.prog.underlying 120).isSome = true := by kernel_rfl
theorem flat_121 : flatB Try.prog 121 = true := by kernel_rfl
theorem size_121 : sizeIs Try.prog 121 1 = true := by kernel_rfl
theorem zero_121 : zeroOf Try.prog 121 = some (.int .u32 0) := by kernel_rfl
theorem int_121 : Try.prog.underlying 121 = some (.int .u32) := by kernel_rfl
theorem some_121 : (Try.prog.underlying 121).isSome = true := by kernel_rfl
theorem flat_122 : flatB Try.prog 122 = true := by kernel_rfl
theorem size_122 : sizeIs Try.prog 122 1 = true := by kernel_rfl
theorem zero_122 : zeroOf Try.prog 122 = some (.nilFunc) := by kernel_rfl
theorem some_122 : (Try.prog.underlying 122).isSome = true := by kernel_rfl
theorem flat_123 : flatB Try.prog 123 = true := by kernel_rfl
theorem size_123 : sizeIs Try.prog 123 1 = true := by kernel_rfl
theorem zero_123 : zeroOf Try.prog 123 = some (.int .u64 0) := by kernel_rfl
theorem int_123 : Try.prog.underlying 123 = some (.int .u64) := by kernel_rfl
theorem some_123 : (Try.prog.underlying 123).isSome = true := by kernel_rfl
theorem flat_124 : flatB Try.prog 124 = true := by kernel_rfl
theorem size_124 : sizeIs Try.prog 124 1 = true := by kernel_rfl
theorem zero_124 : zeroOf Try.prog 124 = some (.nilFunc) := by kernel_rfl
theorem some_124 : (Try.prog.underlying 124).isSome = true := by kernel_rfl
theorem agg_125 : aggB Try.prog 125 = true := by kernel_rfl
theorem size_125 : sizeIs Try.prog 125 2 = true := by kernel_rfl
theorem zero_125 : zeroOf Try.prog 125 = some (.agg #[.slice none 0 0, .bool false]) := by kernel_rfl
theorem plc_125 : placesOf Try.prog 125 = some [(0, 1), (1, 1)] := by kernel_rfl
theorem fld_125_0 : fieldOff Try.prog 125 0 = some 0 := by kernel_rfl
theorem fld_125_1 : fieldOff Try.prog 125 1 = some 1 := by kernel_rfl
theorem some_125 : (Try.prog.underlying 125).isSome = true := by kernel_rfl
theorem agg_126 : aggB Try.prog 126 = true := by kernel_rfl
theorem size_126 : sizeIs Try.prog 126 2 = true := by kernel_rfl
theorem zero_126 : zeroOf Try.prog 126 = some (.agg #[.slice none 0 0, .bool false]) := by kernel_rfl
theorem plc_126 : placesOf Try.prog 126 = some [(0, 1), (1, 1)] := by kernel_rfl
theorem fld_126_0 : fieldOff Try.prog 126 0 = some 0 := by kernel_rfl
theorem fld_126_1 : fieldOff Try.prog 126 1 = some 1 := by kernel_rfl
theorem some_126 : (Try.prog.underlying 126).isSome = true := by kernel_rfl
theorem flat_127 : flatB Try.prog 127 = true := by kernel_rfl
theorem size_127 : sizeIs Try.prog 127 1 = true := by kernel_rfl
theorem zero_127 : zeroOf Try.prog 127 = some (.nilFunc) := by kernel_rfl
theorem some_127 : (Try.prog.underlying 127).isSome = true := by kernel_rfl
theorem flat_128 : flatB Try.prog 128 = true := by kernel_rfl
theorem size_128 : sizeIs Try.prog 128 1 = true := by kernel_rfl
theorem zero_128 : zeroOf Try.prog 128 = some (.nilFunc) := by kernel_rfl
theorem some_128 : (Try.prog.underlying 128).isSome = true := by kernel_rfl
theorem flat_129 : flatB Try.prog 129 = true := by kernel_rfl
theorem size_129 : sizeIs Try.prog 129 1 = true := by kernel_rfl
theorem zero_129 : zeroOf Try.prog 129 = some (.pointer none) := by kernel_rfl
theorem ptr_129 : Try.prog.underlying 129 = some (.pointer (Try.prog.pointee 129)) := by kernel_rfl
theorem some_129 : (Try.prog.underlying 129).isSome = true := by kernel_rfl
theorem flat_130 : flatB Try.prog 130 = true := by kernel_rfl
theorem size_130 : sizeIs Try.prog 130 1 = true := by kernel_rfl
theorem zero_130 : zeroOf Try.prog 130 = some (.nilFunc) := by kernel_rfl
theorem some_130 : (Try.prog.underlying 130).isSome = true := by kernel_rfl
theorem flat_131 : flatB Try.prog 131 = true := by kernel_rfl
theorem size_131 : sizeIs Try.prog 131 1 = true := by kernel_rfl
theorem zero_131 : zeroOf Try.prog 131 = some (.nilFunc) := by kernel_rfl
theorem some_131 : (Try.prog.underlying 131).isSome = true := by kernel_rfl
theorem flat_139 : flatB Try.prog 139 = true := by kernel_rfl
theorem size_139 : sizeIs Try.prog 139 1 = true := by kernel_rfl
theorem zero_139 : zeroOf Try.prog 139 = some (.nilFunc) := by kernel_rfl
theorem some_139 : (Try.prog.underlying 139).isSome = true := by kernel_rfl
theorem flat_140 : flatB Try.prog 140 = true := by kernel_rfl
theorem size_140 : sizeIs Try.prog 140 1 = true := by kernel_rfl
theorem zero_140 : zeroOf Try.prog 140 = some (.pointer none) := by kernel_rfl
theorem ptr_140 : Try.prog.underlying 140 = some (.pointer (Try.prog.pointee 140)) := by kernel_rfl
theorem some_140 : (Try.prog.underlying 140).isSome = true := by kernel_rfl
theorem flat_145 : flatB Try.prog 145 = true := by kernel_rfl
theorem size_145 : sizeIs Try.prog 145 1 = true := by kernel_rfl
theorem zero_145 : zeroOf Try.prog 145 = some (.nilFunc) := by kernel_rfl
theorem some_145 : (Try.prog.underlying 145).isSome = true := by kernel_rfl
theorem flat_146 : flatB Try.prog 146 = true := by kernel_rfl
theorem zero_146 : zeroOf Try.prog 146 = some (.pointer none) := by kernel_rfl
theorem some_146 : (Try.prog.underlying 146).isSome = true := by kernel_rfl
theorem body_3 : hasBody Try.prog 3 = true := by kernel_rfl
theorem body_4 : hasBody Try.prog 4 = true := by kernel_rfl
theorem body_5 : hasBody Try.prog 5 = true := by kernel_rfl
theorem body_6 : hasBody Try.prog 6 = true := by kernel_rfl
theorem body_7 : hasBody Try.prog 7 = true := by kernel_rfl
theorem body_8 : hasBody Try.prog 8 = true := by kernel_rfl
theorem body_9 : hasBody Try.prog 9 = true := by kernel_rfl
theorem body_10 : hasBody Try.prog 10 = true := by kernel_rfl
theorem body_11 : hasBody Try.prog 11 = true := by kernel_rfl
theorem body_12 : hasBody Try.prog 12 = true := by kernel_rfl
theorem body_13 : hasBody Try.prog 13 = true := by kernel_rfl
theorem body_14 : hasBody Try.prog 14 = true := by kernel_rfl
theorem body_15 : hasBody Try.prog 15 = true := by kernel_rfl
theorem body_16 : hasBody Try.prog 16 = true := by kernel_rfl
theorem body_17 : hasBody Try.prog 17 = true := by kernel_rfl
theorem body_18 : hasBody Try.prog 18 = true := by kernel_rfl
theorem body_19 : hasBody Try.prog 19 = true := by kernel_rfl
theorem body_20 : hasBody Try.prog 20 = true := by kernel_rfl
theorem body_21 : hasBody Try.prog 21 = true := by kernel_rfl
theorem body_22 : hasBody Try.prog 22 = true := by kernel_rfl
theorem body_23 : hasBody Try.prog 23 = true := by kernel_rfl
theorem body_24 : hasBody Try.prog 24 = true := by kernel_rfl
theorem body_25 : hasBody Try.prog 25 = true := by kernel_rfl
theorem body_26 : hasBody Try.prog 26 = true := by kernel_rfl
theorem body_27 : hasBody Try.prog 27 = true := by kernel_rfl
theorem body_28 : hasBody Try.prog 28 = true := by kernel_rfl
theorem body_29 : hasBody Try.prog 29 = true := by kernel_rfl
theorem body_30 : hasBody Try.prog 30 = true := by kernel_rfl
theorem body_31 : hasBody Try.prog 31 = true := by kernel_rfl
theorem body_32 : hasBody Try.prog 32 = true := by kernel_rfl
theorem body_33 : hasBody Try.prog 33 = true := by kernel_rfl
theorem body_34 : hasBody Try.prog 34 = true := by kernel_rfl
theorem body_35 : hasBody Try.prog 35 = true := by kernel_rfl
theorem body_36 : hasBody Try.prog 36 = true := by kernel_rfl
theorem body_37 : hasBody Try.prog 37 = true := by kernel_rfl
theorem body_38 : hasBody Try.prog 38 = true := by kernel_rfl
theorem body_39 : hasBody Try.prog 39 = true := by kernel_rfl
theorem body_40 : hasBody Try.prog 40 = true := by kernel_rfl
theorem body_41 : hasBody Try.prog 41 = true := by kernel_rfl
theorem body_42 : hasBody Try.prog 42 = true := by kernel_rfl
theorem body_43 : hasBody Try.prog 43 = true := by kernel_rfl
theorem body_44 : hasBody Try.prog 44 = true := by kernel_rfl
theorem body_45 : hasBody Try.prog 45 = true := by kernel_rfl
theorem body_46 : hasBody Try.prog 46 = true := by kernel_rfl
theorem body_47 : hasBody Try.prog 47 = true := by kernel_rfl
theorem body_48 : hasBody Try.prog 48 = true := by kernel_rfl
theorem body_49 : hasBody Try.prog 49 = true := by kernel_rfl
theorem body_50 : hasBody Try.prog 50 = true := by kernel_rfl
theorem body_51 : hasBody Try.prog 51 = true := by kernel_rfl
theorem body_52 : hasBody Try.prog 52 = true := by kernel_rfl
theorem body_53 : hasBody Try.prog 53 = true := by kernel_rfl
theorem body_54 : hasBody Try.prog 54 = true := by kernel_rfl
theorem body_55 : hasBody Try.prog 55 = true := by kernel_rfl
theorem body_56 : hasBody Try.prog 56 = true := by kernel_rfl
theorem body_57 : hasBody Try.prog 57 = true := by kernel_rfl
theorem body_58 : hasBody Try.prog 58 = true := by kernel_rfl
theorem body_59 : hasBody Try.prog 59 = true := by kernel_rfl
theorem body_60 : hasBody Try.prog 60 = true := by kernel_rfl
theorem body_61 : hasBody Try.prog 61 = true := by kernel_rfl
theorem body_62 : hasBody Try.prog 62 = true := by kernel_rfl
theorem body_63 : hasBody Try.prog 63 = true := by kernel_rfl
theorem body_64 : hasBody Try.prog 64 = true := by kernel_rfl
theorem body_65 : hasBody Try.prog 65 = true := by kernel_rfl
theorem body_66 : hasBody Try.prog 66 = true := by kernel_rfl
theorem body_67 : hasBody Try.prog 67 = true := by kernel_rfl
theorem body_68 : hasBody Try.prog 68 = true := by kernel_rfl
theorem body_69 : hasBody Try.prog 69 = true := by kernel_rfl
theorem body_70 : hasBody Try.prog 70 = true := by kernel_rfl
theorem body_71 : hasBody Try.prog 71 = true := by kernel_rfl
theorem body_72 : hasBody Try.prog 72 = true := by kernel_rfl
theorem body_73 : hasBody Try.prog 73 = true := by kernel_rfl
theorem body_74 : hasBody Try.prog 74 = true := by kernel_rfl
theorem body_75 : hasBody Try.prog 75 = true := by kernel_rfl
theorem mixed : Try.prog.follows .mixedOrders = true := by kernel_rfl
end Go.Proofs.Ytejlmcdmoghmaaa
