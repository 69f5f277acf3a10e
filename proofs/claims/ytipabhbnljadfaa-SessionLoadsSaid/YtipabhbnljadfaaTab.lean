/-
  Closed facts on the types and functions of this seat, by a program of this work (tab.py).
-/
import Derived.Test.YtipabhbnljadfaaFg
import Derived.Test.YtipabhbnljadfaaChecked
import Derived.KernelRfl
namespace Go.Proofs.Ytipabhbnljadfaa

theorem zero_0 : zeroOf Try.prog 0 = some (.tuple #[]) := by kernel_rfl
theorem some_0 : (Try.prog.underlying 0).isSome = true := by kernel_rfl
theorem flat_1 : flatB Try.prog 1 = true := by kernel_rfl
theorem size_1 : sizeIs Try.prog 1 1 = true := by kernel_rfl
theorem zero_1 : zeroOf Try.prog 1 = some (.nilFunc) := by kernel_rfl
theorem some_1 : (Try.prog.underlying 1).isSome = true := by kernel_rfl
theorem flat_2 : flatB Try.prog 2 = true := by kernel_rfl
theorem size_2 : sizeIs Try.prog 2 1 = true := by kernel_rfl
theorem zero_2 : zeroOf Try.prog 2 = some (.int .i64 0) := by kernel_rfl
theorem int_2 : Try.prog.underlying 2 = some (.int .i64) := by kernel_rfl
theorem some_2 : (Try.prog.underlying 2).isSome = true := by kernel_rfl
theorem flat_3 : flatB Try.prog 3 = true := by kernel_rfl
theorem size_3 : sizeIs Try.prog 3 1 = true := by kernel_rfl
theorem zero_3 : zeroOf Try.prog 3 = some (.int .i64 0) := by kernel_rfl
theorem int_3 : Try.prog.underlying 3 = some (.int .i64) := by kernel_rfl
theorem some_3 : (Try.prog.underlying 3).isSome = true := by kernel_rfl
theorem flat_4 : flatB Try.prog 4 = true := by kernel_rfl
theorem size_4 : sizeIs Try.prog 4 1 = true := by kernel_rfl
theorem zero_4 : zeroOf Try.prog 4 = some (.bool false) := by kernel_rfl
theorem bool_4 : Try.prog.underlying 4 = some .bool := by kernel_rfl
theorem some_4 : (Try.prog.underlying 4).isSome = true := by kernel_rfl
theorem flat_5 : flatB Try.prog 5 = true := by kernel_rfl
theorem size_5 : sizeIs Try.prog 5 1 = true := by kernel_rfl
theorem zero_5 : zeroOf Try.prog 5 = some (.int .u8 0) := by kernel_rfl
theorem int_5 : Try.prog.underlying 5 = some (.int .u8) := by kernel_rfl
theorem some_5 : (Try.prog.underlying 5).isSome = true := by kernel_rfl
theorem flat_9 : flatB Try.prog 9 = true := by kernel_rfl
theorem size_9 : sizeIs Try.prog 9 1 = true := by kernel_rfl
theorem zero_9 : zeroOf Try.prog 9 = some (.string ⟨#[]⟩) := by kernel_rfl
theorem str_9 : Try.prog.underlying 9 = some .string := by kernel_rfl
theorem some_9 : (Try.prog.underlying 9).isSome = true := by kernel_rfl
theorem flat_12 : flatB Try.prog 12 = true := by kernel_rfl
theorem size_12 : sizeIs Try.prog 12 1 = true := by kernel_rfl
theorem zero_12 : zeroOf Try.prog 12 = some (.int .u64 0) := by kernel_rfl
theorem int_12 : Try.prog.underlying 12 = some (.int .u64) := by kernel_rfl
theorem some_12 : (Try.prog.underlying 12).isSome = true := by kernel_rfl
theorem agg_13 : aggB Try.prog 13 = true := by kernel_rfl
theorem size_13 : sizeIs Try.prog 13 2 = true := by kernel_rfl
theorem zero_13 : zeroOf Try.prog 13 = some (.agg #[.string ⟨#[]⟩, .int .u64 0]) := by kernel_rfl
theorem plc_13 : placesOf Try.prog 13 = some [(0, 1), (1, 1)] := by kernel_rfl
theorem fld_13_0 : fieldOff Try.prog 13 0 = some 0 := by kernel_rfl
theorem fld_13_1 : fieldOff Try.prog 13 1 = some 1 := by kernel_rfl
theorem some_13 : (Try.prog.underlying 13).isSome = true := by kernel_rfl
theorem flat_20 : flatB Try.prog 20 = true := by kernel_rfl
theorem size_20 : sizeIs Try.prog 20 1 = true := by kernel_rfl
theorem zero_20 : zeroOf Try.prog 20 = some (.nilIface) := by kernel_rfl
theorem some_20 : (Try.prog.underlying 20).isSome = true := by kernel_rfl
theorem flat_21 : flatB Try.prog 21 = true := by kernel_rfl
theorem size_21 : sizeIs Try.prog 21 1 = true := by kernel_rfl
theorem zero_21 : zeroOf Try.prog 21 = some (.int .i32 0) := by kernel_rfl
theorem int_21 : Try.prog.underlying 21 = some (.int .i32) := by kernel_rfl
theorem some_21 : (Try.prog.underlying 21).isSome = true := by kernel_rfl
theorem flat_22 : flatB Try.prog 22 = true := by kernel_rfl
theorem size_22 : sizeIs Try.prog 22 1 = true := by kernel_rfl
theorem zero_22 : zeroOf Try.prog 22 = some (.slice none 0 0) := by kernel_rfl
theorem elem_22 : sliceElem Try.prog 22 = some 27 := by kernel_rfl
theorem row_22 : RowT Try.prog 22 27 1 8 (.int .u64 0) := ⟨by kernel_rfl, by kernel_rfl, rfl, by decide⟩
theorem some_22 : (Try.prog.underlying 22).isSome = true := by kernel_rfl
theorem flat_23 : flatB Try.prog 23 = true := by kernel_rfl
theorem size_23 : sizeIs Try.prog 23 1 = true := by kernel_rfl
theorem zero_23 : zeroOf Try.prog 23 = some (.slice none 0 0) := by kernel_rfl
theorem elem_23 : sliceElem Try.prog 23 = some 5 := by kernel_rfl
theorem row_23 : RowT Try.prog 23 5 1 1 (.int .u8 0) := ⟨by kernel_rfl, by kernel_rfl, rfl, by decide⟩
theorem some_23 : (Try.prog.underlying 23).isSome = true := by kernel_rfl
theorem flat_24 : flatB Try.prog 24 = true := by kernel_rfl
theorem size_24 : sizeIs Try.prog 24 1 = true := by kernel_rfl
theorem zero_24 : zeroOf Try.prog 24 = some (.nilFunc) := by kernel_rfl
theorem some_24 : (Try.prog.underlying 24).isSome = true := by kernel_rfl
theorem flat_25 : flatB Try.prog 25 = true := by kernel_rfl
theorem size_25 : sizeIs Try.prog 25 1 = true := by kernel_rfl
theorem zero_25 : zeroOf Try.prog 25 = some (.pointer none) := by kernel_rfl
theorem ptr_25 : Try.prog.underlying 25 = some (.pointer (Try.prog.pointee 25)) := by kernel_rfl
theorem some_25 : (Try.prog.underlying 25).isSome = true := by kernel_rfl
theorem flat_26 : flatB Try.prog 26 = true := by kernel_rfl
theorem size_26 : sizeIs Try.prog 26 1 = true := by kernel_rfl
theorem zero_26 : zeroOf Try.prog 26 = some (.nilFunc) := by kernel_rfl
theorem some_26 : (Try.prog.underlying 26).isSome = true := by kernel_rfl
theorem flat_27 : flatB Try.prog 27 = true := by kernel_rfl
theorem size_27 : sizeIs Try.prog 27 1 = true := by kernel_rfl
theorem zero_27 : zeroOf Try.prog 27 = some (.int .u64 0) := by kernel_rfl
theorem int_27 : Try.prog.underlying 27 = some (.int .u64) := by kernel_rfl
theorem some_27 : (Try.prog.underlying 27).isSome = true := by kernel_rfl
theorem flat_28 : flatB Try.prog 28 = true := by kernel_rfl
theorem size_28 : sizeIs Try.prog 28 1 = true := by kernel_rfl
theorem zero_28 : zeroOf Try.prog 28 = some (.int .i64 0) := by kernel_rfl
theorem int_28 : Try.prog.underlying 28 = some (.int .i64) := by kernel_rfl
theorem some_28 : (Try.prog.underlying 28).isSome = true := by kernel_rfl
theorem flat_29 : flatB Try.prog 29 = true := by kernel_rfl
theorem size_29 : sizeIs Try.prog 29 1 = true := by kernel_rfl
theorem zero_29 : zeroOf Try.prog 29 = some (.nilFunc) := by kernel_rfl
theorem some_29 : (Try.prog.underlying 29).isSome = true := by kernel_rfl
theorem zero_30 : zeroOf Try.prog 30 = some (.tuple #[.slice none 0 0, .int .i64 0]) := by kernel_rfl
theorem some_30 : (Try.prog.underlying 30).isSome = true := by kernel_rfl
theorem flat_31 : flatB Try.prog 31 = true := by kernel_rfl
theorem size_31 : sizeIs Try.prog 31 1 = true := by kernel_rfl
theorem zero_31 : zeroOf Try.prog 31 = some (.nilFunc) := by kernel_rfl
theorem some_31 : (Try.prog.underlying 31).isSome = true := by kernel_rfl
theorem flat_32 : flatB Try.prog 32 = true := by kernel_rfl
theorem size_32 : sizeIs Try.prog 32 1 = true := by kernel_rfl
theorem zero_32 : zeroOf Try.prog 32 = some (.nilFunc) := by kernel_rfl
theorem some_32 : (Try.prog.underlying 32).isSome = true := by kernel_rfl
theorem flat_33 : flatB Try.prog 33 = true := by kernel_rfl
theorem size_33 : sizeIs Try.prog 33 1 = true := by kernel_rfl
theorem zero_33 : zeroOf Try.prog 33 = some (.nilFunc) := by kernel_rfl
theorem some_33 : (Try.prog.underlying 33).isSome = true := by kernel_rfl
theorem flat_34 : flatB Try.prog 34 = true := by kernel_rfl
theorem size_34 : sizeIs Try.prog 34 1 = true := by kernel_rfl
theorem zero_34 : zeroOf Try.prog 34 = some (.nilFunc) := by kernel_rfl
theorem some_34 : (Try.prog.underlying 34).isSome = true := by kernel_rfl
theorem flat_35 : flatB Try.prog 35 = true := by kernel_rfl
theorem size_35 : sizeIs Try.prog 35 1 = true := by kernel_rfl
theorem zero_35 : zeroOf Try.prog 35 = some (.nilFunc) := by kernel_rfl
theorem some_35 : (Try.prog.underlying 35).isSome = true := by kernel_rfl
theorem flat_36 : flatB Try.prog 36 = true := by kernel_rfl
theorem size_36 : sizeIs Try.prog 36 1 = true := by kernel_rfl
theorem zero_36 : zeroOf Try.prog 36 = some (.nilFunc) := by kernel_rfl
theorem some_36 : (Try.prog.underlying 36).isSome = true := by kernel_rfl
theorem flat_37 : flatB Try.prog 37 = true := by kernel_rfl
theorem size_37 : sizeIs Try.prog 37 1 = true := by kernel_rfl
theorem zero_37 : zeroOf Try.prog 37 = some (.nilFunc) := by kernel_rfl
theorem some_37 : (Try.prog.underlying 37).isSome = true := by kernel_rfl
theorem flat_38 : flatB Try.prog 38 = true := by kernel_rfl
theorem size_38 : sizeIs Try.prog 38 1 = true := by kernel_rfl
theorem zero_38 : zeroOf Try.prog 38 = some (.slice none 0 0) := by kernel_rfl
theorem elem_38 : sliceElem Try.prog 38 = some 44 := by kernel_rfl
theorem row_38 : RowT Try.prog 38 44 4 48 (.agg #[.int .u8 0, .int .u64 0, .int .u64 0, .slice none 0 0]) := ⟨by kernel_rfl, by kernel_rfl, rfl, by decide⟩
theorem some_38 : (Try.prog.underlying 38).isSome = true := by kernel_rfl
theorem flat_39 : flatB Try.prog 39 = true := by kernel_rfl
theorem size_39 : sizeIs Try.prog 39 1 = true := by kernel_rfl
theorem zero_39 : zeroOf Try.prog 39 = some (.pointer none) := by kernel_rfl
theorem ptr_39 : Try.prog.underlying 39 = some (.pointer (Try.prog.pointee 39)) := by kernel_rfl
theorem some_39 : (Try.prog.underlying 39).isSome = true := by kernel_rfl
theorem flat_40 : flatB Try.prog 40 = true := by kernel_rfl
theorem size_40 : sizeIs Try.prog 40 1 = true := by kernel_rfl
theorem zero_40 : zeroOf Try.prog 40 = some (.slice none 0 0) := by kernel_rfl
theorem elem_40 : sliceElem Try.prog 40 = some 68 := by kernel_rfl
theorem row_40 : RowT Try.prog 40 68 3 40 (.agg #[.int .u64 0, .int .u64 0, .slice none 0 0]) := ⟨by kernel_rfl, by kernel_rfl, rfl, by decide⟩
theorem some_40 : (Try.prog.underlying 40).isSome = true := by kernel_rfl
theorem agg_41 : aggB Try.prog 41 = true := by kernel_rfl
theorem size_41 : sizeIs Try.prog 41 1 = true := by kernel_rfl
theorem zero_41 : zeroOf Try.prog 41 = some (.agg #[.slice none 0 0]) := by kernel_rfl
theorem plc_41 : placesOf Try.prog 41 = some [(0, 1)] := by kernel_rfl
theorem fld_41_0 : fieldOff Try.prog 41 0 = some 0 := by kernel_rfl
theorem some_41 : (Try.prog.underlying 41).isSome = true := by kernel_rfl
theorem agg_42 : aggB Try.prog 42 = true := by kernel_rfl
theorem size_42 : sizeIs Try.prog 42 1 = true := by kernel_rfl
theorem zero_42 : zeroOf Try.prog 42 = some (.agg #[.slice none 0 0]) := by kernel_rfl
theorem plc_42 : placesOf Try.prog 42 = some [(0, 1)] := by kernel_rfl
theorem fld_42_0 : fieldOff Try.prog 42 0 = some 0 := by kernel_rfl
theorem some_42 : (Try.prog.underlying 42).isSome = true := by kernel_rfl
theorem agg_43 : aggB Try.prog 43 = true := by kernel_rfl
theorem size_43 : sizeIs Try.prog 43 4 = true := by kernel_rfl
theorem zero_43 : zeroOf Try.prog 43 = some (.agg #[.int .u8 0, .int .u64 0, .int .u64 0, .slice none 0 0]) := by kernel_rfl
theorem plc_43 : placesOf Try.prog 43 = some [(0, 1), (1, 1), (2, 1), (3, 1)] := by kernel_rfl
theorem fld_43_0 : fieldOff Try.prog 43 0 = some 0 := by kernel_rfl
theorem fld_43_1 : fieldOff Try.prog 43 1 = some 1 := by kernel_rfl
theorem fld_43_2 : fieldOff Try.prog 43 2 = some 2 := by kernel_rfl
theorem fld_43_3 : fieldOff Try.prog 43 3 = some 3 := by kernel_rfl
theorem some_43 : (Try.prog.underlying 43).isSome = true := by kernel_rfl
theorem agg_44 : aggB Try.prog 44 = true := by kernel_rfl
theorem size_44 : sizeIs Try.prog 44 4 = true := by kernel_rfl
theorem zero_44 : zeroOf Try.prog 44 = some (.agg #[.int .u8 0, .int .u64 0, .int .u64 0, .slice none 0 0]) := by kernel_rfl
theorem plc_44 : placesOf Try.prog 44 = some [(0, 1), (1, 1), (2, 1), (3, 1)] := by kernel_rfl
theorem fld_44_0 : fieldOff Try.prog 44 0 = some 0 := by kernel_rfl
theorem fld_44_1 : fieldOff Try.prog 44 1 = some 1 := by kernel_rfl
theorem fld_44_2 : fieldOff Try.prog 44 2 = some 2 := by kernel_rfl
theorem fld_44_3 : fieldOff Try.prog 44 3 = some 3 := by kernel_rfl
theorem some_44 : (Try.prog.underlying 44).isSome = true := by kernel_rfl
theorem flat_45 : flatB Try.prog 45 = true := by kernel_rfl
theorem size_45 : sizeIs Try.prog 45 1 = true := by kernel_rfl
theorem zero_45 : zeroOf Try.prog 45 = some (.nilFunc) := by kernel_rfl
theorem some_45 : (Try.prog.underlying 45).isSome = true := by kernel_rfl
theorem zero_46 : zeroOf Try.prog 46 = some (.tuple #[.slice none 0 0, .int .i64 0]) := by kernel_rfl
theorem some_46 : (Try.prog.underlying 46).isSome = true := by kernel_rfl
theorem flat_47 : flatB Try.prog 47 = true := by kernel_rfl
theorem size_47 : sizeIs Try.prog 47 1 = true := by kernel_rfl
theorem zero_47 : zeroOf Try.prog 47 = some (.nilFunc) := by kernel_rfl
theorem some_47 : (Try.prog.underlying 47).isSome = true := by kernel_rfl
theorem zero_48 : zeroOf Try.prog 48 = some (.tuple #[.pointer none, .int .i64 0]) := by kernel_rfl
theorem some_48 : (Try.prog.underlying 48).isSome = true := by kernel_rfl
theorem flat_49 : flatB Try.prog 49 = true := by kernel_rfl
theorem size_49 : sizeIs Try.prog 49 1 = true := by kernel_rfl
theorem zero_49 : zeroOf Try.prog 49 = some (.nilFunc) := by kernel_rfl
theorem some_49 : (Try.prog.underlying 49).isSome = true := by kernel_rfl
theorem flat_50 : flatB Try.prog 50 = true := by kernel_rfl
theorem size_50 : sizeIs Try.prog 50 1 = true := by kernel_rfl
theorem zero_50 : zeroOf Try.prog 50 = some (.nilFunc) := by kernel_rfl
theorem some_50 : (Try.prog.underlying 50).isSome = true := by kernel_rfl
theorem zero_51 : zeroOf Try.prog 51 = some (.tuple #[.pointer none, .bool false]) := by kernel_rfl
theorem some_51 : (Try.prog.underlying 51).isSome = true := by kernel_rfl
theorem flat_52 : flatB Try.prog 52 = true := by kernel_rfl
theorem size_52 : sizeIs Try.prog 52 1 = true := by kernel_rfl
theorem zero_52 : zeroOf Try.prog 52 = some (.nilFunc) := by kernel_rfl
theorem some_52 : (Try.prog.underlying 52).isSome = true := by kernel_rfl
theorem flat_53 : flatB Try.prog 53 = true := by kernel_rfl
theorem size_53 : sizeIs Try.prog 53 1 = true := by kernel_rfl
theorem zero_53 : zeroOf Try.prog 53 = some (.slice none 0 0) := by kernel_rfl
theorem elem_53 : sliceElem Try.prog 53 = some 58 := by kernel_rfl
theorem row_53 : RowT Try.prog 53 58 3 40 (.agg #[.int .u64 0, .int .u64 0, .slice none 0 0]) := ⟨by kernel_rfl, by kernel_rfl, rfl, by decide⟩
theorem some_53 : (Try.prog.underlying 53).isSome = true := by kernel_rfl
theorem agg_54 : aggB Try.prog 54 = true := by kernel_rfl
theorem size_54 : sizeIs Try.prog 54 1 = true := by kernel_rfl
theorem zero_54 : zeroOf Try.prog 54 = some (.agg #[.slice none 0 0]) := by kernel_rfl
theorem plc_54 : placesOf Try.prog 54 = some [(0, 1)] := by kernel_rfl
theorem fld_54_0 : fieldOff Try.prog 54 0 = some 0 := by kernel_rfl
theorem some_54 : (Try.prog.underlying 54).isSome = true := by kernel_rfl
theorem agg_55 : aggB Try.prog 55 = true := by kernel_rfl
theorem size_55 : sizeIs Try.prog 55 1 = true := by kernel_rfl
theorem zero_55 : zeroOf Try.prog 55 = some (.agg #[.slice none 0 0]) := by kernel_rfl
theorem plc_55 : placesOf Try.prog 55 = some [(0, 1)] := by kernel_rfl
theorem fld_55_0 : fieldOff Try.prog 55 0 = some 0 := by kernel_rfl
theorem some_55 : (Try.prog.underlying 55).isSome = true := by kernel_rfl
theorem flat_56 : flatB Try.prog 56 = true := by kernel_rfl
theorem size_56 : sizeIs Try.prog 56 1 = true := by kernel_rfl
theorem zero_56 : zeroOf Try.prog 56 = some (.nilFunc) := by kernel_rfl
theorem some_56 : (Try.prog.underlying 56).isSome = true := by kernel_rfl
theorem agg_57 : aggB Try.prog 57 = true := by kernel_rfl
theorem size_57 : sizeIs Try.prog 57 3 = true := by kernel_rfl
theorem zero_57 : zeroOf Try.prog 57 = some (.agg #[.int .u64 0, .int .u64 0, .slice none 0 0]) := by kernel_rfl
theorem plc_57 : placesOf Try.prog 57 = some [(0, 1), (1, 1), (2, 1)] := by kernel_rfl
theorem fld_57_0 : fieldOff Try.prog 57 0 = some 0 := by kernel_rfl
theorem fld_57_1 : fieldOff Try.prog 57 1 = some 1 := by kernel_rfl
theorem fld_57_2 : fieldOff Try.prog 57 2 = some 2 := by kernel_rfl
theorem some_57 : (Try.prog.underlying 57).isSome = true := by kernel_rfl
theorem agg_58 : aggB Try.prog 58 = true := by kernel_rfl
theorem size_58 : sizeIs Try.prog 58 3 = true := by kernel_rfl
theorem zero_58 : zeroOf Try.prog 58 = some (.agg #[.int .u64 0, .int .u64 0, .slice none 0 0]) := by kernel_rfl
theorem plc_58 : placesOf Try.prog 58 = some [(0, 1), (1, 1), (2, 1)] := by kernel_rfl
theorem fld_58_0 : fieldOff Try.prog 58 0 = some 0 := by kernel_rfl
theorem fld_58_1 : fieldOff Try.prog 58 1 = some 1 := by kernel_rfl
theorem fld_58_2 : fieldOff Try.prog 58 2 = some 2 := by kernel_rfl
theorem some_58 : (Try.prog.underlying 58).isSome = true := by kernel_rfl
theorem zero_59 : zeroOf Try.prog 59 = some (.tuple #[.int .i64 0, .bool false]) := by kernel_rfl
theorem some_59 : (Try.prog.underlying 59).isSome = true := by kernel_rfl
theorem flat_60 : flatB Try.prog 60 = true := by kernel_rfl
theorem size_60 : sizeIs Try.prog 60 1 = true := by kernel_rfl
theorem zero_60 : zeroOf Try.prog 60 = some (.nilFunc) := by kernel_rfl
theorem some_60 : (Try.prog.underlying 60).isSome = true := by kernel_rfl
theorem flat_61 : flatB Try.prog 61 = true := by kernel_rfl
theorem size_61 : sizeIs Try.prog 61 1 = true := by kernel_rfl
theorem zero_61 : zeroOf Try.prog 61 = some (.nilFunc) := by kernel_rfl
theorem some_61 : (Try.prog.underlying 61).isSome = true := by kernel_rfl
theorem flat_62 : flatB Try.prog 62 = true := by kernel_rfl
theorem size_62 : sizeIs Try.prog 62 1 = true := by kernel_rfl
theorem zero_62 : zeroOf Try.prog 62 = some (.pointer none) := by kernel_rfl
theorem ptr_62 : Try.prog.underlying 62 = some (.pointer (Try.prog.pointee 62)) := by kernel_rfl
theorem some_62 : (Try.prog.underlying 62).isSome = true := by kernel_rfl
theorem agg_63 : aggB Try.prog 63 = true := by kernel_rfl
theorem size_63 : sizeIs Try.prog 63 1 = true := by kernel_rfl
theorem zero_63 : zeroOf Try.prog 63 = some (.agg #[.slice none 0 0]) := by kernel_rfl
theorem plc_63 : placesOf Try.prog 63 = some [(0, 1)] := by kernel_rfl
theorem fld_63_0 : fieldOff Try.prog 63 0 = some 0 := by kernel_rfl
theorem some_63 : (Try.prog.underlying 63).isSome = true := by kernel_rfl
theorem agg_64 : aggB Try.prog 64 = true := by kernel_rfl
theorem size_64 : sizeIs Try.prog 64 1 = true := by kernel_rfl
theorem zero_64 : zeroOf Try.prog 64 = some (.agg #[.slice none 0 0]) := by kernel_rfl
theorem plc_64 : placesOf Try.prog 64 = some [(0, 1)] := by kernel_rfl
theorem fld_64_0 : fieldOff Try.prog 64 0 = some 0 := by kernel_rfl
theorem some_64 : (Try.prog.underlying 64).isSome = true := by kernel_rfl
theorem flat_65 : flatB Try.prog 65 = true := by kernel_rfl
theorem size_65 : sizeIs Try.prog 65 1 = true := by kernel_rfl
theorem zero_65 : zeroOf Try.prog 65 = some (.nilFunc) := by kernel_rfl
theorem some_65 : (Try.prog.underlying 65).isSome = true := by kernel_rfl
theorem flat_66 : flatB Try.prog 66 = true := by kernel_rfl
theorem size_66 : sizeIs Try.prog 66 1 = true := by kernel_rfl
theorem zero_66 : zeroOf Try.prog 66 = some (.nilFunc) := by kernel_rfl
theorem some_66 : (Try.prog.underlying 66).isSome = true := by kernel_rfl
theorem agg_67 : aggB Try.prog 67 = true := by kernel_rfl
theorem size_67 : sizeIs Try.prog 67 3 = true := by kernel_rfl
theorem zero_67 : zeroOf Try.prog 67 = some (.agg #[.int .u64 0, .int .u64 0, .slice none 0 0]) := by kernel_rfl
theorem plc_67 : placesOf Try.prog 67 = some [(0, 1), (1, 1), (2, 1)] := by kernel_rfl
theorem fld_67_0 : fieldOff Try.prog 67 0 = some 0 := by kernel_rfl
theorem fld_67_1 : fieldOff Try.prog 67 1 = some 1 := by kernel_rfl
theorem fld_67_2 : fieldOff Try.prog 67 2 = some 2 := by kernel_rfl
theorem some_67 : (Try.prog.underlying 67).isSome = true := by kernel_rfl
theorem agg_68 : aggB Try.prog 68 = true := by kernel_rfl
theorem size_68 : sizeIs Try.prog 68 3 = true := by kernel_rfl
theorem zero_68 : zeroOf Try.prog 68 = some (.agg #[.int .u64 0, .int .u64 0, .slice none 0 0]) := by kernel_rfl
theorem plc_68 : placesOf Try.prog 68 = some [(0, 1), (1, 1), (2, 1)] := by kernel_rfl
theorem fld_68_0 : fieldOff Try.prog 68 0 = some 0 := by kernel_rfl
theorem fld_68_1 : fieldOff Try.prog 68 1 = some 1 := by kernel_rfl
theorem fld_68_2 : fieldOff Try.prog 68 2 = some 2 := by kernel_rfl
theorem some_68 : (Try.prog.underlying 68).isSome = true := by kernel_rfl
theorem flat_69 : flatB Try.prog 69 = true := by kernel_rfl
theorem size_69 : sizeIs Try.prog 69 1 = true := by kernel_rfl
theorem zero_69 : zeroOf Try.prog 69 = some (.pointer none) := by kernel_rfl
theorem ptr_69 : Try.prog.underlying 69 = some (.pointer (Try.prog.pointee 69)) := by kernel_rfl
theorem some_69 : (Try.prog.underlying 69).isSome = true := by kernel_rfl
theorem flat_70 : flatB Try.prog 70 = true := by kernel_rfl
theorem size_70 : sizeIs Try.prog 70 1 = true := by kernel_rfl
theorem zero_70 : zeroOf Try.prog 70 = some (.nilFunc) := by kernel_rfl
theorem some_70 : (Try.prog.underlying 70).isSome = true := by kernel_rfl
theorem flat_71 : flatB Try.prog 71 = true := by kernel_rfl
theorem size_71 : sizeIs Try.prog 71 1 = true := by kernel_rfl
theorem zero_71 : zeroOf Try.prog 71 = some (.nilFunc) := by kernel_rfl
theorem some_71 : (Try.prog.underlying 71).isSome = true := by kernel_rfl
theorem flat_72 : flatB Try.prog 72 = true := by kernel_rfl
theorem size_72 : sizeIs Try.prog 72 1 = true := by kernel_rfl
theorem zero_72 : zeroOf Try.prog 72 = some (.nilFunc) := by kernel_rfl
theorem some_72 : (Try.prog.underlying 72).isSome = true := by kernel_rfl
theorem flat_73 : flatB Try.prog 73 = true := by kernel_rfl
theorem size_73 : sizeIs Try.prog 73 1 = true := by kernel_rfl
theorem zero_73 : zeroOf Try.prog 73 = some (.nilFunc) := by kernel_rfl
theorem some_73 : (Try.prog.underlying 73).isSome = true := by kernel_rfl
theorem flat_74 : flatB Try.prog 74 = true := by kernel_rfl
theorem size_74 : sizeIs Try.prog 74 1 = true := by kernel_rfl
theorem zero_74 : zeroOf Try.prog 74 = some (.nilFunc) := by kernel_rfl
theorem some_74 : (Try.prog.underlying 74).isSome = true := by kernel_rfl
theorem flat_75 : flatB Try.prog 75 = true := by kernel_rfl
theorem size_75 : sizeIs Try.prog 75 1 = true := by kernel_rfl
theorem zero_75 : zeroOf Try.prog 75 = some (.pointer none) := by kernel_rfl
theorem ptr_75 : Try.prog.underlying 75 = some (.pointer (Try.prog.pointee 75)) := by kernel_rfl
theorem some_75 : (Try.prog.underlying 75).isSome = true := by kernel_rfl
theorem agg_76 : aggB Try.prog 76 = true := by kernel_rfl
theorem size_76 : sizeIs Try.prog 76 2 = true := by kernel_rfl
theorem zero_76 : zeroOf Try.prog 76 = some (.agg #[.slice none 0 0, .int .i64 0]) := by kernel_rfl
theorem plc_76 : placesOf Try.prog 76 = some [(0, 1), (1, 1)] := by kernel_rfl
theorem fld_76_0 : fieldOff Try.prog 76 0 = some 0 := by kernel_rfl
theorem fld_76_1 : fieldOff Try.prog 76 1 = some 1 := by kernel_rfl
theorem some_76 : (Try.prog.underlying 76).isSome = true := by kernel_rfl
theorem agg_77 : aggB Try.prog 77 = true := by kernel_rfl
theorem size_77 : sizeIs Try.prog 77 2 = true := by kernel_rfl
theorem zero_77 : zeroOf Try.prog 77 = some (.agg #[.slice none 0 0, .int .i64 0]) := by kernel_rfl
theorem plc_77 : placesOf Try.prog 77 = some [(0, 1), (1, 1)] := by kernel_rfl
theorem fld_77_0 : fieldOff Try.prog 77 0 = some 0 := by kernel_rfl
theorem fld_77_1 : fieldOff Try.prog 77 1 = some 1 := by kernel_rfl
theorem some_77 : (Try.prog.underlying 77).isSome = true := by kernel_rfl
theorem flat_78 : flatB Try.prog 78 = true := by kernel_rfl
theorem size_78 : sizeIs Try.prog 78 1 = true := by kernel_rfl
theorem zero_78 : zeroOf Try.prog 78 = some (.nilFunc) := by kernel_rfl
theorem some_78 : (Try.prog.underlying 78).isSome = true := by kernel_rfl
theorem flat_79 : flatB Try.prog 79 = true := by kernel_rfl
theorem size_79 : sizeIs Try.prog 79 1 = true := by kernel_rfl
theorem zero_79 : zeroOf Try.prog 79 = some (.nilFunc) := by kernel_rfl
theorem some_79 : (Try.prog.underlying 79).isSome = true := by kernel_rfl
theorem flat_80 : flatB Try.prog 80 = true := by kernel_rfl
theorem size_80 : sizeIs Try.prog 80 1 = true := by kernel_rfl
theorem zero_80 : zeroOf Try.prog 80 = some (.nilFunc) := by kernel_rfl
theorem some_80 : (Try.prog.underlying 80).isSome = true := by kernel_rfl
theorem flat_81 : flatB Try.prog 81 = true := by kernel_rfl
theorem size_81 : sizeIs Try.prog 81 1 = true := by kernel_rfl
theorem zero_81 : zeroOf Try.prog 81 = some (.nilFunc) := by kernel_rfl
theorem some_81 : (Try.prog.underlying 81).isSome = true := by kernel_rfl
theorem agg_82 : aggB Try.prog 82 = true := by kernel_rfl
theorem size_82 : sizeIs Try.prog 82 2 = true := by kernel_rfl
theorem zero_82 : zeroOf Try.prog 82 = some (.agg #[.slice none 0 0, .bool false]) := by kernel_rfl
theorem plc_82 : placesOf Try.prog 82 = some [(0, 1), (1, 1)] := by kernel_rfl
theorem fld_82_0 : fieldOff Try.prog 82 0 = some 0 := by kernel_rfl
theorem fld_82_1 : fieldOff Try.prog 82 1 = some 1 := by kernel_rfl
theorem some_82 : (Try.prog.underlying 82).isSome = true := by kernel_rfl
theorem agg_83 : aggB Try.prog 83 = true := by kernel_rfl
theorem size_83 : sizeIs Try.prog 83 2 = true := by kernel_rfl
theorem zero_83 : zeroOf Try.prog 83 = some (.agg #[.slice none 0 0, .bool false]) := by kernel_rfl
theorem plc_83 : placesOf Try.prog 83 = some [(0, 1), (1, 1)] := by kernel_rfl
theorem fld_83_0 : fieldOff Try.prog 83 0 = some 0 := by kernel_rfl
theorem fld_83_1 : fieldOff Try.prog 83 1 = some 1 := by kernel_rfl
theorem some_83 : (Try.prog.underlying 83).isSome = true := by kernel_rfl
theorem flat_84 : flatB Try.prog 84 = true := by kernel_rfl
theorem size_84 : sizeIs Try.prog 84 1 = true := by kernel_rfl
theorem zero_84 : zeroOf Try.prog 84 = some (.int .u64 0) := by kernel_rfl
theorem int_84 : Try.prog.underlying 84 = some (.int .u64) := by kernel_rfl
theorem some_84 : (Try.prog.underlying 84).isSome = true := by kernel_rfl
theorem flat_85 : flatB Try.prog 85 = true := by kernel_rfl
theorem size_85 : sizeIs Try.prog 85 1 = true := by kernel_rfl
theorem zero_85 : zeroOf Try.prog 85 = some (.nilFunc) := by kernel_rfl
theorem some_85 : (Try.prog.underlying 85).isSome = true := by kernel_rfl
theorem flat_86 : flatB Try.prog 86 = true := by kernel_rfl
theorem size_86 : sizeIs Try.prog 86 1 = true := by kernel_rfl
theorem zero_86 : zeroOf Try.prog 86 = some (.nilFunc) := by kernel_rfl
theorem some_86 : (Try.prog.underlying 86).isSome = true := by kernel_rfl
theorem flat_92 : flatB Try.prog 92 = true := by kernel_rfl
theorem size_92 : sizeIs Try.prog 92 1 = true := by kernel_rfl
theorem zero_92 : zeroOf Try.prog 92 = some (.int .u32 0) := by kernel_rfl
theorem int_92 : Try.prog.underlying 92 = some (.int .u32) := by kernel_rfl
theorem some_92 : (Try.prog.underlying 92).isSome = true := by kernel_rfl
theorem flat_95 : flatB Try.prog 95 = true := by kernel_rfl
theorem size_95 : sizeIs Try.prog 95 1 = true := by kernel_rfl
theorem zero_95 : zeroOf Try.prog 95 = some (.nilFunc) := by kernel_rfl
theorem some_95 : (Try.prog.underlying 95).isSome = true := by kernel_rfl
theorem flat_96 : flatB Try.prog 96 = true := by kernel_rfl
theorem size_96 : sizeIs Try.prog 96 1 = true := by kernel_rfl
theorem zero_96 : zeroOf Try.prog 96 = some (.pointer none) := by kernel_rfl
theorem ptr_96 : Try.prog.underlying 96 = some (.pointer (Try.prog.pointee 96)) := by kernel_rfl
theorem some_96 : (Try.prog.underlying 96).isSome = true := by kernel_rfl
theorem flat_101 : flatB Try.prog 101 = true := by kernel_rfl
theorem size_101 : sizeIs Try.prog 101 1 = true := by kernel_rfl
theorem zero_101 : zeroOf Try.prog 101 = some (.nilFunc) := by kernel_rfl
theorem some_101 : (Try.prog.underlying 101).isSome = true := by kernel_rfl
theorem flat_102 : flatB Try.prog 102 = true := by kernel_rfl
theorem zero_102 : zeroOf Try.prog 102 = some (.pointer none) := by kernel_rfl
theorem some_102 : (Try.prog.underlying 102).isSome = true := by kernel_rfl
theorem body_3 : hasBody Try.prog 3 = true := by kernel_rfl
theorem body_4 : hasBody Try.prog 4 = true := by kernel_rfl
theorem body_5 : hasBody Try.prog 5 = true := by kernel_rfl
theorem body_6 : hasBody Try.prog 6 = true := by kernel_rfl
theorem body_7 : hasBody Try.prog 7 = true := by kernel_rfl
theorem body_8 : hasBody Try.prog 8 = true := by kernel_rfl
theorem body_9 : hasBody Try.prog 9 = true := by kernel_rfl
theorem body_10 : hasBody Try.prog 10 = true := by kernel_rfl
theorem body_11 : hasBody Try.prog 11 = true := by kernel_rfl
theorem body_12 : hasBody Try.prog 12 = true := by kernel_rfl
theorem body_13 : hasBody Try.prog 13 = true := by kernel_rfl
theorem body_14 : hasBody Try.prog 14 = true := by kernel_rfl
theorem body_15 : hasBody Try.prog 15 = true := by kernel_rfl
theorem body_16 : hasBody Try.prog 16 = true := by kernel_rfl
theorem body_17 : hasBody Try.prog 17 = true := by kernel_rfl
theorem body_18 : hasBody Try.prog 18 = true := by kernel_rfl
theorem body_19 : hasBody Try.prog 19 = true := by kernel_rfl
theorem body_20 : hasBody Try.prog 20 = true := by kernel_rfl
theorem body_21 : hasBody Try.prog 21 = true := by kernel_rfl
theorem body_22 : hasBody Try.prog 22 = true := by kernel_rfl
theorem body_23 : hasBody Try.prog 23 = true := by kernel_rfl
theorem body_24 : hasBody Try.prog 24 = true := by kernel_rfl
theorem body_25 : hasBody Try.prog 25 = true := by kernel_rfl
theorem body_26 : hasBody Try.prog 26 = true := by kernel_rfl
theorem body_27 : hasBody Try.prog 27 = true := by kernel_rfl
theorem body_28 : hasBody Try.prog 28 = true := by kernel_rfl
theorem body_29 : hasBody Try.prog 29 = true := by kernel_rfl
theorem body_30 : hasBody Try.prog 30 = true := by kernel_rfl
theorem body_31 : hasBody Try.prog 31 = true := by kernel_rfl
theorem body_32 : hasBody Try.prog 32 = true := by kernel_rfl
theorem body_33 : hasBody Try.prog 33 = true := by kernel_rfl
theorem body_34 : hasBody Try.prog 34 = true := by kernel_rfl
theorem body_35 : hasBody Try.prog 35 = true := by kernel_rfl
theorem body_36 : hasBody Try.prog 36 = true := by kernel_rfl
theorem body_37 : hasBody Try.prog 37 = true := by kernel_rfl
theorem body_38 : hasBody Try.prog 38 = true := by kernel_rfl
theorem body_39 : hasBody Try.prog 39 = true := by kernel_rfl
theorem body_41 : hasBody Try.prog 41 = true := by kernel_rfl
theorem body_42 : hasBody Try.prog 42 = true := by kernel_rfl
theorem body_43 : hasBody Try.prog 43 = true := by kernel_rfl
theorem mixed : Try.prog.follows .mixedOrders = true := by kernel_rfl
end Go.Proofs.Ytipabhbnljadfaa
