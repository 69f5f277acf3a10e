/-
  Closed facts on the types and functions of this seat, by a program of this work (tab.py).
-/
import Derived.Test.YtncakfcafkfmfaaFg
import Derived.Test.YtncakfcafkfmfaaChecked
import Derived.KernelRfl
namespace Go.Proofs.Ytncakfcafkfmfaa

theorem zero_0 : zeroOf Try.prog 0 = some (.tuple #[]) := by kernel_rfl
theorem some_0 : (Try.prog.underlying 0).isSome = true := by kernel_rfl
theorem flat_1 : flatB Try.prog 1 = true := by kernel_rfl
theorem size_1 : sizeIs Try.prog 1 1 = true := by kernel_rfl
theorem zero_1 : zeroOf Try.prog 1 = some (.nilFunc) := by kernel_rfl
theorem some_1 : (Try.prog.underlying 1).isSome = true := by kernel_rfl
theorem flat_2 : flatB Try.prog 2 = true := by kernel_rfl
theorem size_2 : sizeIs Try.prog 2 1 = true := by kernel_rfl
theorem zero_2 : zeroOf Try.prog 2 = some (.int .i64 0) := by kernel_rfl
theorem int_2 : Try.prog.underlying 2 = some (.int .i64) := by kernel_rfl
theorem some_2 : (Try.prog.underlying 2).isSome = true := by kernel_rfl
theorem flat_3 : flatB Try.prog 3 = true := by kernel_rfl
theorem size_3 : sizeIs Try.prog 3 1 = true := by kernel_rfl
theorem zero_3 : zeroOf Try.prog 3 = some (.int .i64 0) := by kernel_rfl
theorem int_3 : Try.prog.underlying 3 = some (.int .i64) := by kernel_rfl
theorem some_3 : (Try.prog.underlying 3).isSome = true := by kernel_rfl
theorem flat_4 : flatB Try.prog 4 = true := by kernel_rfl
theorem size_4 : sizeIs Try.prog 4 1 = true := by kernel_rfl
theorem zero_4 : zeroOf Try.prog 4 = some (.bool false) := by kernel_rfl
theorem bool_4 : Try.prog.underlying 4 = some .bool := by kernel_rfl
theorem some_4 : (Try.prog.underlying 4).isSome = true := by kernel_rfl
theorem flat_5 : flatB Try.prog 5 = true := by kernel_rfl
theorem size_5 : sizeIs Try.prog 5 1 = true := by kernel_rfl
theorem zero_5 : zeroOf Try.prog 5 = some (.int .u8 0) := by kernel_rfl
theorem int_5 : Try.prog.underlying 5 = some (.int .u8) := by kernel_rfl
theorem some_5 : (Try.prog.underlying 5).isSome = true := by kernel_rfl
theorem flat_9 : flatB Try.prog 9 = true := by kernel_rfl
theorem size_9 : sizeIs Try.prog 9 1 = true := by kernel_rfl
theorem zero_9 : zeroOf Try.prog 9 = some (.string ⟨#[]⟩) := by kernel_rfl
theorem str_9 : Try.prog.underlying 9 = some .string := by kernel_rfl
theorem some_9 : (Try.prog.underlying 9).isSome = true := by kernel_rfl
theorem flat_12 : flatB Try.prog 12 = true := by kernel_rfl
theorem size_12 : sizeIs Try.prog 12 1 = true := by kernel_rfl
theorem zero_12 : zeroOf Try.prog 12 = some (.int .u64 0) := by kernel_rfl
theorem int_12 : Try.prog.underlying 12 = some (.int .u64) := by kernel_rfl
theorem some_12 : (Try.prog.underlying 12).isSome = true := by kernel_rfl
theorem agg_13 : aggB Try.prog 13 = true := by kernel_rfl
theorem size_13 : sizeIs Try.prog 13 2 = true := by kernel_rfl
theorem zero_13 : zeroOf Try.prog 13 = some (.agg #[.string ⟨#[]⟩, .int .u64 0]) := by kernel_rfl
theorem plc_13 : placesOf Try.prog 13 = some [(0, 1), (1, 1)] := by kernel_rfl
theorem fld_13_0 : fieldOff Try.prog 13 0 = some 0 := by kernel_rfl
theorem fld_13_1 : fieldOff Try.prog 13 1 = some 1 := by kernel_rfl
theorem some_13 : (Try.prog.underlying 13).isSome = true := by kernel_rfl
theorem flat_20 : flatB Try.prog 20 = true := by kernel_rfl
theorem size_20 : sizeIs Try.prog 20 1 = true := by kernel_rfl
theorem zero_20 : zeroOf Try.prog 20 = some (.nilIface) := by kernel_rfl
theorem some_20 : (Try.prog.underlying 20).isSome = true := by kernel_rfl
theorem flat_21 : flatB Try.prog 21 = true := by kernel_rfl
theorem size_21 : sizeIs Try.prog 21 1 = true := by kernel_rfl
theorem zero_21 : zeroOf Try.prog 21 = some (.int .i32 0) := by kernel_rfl
theorem int_21 : Try.prog.underlying 21 = some (.int .i32) := by kernel_rfl
theorem some_21 : (Try.prog.underlying 21).isSome = true := by kernel_rfl
theorem flat_22 : flatB Try.prog 22 = true := by kernel_rfl
theorem size_22 : sizeIs Try.prog 22 1 = true := by kernel_rfl
theorem zero_22 : zeroOf Try.prog 22 = some (.nilFunc) := by kernel_rfl
theorem some_22 : (Try.prog.underlying 22).isSome = true := by kernel_rfl
theorem flat_23 : flatB Try.prog 23 = true := by kernel_rfl
theorem size_23 : sizeIs Try.prog 23 1 = true := by kernel_rfl
theorem zero_23 : zeroOf Try.prog 23 = some (.pointer none) := by kernel_rfl
theorem ptr_23 : Try.prog.underlying 23 = some (.pointer (Try.prog.pointee 23)) := by kernel_rfl
theorem some_23 : (Try.prog.underlying 23).isSome = true := by kernel_rfl
theorem flat_24 : flatB Try.prog 24 = true := by kernel_rfl
theorem size_24 : sizeIs Try.prog 24 1 = true := by kernel_rfl
theorem zero_24 : zeroOf Try.prog 24 = some (.nilFunc) := by kernel_rfl
theorem some_24 : (Try.prog.underlying 24).isSome = true := by kernel_rfl
theorem flat_25 : flatB Try.prog 25 = true := by kernel_rfl
theorem size_25 : sizeIs Try.prog 25 1 = true := by kernel_rfl
theorem zero_25 : zeroOf Try.prog 25 = some (.nilFunc) := by kernel_rfl
theorem some_25 : (Try.prog.underlying 25).isSome = true := by kernel_rfl
theorem flat_26 : flatB Try.prog 26 = true := by kernel_rfl
theorem size_26 : sizeIs Try.prog 26 1 = true := by kernel_rfl
theorem zero_26 : zeroOf Try.prog 26 = some (.slice none 0 0) := by kernel_rfl
theorem elem_26 : sliceElem Try.prog 26 = some 28 := by kernel_rfl
theorem row_26 : RowT Try.prog 26 28 3 48 (.agg #[.string ⟨#[]⟩, .int .i64 0, .slice none 0 0]) := ⟨by kernel_rfl, by kernel_rfl, rfl, by decide⟩
theorem some_26 : (Try.prog.underlying 26).isSome = true := by kernel_rfl
theorem agg_27 : aggB Try.prog 27 = true := by kernel_rfl
theorem size_27 : sizeIs Try.prog 27 3 = true := by kernel_rfl
theorem zero_27 : zeroOf Try.prog 27 = some (.agg #[.string ⟨#[]⟩, .int .i64 0, .slice none 0 0]) := by kernel_rfl
theorem plc_27 : placesOf Try.prog 27 = some [(0, 1), (1, 1), (2, 1)] := by kernel_rfl
theorem fld_27_0 : fieldOff Try.prog 27 0 = some 0 := by kernel_rfl
theorem fld_27_1 : fieldOff Try.prog 27 1 = some 1 := by kernel_rfl
theorem fld_27_2 : fieldOff Try.prog 27 2 = some 2 := by kernel_rfl
theorem some_27 : (Try.prog.underlying 27).isSome = true := by kernel_rfl
theorem agg_28 : aggB Try.prog 28 = true := by kernel_rfl
theorem size_28 : sizeIs Try.prog 28 3 = true := by kernel_rfl
theorem zero_28 : zeroOf Try.prog 28 = some (.agg #[.string ⟨#[]⟩, .int .i64 0, .slice none 0 0]) := by kernel_rfl
theorem plc_28 : placesOf Try.prog 28 = some [(0, 1), (1, 1), (2, 1)] := by kernel_rfl
theorem fld_28_0 : fieldOff Try.prog 28 0 = some 0 := by kernel_rfl
theorem fld_28_1 : fieldOff Try.prog 28 1 = some 1 := by kernel_rfl
theorem fld_28_2 : fieldOff Try.prog 28 2 = some 2 := by kernel_rfl
theorem some_28 : (Try.prog.underlying 28).isSome = true := by kernel_rfl
theorem flat_29 : flatB Try.prog 29 = true := by kernel_rfl
theorem size_29 : sizeIs Try.prog 29 1 = true := by kernel_rfl
theorem zero_29 : zeroOf Try.prog 29 = some (.nilFunc) := by kernel_rfl
theorem some_29 : (Try.prog.underlying 29).isSome = true := by kernel_rfl
theorem flat_30 : flatB Try.prog 30 = true := by kernel_rfl
theorem size_30 : sizeIs Try.prog 30 1 = true := by kernel_rfl
theorem zero_30 : zeroOf Try.prog 30 = some (.nilFunc) := by kernel_rfl
theorem some_30 : (Try.prog.underlying 30).isSome = true := by kernel_rfl
theorem flat_31 : flatB Try.prog 31 = true := by kernel_rfl
theorem size_31 : sizeIs Try.prog 31 1 = true := by kernel_rfl
theorem zero_31 : zeroOf Try.prog 31 = some (.nilFunc) := by kernel_rfl
theorem some_31 : (Try.prog.underlying 31).isSome = true := by kernel_rfl
theorem flat_32 : flatB Try.prog 32 = true := by kernel_rfl
theorem size_32 : sizeIs Try.prog 32 1 = true := by kernel_rfl
theorem zero_32 : zeroOf Try.prog 32 = some (.nilFunc) := by kernel_rfl
theorem some_32 : (Try.prog.underlying 32).isSome = true := by kernel_rfl
theorem flat_33 : flatB Try.prog 33 = true := by kernel_rfl
theorem size_33 : sizeIs Try.prog 33 1 = true := by kernel_rfl
theorem zero_33 : zeroOf Try.prog 33 = some (.slice none 0 0) := by kernel_rfl
theorem elem_33 : sliceElem Try.prog 33 = some 3 := by kernel_rfl
theorem row_33 : RowT Try.prog 33 3 1 8 (.int .i64 0) := ⟨by kernel_rfl, by kernel_rfl, rfl, by decide⟩
theorem some_33 : (Try.prog.underlying 33).isSome = true := by kernel_rfl
theorem flat_34 : flatB Try.prog 34 = true := by kernel_rfl
theorem size_34 : sizeIs Try.prog 34 1 = true := by kernel_rfl
theorem zero_34 : zeroOf Try.prog 34 = some (.nilFunc) := by kernel_rfl
theorem some_34 : (Try.prog.underlying 34).isSome = true := by kernel_rfl
theorem flat_35 : flatB Try.prog 35 = true := by kernel_rfl
theorem size_35 : sizeIs Try.prog 35 1 = true := by kernel_rfl
theorem zero_35 : zeroOf Try.prog 35 = some (.nilFunc) := by kernel_rfl
theorem some_35 : (Try.prog.underlying 35).isSome = true := by kernel_rfl
theorem flat_36 : flatB Try.prog 36 = true := by kernel_rfl
theorem size_36 : sizeIs Try.prog 36 1 = true := by kernel_rfl
theorem zero_36 : zeroOf Try.prog 36 = some (.nilFunc) := by kernel_rfl
theorem some_36 : (Try.prog.underlying 36).isSome = true := by kernel_rfl
theorem flat_37 : flatB Try.prog 37 = true := by kernel_rfl
theorem size_37 : sizeIs Try.prog 37 1 = true := by kernel_rfl
theorem zero_37 : zeroOf Try.prog 37 = some (.slice none 0 0) := by kernel_rfl
theorem elem_37 : sliceElem Try.prog 37 = some 39 := by kernel_rfl
theorem row_37 : RowT Try.prog 37 39 6 96 (.agg #[.string ⟨#[]⟩, .int .i64 0, .slice none 0 0, .string ⟨#[]⟩, .int .i64 0, .slice none 0 0]) := ⟨by kernel_rfl, by kernel_rfl, rfl, by decide⟩
theorem some_37 : (Try.prog.underlying 37).isSome = true := by kernel_rfl
theorem agg_38 : aggB Try.prog 38 = true := by kernel_rfl
theorem size_38 : sizeIs Try.prog 38 6 = true := by kernel_rfl
theorem zero_38 : zeroOf Try.prog 38 = some (.agg #[.string ⟨#[]⟩, .int .i64 0, .slice none 0 0, .string ⟨#[]⟩, .int .i64 0, .slice none 0 0]) := by kernel_rfl
theorem plc_38 : placesOf Try.prog 38 = some [(0, 3), (3, 3)] := by kernel_rfl
theorem fld_38_0 : fieldOff Try.prog 38 0 = some 0 := by kernel_rfl
theorem fld_38_1 : fieldOff Try.prog 38 1 = some 3 := by kernel_rfl
theorem some_38 : (Try.prog.underlying 38).isSome = true := by kernel_rfl
theorem agg_39 : aggB Try.prog 39 = true := by kernel_rfl
theorem size_39 : sizeIs Try.prog 39 6 = true := by kernel_rfl
theorem zero_39 : zeroOf Try.prog 39 = some (.agg #[.string ⟨#[]⟩, .int .i64 0, .slice none 0 0, .string ⟨#[]⟩, .int .i64 0, .slice none 0 0]) := by kernel_rfl
theorem plc_39 : placesOf Try.prog 39 = some [(0, 3), (3, 3)] := by kernel_rfl
theorem fld_39_0 : fieldOff Try.prog 39 0 = some 0 := by kernel_rfl
theorem fld_39_1 : fieldOff Try.prog 39 1 = some 3 := by kernel_rfl
theorem some_39 : (Try.prog.underlying 39).isSome = true := by kernel_rfl
theorem flat_40 : flatB Try.prog 40 = true := by kernel_rfl
theorem size_40 : sizeIs Try.prog 40 1 = true := by kernel_rfl
theorem zero_40 : zeroOf Try.prog 40 = some (.nilFunc) := by kernel_rfl
theorem some_40 : (Try.prog.underlying 40).isSome = true := by kernel_rfl
theorem flat_41 : flatB Try.prog 41 = true := by kernel_rfl
theorem size_41 : sizeIs Try.prog 41 1 = true := by kernel_rfl
theorem zero_41 : zeroOf Try.prog 41 = some (.nilFunc) := by kernel_rfl
theorem some_41 : (Try.prog.underlying 41).isSome = true := by kernel_rfl
theorem flat_42 : flatB Try.prog 42 = true := by kernel_rfl
theorem size_42 : sizeIs Try.prog 42 1 = true := by kernel_rfl
theorem zero_42 : zeroOf Try.prog 42 = some (.nilFunc) := by kernel_rfl
theorem some_42 : (Try.prog.underlying 42).isSome = true := by kernel_rfl
theorem flat_43 : flatB Try.prog 43 = true := by kernel_rfl
theorem size_43 : sizeIs Try.prog 43 1 = true := by kernel_rfl
theorem zero_43 : zeroOf Try.prog 43 = some (.pointer none) := by kernel_rfl
theorem ptr_43 : Try.prog.underlying 43 = some (.pointer (Try.prog.pointee 43)) := by kernel_rfl
theorem some_43 : (Try.prog.underlying 43).isSome = true := by kernel_rfl
theorem flat_44 : flatB Try.prog 44 = true := by kernel_rfl
theorem size_44 : sizeIs Try.prog 44 1 = true := by kernel_rfl
theorem zero_44 : zeroOf Try.prog 44 = some (.slice none 0 0) := by kernel_rfl
theorem elem_44 : sliceElem Try.prog 44 = some 60 := by kernel_rfl
theorem row_44 : RowT Try.prog 44 60 2 16 (.agg #[.int .i64 0, .int .i64 0]) := ⟨by kernel_rfl, by kernel_rfl, rfl, by decide⟩
theorem some_44 : (Try.prog.underlying 44).isSome = true := by kernel_rfl
theorem agg_45 : aggB Try.prog 45 = true := by kernel_rfl
theorem size_45 : sizeIs Try.prog 45 4 = true := by kernel_rfl
theorem zero_45 : zeroOf Try.prog 45 = some (.agg #[.int .i64 0, .slice none 0 0, .slice none 0 0, .slice none 0 0]) := by kernel_rfl
theorem plc_45 : placesOf Try.prog 45 = some [(0, 1), (1, 1), (2, 1), (3, 1)] := by kernel_rfl
theorem fld_45_0 : fieldOff Try.prog 45 0 = some 0 := by kernel_rfl
theorem fld_45_1 : fieldOff Try.prog 45 1 = some 1 := by kernel_rfl
theorem fld_45_2 : fieldOff Try.prog 45 2 = some 2 := by kernel_rfl
theorem fld_45_3 : fieldOff Try.prog 45 3 = some 3 := by kernel_rfl
theorem some_45 : (Try.prog.underlying 45).isSome = true := by kernel_rfl
theorem agg_46 : aggB Try.prog 46 = true := by kernel_rfl
theorem size_46 : sizeIs Try.prog 46 4 = true := by kernel_rfl
theorem zero_46 : zeroOf Try.prog 46 = some (.agg #[.int .i64 0, .slice none 0 0, .slice none 0 0, .slice none 0 0]) := by kernel_rfl
theorem plc_46 : placesOf Try.prog 46 = some [(0, 1), (1, 1), (2, 1), (3, 1)] := by kernel_rfl
theorem fld_46_0 : fieldOff Try.prog 46 0 = some 0 := by kernel_rfl
theorem fld_46_1 : fieldOff Try.prog 46 1 = some 1 := by kernel_rfl
theorem fld_46_2 : fieldOff Try.prog 46 2 = some 2 := by kernel_rfl
theorem fld_46_3 : fieldOff Try.prog 46 3 = some 3 := by kernel_rfl
theorem some_46 : (Try.prog.underlying 46).isSome = true := by kernel_rfl
theorem flat_47 : flatB Try.prog 47 = true := by kernel_rfl
theorem size_47 : sizeIs Try.prog 47 1 = true := by kernel_rfl
theorem zero_47 : zeroOf Try.prog 47 = some (.nilFunc) := by kernel_rfl
theorem some_47 : (Try.prog.underlying 47).isSome = true := by kernel_rfl
theorem agg_48 : aggB Try.prog 48 = true := by kernel_rfl
theorem size_48 : sizeIs Try.prog 48 4 = true := by kernel_rfl
theorem zero_48 : zeroOf Try.prog 48 = some (.agg #[.int .i64 0, .string ⟨#[]⟩, .int .i64 0, .slice none 0 0]) := by kernel_rfl
theorem plc_48 : placesOf Try.prog 48 = some [(0, 1), (1, 3)] := by kernel_rfl
theorem fld_48_0 : fieldOff Try.prog 48 0 = some 0 := by kernel_rfl
theorem fld_48_1 : fieldOff Try.prog 48 1 = some 1 := by kernel_rfl
theorem some_48 : (Try.prog.underlying 48).isSome = true := by kernel_rfl
theorem agg_49 : aggB Try.prog 49 = true := by kernel_rfl
theorem size_49 : sizeIs Try.prog 49 4 = true := by kernel_rfl
theorem zero_49 : zeroOf Try.prog 49 = some (.agg #[.int .i64 0, .string ⟨#[]⟩, .int .i64 0, .slice none 0 0]) := by kernel_rfl
theorem plc_49 : placesOf Try.prog 49 = some [(0, 1), (1, 3)] := by kernel_rfl
theorem fld_49_0 : fieldOff Try.prog 49 0 = some 0 := by kernel_rfl
theorem fld_49_1 : fieldOff Try.prog 49 1 = some 1 := by kernel_rfl
theorem some_49 : (Try.prog.underlying 49).isSome = true := by kernel_rfl
theorem flat_50 : flatB Try.prog 50 = true := by kernel_rfl
theorem size_50 : sizeIs Try.prog 50 1 = true := by kernel_rfl
theorem zero_50 : zeroOf Try.prog 50 = some (.nilFunc) := by kernel_rfl
theorem some_50 : (Try.prog.underlying 50).isSome = true := by kernel_rfl
theorem flat_51 : flatB Try.prog 51 = true := by kernel_rfl
theorem size_51 : sizeIs Try.prog 51 1 = true := by kernel_rfl
theorem zero_51 : zeroOf Try.prog 51 = some (.nilFunc) := by kernel_rfl
theorem some_51 : (Try.prog.underlying 51).isSome = true := by kernel_rfl
theorem flat_52 : flatB Try.prog 52 = true := by kernel_rfl
theorem size_52 : sizeIs Try.prog 52 1 = true := by kernel_rfl
theorem zero_52 : zeroOf Try.prog 52 = some (.nilFunc) := by kernel_rfl
theorem some_52 : (Try.prog.underlying 52).isSome = true := by kernel_rfl
theorem zero_53 : zeroOf Try.prog 53 = some (.tuple #[.agg #[.int .i64 0, .string ⟨#[]⟩, .int .i64 0, .slice none 0 0], .slice none 0 0]) := by kernel_rfl
theorem some_53 : (Try.prog.underlying 53).isSome = true := by kernel_rfl
theorem flat_54 : flatB Try.prog 54 = true := by kernel_rfl
theorem size_54 : sizeIs Try.prog 54 1 = true := by kernel_rfl
theorem zero_54 : zeroOf Try.prog 54 = some (.nilFunc) := by kernel_rfl
theorem some_54 : (Try.prog.underlying 54).isSome = true := by kernel_rfl
theorem flat_55 : flatB Try.prog 55 = true := by kernel_rfl
theorem size_55 : sizeIs Try.prog 55 1 = true := by kernel_rfl
theorem zero_55 : zeroOf Try.prog 55 = some (.nilFunc) := by kernel_rfl
theorem some_55 : (Try.prog.underlying 55).isSome = true := by kernel_rfl
theorem flat_56 : flatB Try.prog 56 = true := by kernel_rfl
theorem size_56 : sizeIs Try.prog 56 1 = true := by kernel_rfl
theorem zero_56 : zeroOf Try.prog 56 = some (.map none) := by kernel_rfl
theorem map_56 : Try.prog.underlying 56 = some (.map 3 28) := by kernel_rfl
theorem some_56 : (Try.prog.underlying 56).isSome = true := by kernel_rfl
theorem flat_57 : flatB Try.prog 57 = true := by kernel_rfl
theorem size_57 : sizeIs Try.prog 57 1 = true := by kernel_rfl
theorem zero_57 : zeroOf Try.prog 57 = some (.map none) := by kernel_rfl
theorem map_57 : Try.prog.underlying 57 = some (.map 60 4) := by kernel_rfl
theorem some_57 : (Try.prog.underlying 57).isSome = true := by kernel_rfl
theorem agg_58 : aggB Try.prog 58 = true := by kernel_rfl
theorem size_58 : sizeIs Try.prog 58 3 = true := by kernel_rfl
theorem zero_58 : zeroOf Try.prog 58 = some (.agg #[.map none, .int .i64 0, .map none]) := by kernel_rfl
theorem plc_58 : placesOf Try.prog 58 = some [(0, 1), (1, 1), (2, 1)] := by kernel_rfl
theorem fld_58_0 : fieldOff Try.prog 58 0 = some 0 := by kernel_rfl
theorem fld_58_1 : fieldOff Try.prog 58 1 = some 1 := by kernel_rfl
theorem fld_58_2 : fieldOff Try.prog 58 2 = some 2 := by kernel_rfl
theorem some_58 : (Try.prog.underlying 58).isSome = true := by kernel_rfl
theorem agg_59 : aggB Try.prog 59 = true := by kernel_rfl
theorem size_59 : sizeIs Try.prog 59 3 = true := by kernel_rfl
theorem zero_59 : zeroOf Try.prog 59 = some (.agg #[.map none, .int .i64 0, .map none]) := by kernel_rfl
theorem plc_59 : placesOf Try.prog 59 = some [(0, 1), (1, 1), (2, 1)] := by kernel_rfl
theorem fld_59_0 : fieldOff Try.prog 59 0 = some 0 := by kernel_rfl
theorem fld_59_1 : fieldOff Try.prog 59 1 = some 1 := by kernel_rfl
theorem fld_59_2 : fieldOff Try.prog 59 2 = some 2 := by kernel_rfl
theorem some_59 : (Try.prog.underlying 59).isSome = true := by kernel_rfl
theorem agg_60 : aggB Try.prog 60 = true := by kernel_rfl
theorem size_60 : sizeIs Try.prog 60 2 = true := by kernel_rfl
theorem zero_60 : zeroOf Try.prog 60 = some (.agg #[.int .i64 0, .int .i64 0]) := by kernel_rfl
theorem arrz_60 : arrayOf Try.prog 60 = some 1 := by kernel_rfl
theorem arr_60 : Try.prog.underlying 60 = some (.array 2 3) := by kernel_rfl
theorem some_60 : (Try.prog.underlying 60).isSome = true := by kernel_rfl
theorem flat_61 : flatB Try.prog 61 = true := by kernel_rfl
theorem size_61 : sizeIs Try.prog 61 1 = true := by kernel_rfl
theorem zero_61 : zeroOf Try.prog 61 = some (.nilFunc) := by kernel_rfl
theorem some_61 : (Try.prog.underlying 61).isSome = true := by kernel_rfl
theorem flat_62 : flatB Try.prog 62 = true := by kernel_rfl
theorem size_62 : sizeIs Try.prog 62 1 = true := by kernel_rfl
theorem zero_62 : zeroOf Try.prog 62 = some (.nilFunc) := by kernel_rfl
theorem some_62 : (Try.prog.underlying 62).isSome = true := by kernel_rfl
theorem flat_63 : flatB Try.prog 63 = true := by kernel_rfl
theorem size_63 : sizeIs Try.prog 63 1 = true := by kernel_rfl
theorem zero_63 : zeroOf Try.prog 63 = some (.nilFunc) := by kernel_rfl
theorem some_63 : (Try.prog.underlying 63).isSome = true := by kernel_rfl
theorem flat_64 : flatB Try.prog 64 = true := by kernel_rfl
theorem size_64 : sizeIs Try.prog 64 1 = true := by kernel_rfl
theorem zero_64 : zeroOf Try.prog 64 = some (.nilFunc) := by kernel_rfl
theorem some_64 : (Try.prog.underlying 64).isSome = true := by kernel_rfl
theorem flat_65 : flatB Try.prog 65 = true := by kernel_rfl
theorem size_65 : sizeIs Try.prog 65 1 = true := by kernel_rfl
theorem zero_65 : zeroOf Try.prog 65 = some (.nilFunc) := by kernel_rfl
theorem some_65 : (Try.prog.underlying 65).isSome = true := by kernel_rfl
theorem flat_66 : flatB Try.prog 66 = true := by kernel_rfl
theorem size_66 : sizeIs Try.prog 66 1 = true := by kernel_rfl
theorem zero_66 : zeroOf Try.prog 66 = some (.nilFunc) := by kernel_rfl
theorem some_66 : (Try.prog.underlying 66).isSome = true := by kernel_rfl
theorem flat_67 : flatB Try.prog 67 = true := by kernel_rfl
theorem size_67 : sizeIs Try.prog 67 1 = true := by kernel_rfl
theorem zero_67 : zeroOf Try.prog 67 = some (.nilFunc) := by kernel_rfl
theorem some_67 : (Try.prog.underlying 67).isSome = true := by kernel_rfl
theorem flat_68 : flatB Try.prog 68 = true := by kernel_rfl
theorem size_68 : sizeIs Try.prog 68 1 = true := by kernel_rfl
theorem zero_68 : zeroOf Try.prog 68 = some (.nilFunc) := by kernel_rfl
theorem some_68 : (Try.prog.underlying 68).isSome = true := by kernel_rfl
theorem flat_69 : flatB Try.prog 69 = true := by kernel_rfl
theorem size_69 : sizeIs Try.prog 69 1 = true := by kernel_rfl
theorem zero_69 : zeroOf Try.prog 69 = some (.nilFunc) := by kernel_rfl
theorem some_69 : (Try.prog.underlying 69).isSome = true := by kernel_rfl
theorem flat_70 : flatB Try.prog 70 = true := by kernel_rfl
theorem size_70 : sizeIs Try.prog 70 1 = true := by kernel_rfl
theorem zero_70 : zeroOf Try.prog 70 = some (.nilFunc) := by kernel_rfl
theorem some_70 : (Try.prog.underlying 70).isSome = true := by kernel_rfl
theorem zero_71 : zeroOf Try.prog 71 = some (.tuple #[.agg #[.string ⟨#[]⟩, .int .i64 0, .slice none 0 0], .bool false]) := by kernel_rfl
theorem some_71 : (Try.prog.underlying 71).isSome = true := by kernel_rfl
theorem flat_72 : flatB Try.prog 72 = true := by kernel_rfl
theorem size_72 : sizeIs Try.prog 72 1 = true := by kernel_rfl
theorem zero_72 : zeroOf Try.prog 72 = some (.map none) := by kernel_rfl
theorem map_72 : Try.prog.underlying 72 = some (.map 3 4) := by kernel_rfl
theorem some_72 : (Try.prog.underlying 72).isSome = true := by kernel_rfl
theorem flat_73 : flatB Try.prog 73 = true := by kernel_rfl
theorem size_73 : sizeIs Try.prog 73 1 = true := by kernel_rfl
theorem zero_73 : zeroOf Try.prog 73 = some (.nilFunc) := by kernel_rfl
theorem some_73 : (Try.prog.underlying 73).isSome = true := by kernel_rfl
theorem flat_74 : flatB Try.prog 74 = true := by kernel_rfl
theorem size_74 : sizeIs Try.prog 74 1 = true := by kernel_rfl
theorem zero_74 : zeroOf Try.prog 74 = some (.nilFunc) := by kernel_rfl
theorem some_74 : (Try.prog.underlying 74).isSome = true := by kernel_rfl
theorem flat_75 : flatB Try.prog 75 = true := by kernel_rfl
theorem size_75 : sizeIs Try.prog 75 1 = true := by kernel_rfl
theorem zero_75 : zeroOf Try.prog 75 = some (.pointer none) := by kernel_rfl
theorem ptr_75 : Try.prog.underlying 75 = some (.pointer (Try.prog.pointee 75)) := by kernel_rfl
theorem some_75 : (Try.prog.underlying 75).isSome = true := by kernel_rfl
theorem flat_76 : flatB Try.prog 76 = true := by kernel_rfl
theorem size_76 : sizeIs Try.prog 76 1 = true := by kernel_rfl
theorem zero_76 : zeroOf Try.prog 76 = some (.nilFunc) := by kernel_rfl
theorem some_76 : (Try.prog.underlying 76).isSome = true := by kernel_rfl
theorem flat_77 : flatB Try.prog 77 = true := by kernel_rfl
theorem size_77 : sizeIs Try.prog 77 1 = true := by kernel_rfl
theorem zero_77 : zeroOf Try.prog 77 = some (.nilFunc) := by kernel_rfl
theorem some_77 : (Try.prog.underlying 77).isSome = true := by kernel_rfl
theorem flat_78 : flatB Try.prog 78 = true := by kernel_rfl
theorem size_78 : sizeIs Try.prog 78 1 = true := by kernel_rfl
theorem zero_78 : zeroOf Try.prog 78 = some (.nilFunc) := by kernel_rfl
theorem some_78 : (Try.prog.underlying 78).isSome = true := by kernel_rfl
theorem flat_84 : flatB Try.prog 84 = true := by kernel_rfl
theorem size_84 : sizeIs Try.prog 84 1 = true := by kernel_rfl
theorem zero_84 : zeroOf Try.prog 84 = some (.nilFunc) := by kernel_rfl
theorem some_84 : (Try.prog.underlying 84).isSome = true := by kernel_rfl
theorem flat_85 : flatB Try.prog 85 = true := by kernel_rfl
theorem size_85 : sizeIs Try.prog 85 1 = true := by kernel_rfl
theorem zero_85 : zeroOf Try.prog 85 = some (.int .u32 0) := by kernel_rfl
theorem int_85 : Try.prog.underlying 85 = some (.int .u32) := by kernel_rfl
theorem some_85 : (Try.prog.underlying 85).isSome = true := by kernel_rfl
theorem flat_88 : flatB Try.prog 88 = true := by kernel_rfl
theorem size_88 : sizeIs Try.prog 88 1 = true := by kernel_rfl
theorem zero_88 : zeroOf Try.prog 88 = some (.nilFunc) := by kernel_rfl
theorem some_88 : (Try.prog.underlying 88).isSome = true := by kernel_rfl
theorem flat_89 : flatB Try.prog 89 = true := by kernel_rfl
theorem size_89 : sizeIs Try.prog 89 1 = true := by kernel_rfl
theorem zero_89 : zeroOf Try.prog 89 = some (.pointer none) := by kernel_rfl
theorem ptr_89 : Try.prog.underlying 89 = some (.pointer (Try.prog.pointee 89)) := by kernel_rfl
theorem some_89 : (Try.prog.underlying 89).isSome = true := by kernel_rfl
theorem flat_94 : flatB Try.prog 94 = true := by kernel_rfl
theorem zero_94 : zeroOf Try.prog 94 = some (.pointer none) := by kernel_rfl
theorem some_94 : (Try.prog.underlying 94).isSome = true := by kernel_rfl
theorem body_3 : hasBody Try.prog 3 = true := by kernel_rfl
theorem body_4 : hasBody Try.prog 4 = true := by kernel_rfl
theorem body_5 : hasBody Try.prog 5 = true := by kernel_rfl
theorem body_6 : hasBody Try.prog 6 = true := by kernel_rfl
theorem body_7 : hasBody Try.prog 7 = true := by kernel_rfl
theorem body_8 : hasBody Try.prog 8 = true := by kernel_rfl
theorem body_9 : hasBody Try.prog 9 = true := by kernel_rfl
theorem body_10 : hasBody Try.prog 10 = true := by kernel_rfl
theorem body_11 : hasBody Try.prog 11 = true := by kernel_rfl
theorem body_12 : hasBody Try.prog 12 = true := by kernel_rfl
theorem body_13 : hasBody Try.prog 13 = true := by kernel_rfl
theorem body_14 : hasBody Try.prog 14 = true := by kernel_rfl
theorem body_15 : hasBody Try.prog 15 = true := by kernel_rfl
theorem body_16 : hasBody Try.prog 16 = true := by kernel_rfl
theorem body_17 : hasBody Try.prog 17 = true := by kernel_rfl
theorem body_18 : hasBody Try.prog 18 = true := by kernel_rfl
theorem body_19 : hasBody Try.prog 19 = true := by kernel_rfl
theorem body_20 : hasBody Try.prog 20 = true := by kernel_rfl
theorem body_21 : hasBody Try.prog 21 = true := by kernel_rfl
theorem body_22 : hasBody Try.prog 22 = true := by kernel_rfl
theorem body_23 : hasBody Try.prog 23 = true := by kernel_rfl
theorem body_24 : hasBody Try.prog 24 = true := by kernel_rfl
theorem body_25 : hasBody Try.prog 25 = true := by kernel_rfl
theorem body_26 : hasBody Try.prog 26 = true := by kernel_rfl
theorem body_27 : hasBody Try.prog 27 = true := by kernel_rfl
theorem body_28 : hasBody Try.prog 28 = true := by kernel_rfl
theorem body_29 : hasBody Try.prog 29 = true := by kernel_rfl
theorem body_30 : hasBody Try.prog 30 = true := by kernel_rfl
theorem body_31 : hasBody Try.prog 31 = true := by kernel_rfl
theorem body_32 : hasBody Try.prog 32 = true := by kernel_rfl
theorem body_33 : hasBody Try.prog 33 = true := by kernel_rfl
theorem body_34 : hasBody Try.prog 34 = true := by kernel_rfl
theorem body_35 : hasBody Try.prog 35 = true := by kernel_rfl
theorem body_36 : hasBody Try.prog 36 = true := by kernel_rfl
theorem body_37 : hasBody Try.prog 37 = true := by kernel_rfl
theorem body_38 : hasBody Try.prog 38 = true := by kernel_rfl
theorem body_39 : hasBody Try.prog 39 = true := by kernel_rfl
theorem body_40 : hasBody Try.prog 40 = true := by kernel_rfl
theorem body_41 : hasBody Try.prog 41 = true := by kernel_rfl
theorem body_42 : hasBody Try.prog 42 = true := by kernel_rfl
theorem body_43 : hasBody Try.prog 43 = true := by kernel_rfl
theorem body_44 : hasBody Try.prog 44 = true := by kernel_rfl
theorem body_45 : hasBody Try.prog 45 = true := by kernel_rfl
theorem body_46 : hasBody Try.prog 46 = true := by kernel_rfl
theorem body_47 : hasBody Try.prog 47 = true := by kernel_rfl
theorem body_48 : hasBody Try.prog 48 = true := by kernel_rfl
theorem body_49 : hasBody Try.prog 49 = true := by kernel_rfl
theorem body_50 : hasBody Try.prog 50 = true := by kernel_rfl
theorem mixed : Try.prog.follows .mixedOrders = true := by kernel_rfl
end Go.Proofs.Ytncakfcafkfmfaa
