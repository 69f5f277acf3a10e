/-
  Closed facts on the types and functions of this seat, by a program of this work (tab.py).
-/
import Derived.Test.YtdpnnclkkbfihaaDoorFg
import Derived.Test.YtdpnnclkkbfihaaDoorChecked
import Derived.KernelRfl
namespace Go.Proofs.YtdpnnclkkbfihaaDoor

theorem zero_0 : zeroOf Tryd.prog 0 = some (.tuple #[]) := by kernel_rfl
theorem some_0 : (Tryd.prog.underlying 0).isSome = true := by kernel_rfl
theorem flat_1 : flatB Tryd.prog 1 = true := by kernel_rfl
theorem size_1 : sizeIs Tryd.prog 1 1 = true := by kernel_rfl
theorem zero_1 : zeroOf Tryd.prog 1 = some (.nilFunc) := by kernel_rfl
theorem some_1 : (Tryd.prog.underlying 1).isSome = true := by kernel_rfl
theorem flat_2 : flatB Tryd.prog 2 = true := by kernel_rfl
theorem size_2 : sizeIs Tryd.prog 2 1 = true := by kernel_rfl
theorem zero_2 : zeroOf Tryd.prog 2 = some (.int .i64 0) := by kernel_rfl
theorem int_2 : Tryd.prog.underlying 2 = some (.int .i64) := by kernel_rfl
theorem some_2 : (Tryd.prog.underlying 2).isSome = true := by kernel_rfl
theorem flat_3 : flatB Tryd.prog 3 = true := by kernel_rfl
theorem size_3 : sizeIs Tryd.prog 3 1 = true := by kernel_rfl
theorem zero_3 : zeroOf Tryd.prog 3 = some (.int .i64 0) := by kernel_rfl
theorem int_3 : Tryd.prog.underlying 3 = some (.int .i64) := by kernel_rfl
theorem some_3 : (Tryd.prog.underlying 3).isSome = true := by kernel_rfl
theorem flat_4 : flatB Tryd.prog 4 = true := by kernel_rfl
theorem size_4 : sizeIs Tryd.prog 4 1 = true := by kernel_rfl
theorem zero_4 : zeroOf Tryd.prog 4 = some (.bool false) := by kernel_rfl
theorem bool_4 : Tryd.prog.underlying 4 = some .bool := by kernel_rfl
theorem some_4 : (Tryd.prog.underlying 4).isSome = true := by kernel_rfl
theorem flat_5 : flatB Tryd.prog 5 = true := by kernel_rfl
theorem size_5 : sizeIs Tryd.prog 5 1 = true := by kernel_rfl
theorem zero_5 : zeroOf Tryd.prog 5 = some (.int .u8 0) := by kernel_rfl
theorem int_5 : Tryd.prog.underlying 5 = some (.int .u8) := by kernel_rfl
theorem some_5 : (Tryd.prog.underlying 5).isSome = true := by kernel_rfl
theorem flat_9 : flatB Tryd.prog 9 = true := by kernel_rfl
theorem size_9 : sizeIs Tryd.prog 9 1 = true := by kernel_rfl
theorem zero_9 : zeroOf Tryd.prog 9 = some (.string ⟨#[]⟩) := by kernel_rfl
theorem str_9 : Tryd.prog.underlying 9 = some .string := by kernel_rfl
theorem some_9 : (Tryd.prog.underlying 9).isSome = true := by kernel_rfl
theorem flat_12 : flatB Tryd.prog 12 = true := by kernel_rfl
theorem size_12 : sizeIs Tryd.prog 12 1 = true := by kernel_rfl
theorem zero_12 : zeroOf Tryd.prog 12 = some (.int .u64 0) := by kernel_rfl
theorem int_12 : Tryd.prog.underlying 12 = some (.int .u64) := by kernel_rfl
theorem some_12 : (Tryd.prog.underlying 12).isSome = true := by kernel_rfl
theorem agg_13 : aggB Tryd.prog 13 = true := by kernel_rfl
theorem size_13 : sizeIs Tryd.prog 13 2 = true := by kernel_rfl
theorem zero_13 : zeroOf Tryd.prog 13 = some (.agg #[.string ⟨#[]⟩, .int .u64 0]) := by kernel_rfl
theorem plc_13 : placesOf Tryd.prog 13 = some [(0, 1), (1, 1)] := by kernel_rfl
theorem fld_13_0 : fieldOff Tryd.prog 13 0 = some 0 := by kernel_rfl
theorem fld_13_1 : fieldOff Tryd.prog 13 1 = some 1 := by kernel_rfl
theorem some_13 : (Tryd.prog.underlying 13).isSome = true := by kernel_rfl
theorem flat_20 : flatB Tryd.prog 20 = true := by kernel_rfl
theorem size_20 : sizeIs Tryd.prog 20 1 = true := by kernel_rfl
theorem zero_20 : zeroOf Tryd.prog 20 = some (.nilIface) := by kernel_rfl
theorem some_20 : (Tryd.prog.underlying 20).isSome = true := by kernel_rfl
theorem flat_21 : flatB Tryd.prog 21 = true := by kernel_rfl
theorem size_21 : sizeIs Tryd.prog 21 1 = true := by kernel_rfl
theorem zero_21 : zeroOf Tryd.prog 21 = some (.int .i32 0) := by kernel_rfl
theorem int_21 : Tryd.prog.underlying 21 = some (.int .i32) := by kernel_rfl
theorem some_21 : (Tryd.prog.underlying 21).isSome = true := by kernel_rfl
theorem flat_22 : flatB Tryd.prog 22 = true := by kernel_rfl
theorem size_22 : sizeIs Tryd.prog 22 1 = true := by kernel_rfl
theorem zero_22 : zeroOf Tryd.prog 22 = some (.slice none 0 0) := by kernel_rfl
theorem elem_22 : sliceElem Tryd.prog 22 = some 9 := by kernel_rfl
theorem row_22 : RowT Tryd.prog 22 9 1 16 (.string ⟨#[]⟩) := ⟨by kernel_rfl, by kernel_rfl, rfl, by decide⟩
theorem some_22 : (Tryd.prog.underlying 22).isSome = true := by kernel_rfl
theorem flat_23 : flatB Tryd.prog 23 = true := by kernel_rfl
theorem size_23 : sizeIs Tryd.prog 23 1 = true := by kernel_rfl
theorem zero_23 : zeroOf Tryd.prog 23 = some (.int .u32 0) := by kernel_rfl
theorem int_23 : Tryd.prog.underlying 23 = some (.int .u32) := by kernel_rfl
theorem some_23 : (Tryd.prog.underlying 23).isSome = true := by kernel_rfl
theorem flat_24 : flatB Tryd.prog 24 = true := by kernel_rfl
theorem size_24 : sizeIs Tryd.prog 24 1 = true := by kernel_rfl
theorem zero_24 : zeroOf Tryd.prog 24 = some (.nilFunc) := by kernel_rfl
theorem some_24 : (Tryd.prog.underlying 24).isSome = true := by kernel_rfl
theorem flat_25 : flatB Tryd.prog 25 = true := by kernel_rfl
theorem size_25 : sizeIs Tryd.prog 25 1 = true := by kernel_rfl
theorem zero_25 : zeroOf Tryd.prog 25 = some (.nilFunc) := by kernel_rfl
theorem some_25 : (Tryd.prog.underlying 25).isSome = true := by kernel_rfl
theorem flat_26 : flatB Tryd.prog 26 = true := by kernel_rfl
theorem size_26 : sizeIs Tryd.prog 26 1 = true := by kernel_rfl
theorem zero_26 : zeroOf Tryd.prog 26 = some (.pointer none) := by kernel_rfl
theorem ptr_26 : Tryd.prog.underlying 26 = some (.pointer (Tryd.prog.pointee 26)) := by kernel_rfl
theorem some_26 : (Tryd.prog.underlying 26).isSome = true := by kernel_rfl
theorem flat_27 : flatB Tryd.prog 27 = true := by kernel_rfl
theorem size_27 : sizeIs Tryd.prog 27 1 = true := by kernel_rfl
theorem zero_27 : zeroOf Tryd.prog 27 = some (.int .i64 0) := by kernel_rfl
theorem int_27 : Tryd.prog.underlying 27 = some (.int .i64) := by kernel_rfl
theorem some_27 : (Tryd.prog.underlying 27).isSome = true := by kernel_rfl
theorem zero_28 : zeroOf Tryd.prog 28 = some (.tuple #[.pointer none, .int .i64 0]) := by kernel_rfl
theorem some_28 : (Tryd.prog.underlying 28).isSome = true := by kernel_rfl
theorem flat_29 : flatB Tryd.prog 29 = true := by kernel_rfl
theorem size_29 : sizeIs Tryd.prog 29 1 = true := by kernel_rfl
theorem zero_29 : zeroOf Tryd.prog 29 = some (.nilFunc) := by kernel_rfl
theorem some_29 : (Tryd.prog.underlying 29).isSome = true := by kernel_rfl
theorem flat_30 : flatB Tryd.prog 30 = true := by kernel_rfl
theorem size_30 : sizeIs Tryd.prog 30 1 = true := by kernel_rfl
theorem zero_30 : zeroOf Tryd.prog 30 = some (.slice none 0 0) := by kernel_rfl
theorem elem_30 : sliceElem Tryd.prog 30 = some 32 := by kernel_rfl
theorem row_30 : RowT Tryd.prog 30 32 1 8 (.int .u64 0) := ⟨by kernel_rfl, by kernel_rfl, rfl, by decide⟩
theorem some_30 : (Tryd.prog.underlying 30).isSome = true := by kernel_rfl
theorem flat_31 : flatB Tryd.prog 31 = true := by kernel_rfl
theorem size_31 : sizeIs Tryd.prog 31 1 = true := by kernel_rfl
theorem zero_31 : zeroOf Tryd.prog 31 = some (.int .u64 0) := by kernel_rfl
theorem int_31 : Tryd.prog.underlying 31 = some (.int .u64) := by kernel_rfl
theorem some_31 : (Tryd.prog.underlying 31).isSome = true := by kernel_rfl
theorem flat_32 : flatB Tryd.prog 32 = true := by kernel_rfl
theorem size_32 : sizeIs Tryd.prog 32 1 = true := by kernel_rfl
theorem zero_32 : zeroOf Tryd.prog 32 = some (.int .u64 0) := by kernel_rfl
theorem int_32 : Tryd.prog.underlying 32 = some (.int .u64) := by kernel_rfl
theorem some_32 : (Tryd.prog.underlying 32).isSome = true := by kernel_rfl
theorem zero_33 : zeroOf Tryd.prog 33 = some (.tuple #[.int .u64 0, .int .i64 0]) := by kernel_rfl
theorem some_33 : (Tryd.prog.underlying 33).isSome = true := by kernel_rfl
theorem flat_34 : flatB Tryd.prog 34 = true := by kernel_rfl
theorem size_34 : sizeIs Tryd.prog 34 1 = true := by kernel_rfl
theorem zero_34 : zeroOf Tryd.prog 34 = some (.nilFunc) := by kernel_rfl
theorem some_34 : (Tryd.prog.underlying 34).isSome = true := by kernel_rfl
theorem flat_35 : flatB Tryd.prog 35 = true := by kernel_rfl
theorem size_35 : sizeIs Tryd.prog 35 1 = true := by kernel_rfl
theorem zero_35 : zeroOf Tryd.prog 35 = some (.slice none 0 0) := by kernel_rfl
theorem elem_35 : sliceElem Tryd.prog 35 = some 82 := by kernel_rfl
theorem row_35 : RowT Tryd.prog 35 82 1 8 (.pointer none) := ⟨by kernel_rfl, by kernel_rfl, rfl, by decide⟩
theorem some_35 : (Tryd.prog.underlying 35).isSome = true := by kernel_rfl
theorem flat_36 : flatB Tryd.prog 36 = true := by kernel_rfl
theorem size_36 : sizeIs Tryd.prog 36 1 = true := by kernel_rfl
theorem zero_36 : zeroOf Tryd.prog 36 = some (.nilFunc) := by kernel_rfl
theorem some_36 : (Tryd.prog.underlying 36).isSome = true := by kernel_rfl
theorem flat_37 : flatB Tryd.prog 37 = true := by kernel_rfl
theorem size_37 : sizeIs Tryd.prog 37 1 = true := by kernel_rfl
theorem zero_37 : zeroOf Tryd.prog 37 = some (.nilFunc) := by kernel_rfl
theorem some_37 : (Tryd.prog.underlying 37).isSome = true := by kernel_rfl
theorem flat_38 : flatB Tryd.prog 38 = true := by kernel_rfl
theorem size_38 : sizeIs Tryd.prog 38 1 = true := by kernel_rfl
theorem zero_38 : zeroOf Tryd.prog 38 = some (.nilFunc) := by kernel_rfl
theorem some_38 : (Tryd.prog.underlying 38).isSome = true := by kernel_rfl
theorem flat_39 : flatB Tryd.prog 39 = true := by kernel_rfl
theorem size_39 : sizeIs Tryd.prog 39 1 = true := by kernel_rfl
theorem zero_39 : zeroOf Tryd.prog 39 = some (.nilFunc) := by kernel_rfl
theorem some_39 : (Tryd.prog.underlying 39).isSome = true := by kernel_rfl
theorem flat_40 : flatB Tryd.prog 40 = true := by kernel_rfl
theorem size_40 : sizeIs Tryd.prog 40 1 = true := by kernel_rfl
theorem zero_40 : zeroOf Tryd.prog 40 = some (.nilFunc) := by kernel_rfl
theorem some_40 : (Tryd.prog.underlying 40).isSome = true := by kernel_rfl
theorem flat_41 : flatB Tryd.prog 41 = true := by kernel_rfl
theorem size_41 : sizeIs Tryd.prog 41 1 = true := by kernel_rfl
theorem zero_41 : zeroOf Tryd.prog 41 = some (.nilFunc) := by kernel_rfl
theorem some_41 : (Tryd.prog.underlying 41).isSome = true := by kernel_rfl
theorem flat_42 : flatB Tryd.prog 42 = true := by kernel_rfl
theorem size_42 : sizeIs Tryd.prog 42 1 = true := by kernel_rfl
theorem zero_42 : zeroOf Tryd.prog 42 = some (.nilFunc) := by kernel_rfl
theorem some_42 : (Tryd.prog.underlying 42).isSome = true := by kernel_rfl
theorem flat_43 : flatB Tryd.prog 43 = true := by kernel_rfl
theorem size_43 : sizeIs Tryd.prog 43 1 = true := by kernel_rfl
theorem zero_43 : zeroOf Tryd.prog 43 = some (.int .u64 0) := by kernel_rfl
theorem int_43 : Tryd.prog.underlying 43 = some (.int .u64) := by kernel_rfl
theorem some_43 : (Tryd.prog.underlying 43).isSome = true := by kernel_rfl
theorem flat_44 : flatB Tryd.prog 44 = true := by kernel_rfl
theorem size_44 : sizeIs Tryd.prog 44 1 = true := by kernel_rfl
theorem zero_44 : zeroOf Tryd.prog 44 = some (.nilFunc) := by kernel_rfl
theorem some_44 : (Tryd.prog.underlying 44).isSome = true := by kernel_rfl
theorem flat_45 : flatB Tryd.prog 45 = true := by kernel_rfl
theorem size_45 : sizeIs Tryd.prog 45 1 = true := by kernel_rfl
theorem zero_45 : zeroOf Tryd.prog 45 = some (.nilFunc) := by kernel_rfl
theorem some_45 : (Tryd.prog.underlying 45).isSome = true := by kernel_rfl
theorem flat_46 : flatB Tryd.prog 46 = true := by kernel_rfl
theorem size_46 : sizeIs Tryd.prog 46 1 = true := by kernel_rfl
theorem zero_46 : zeroOf Tryd.prog 46 = some (.slice none 0 0) := by kernel_rfl
theorem elem_46 : sliceElem Tryd.prog 46 = some 31 := by kernel_rfl
theorem row_46 : RowT Tryd.prog 46 31 1 8 (.int .u64 0) := ⟨by kernel_rfl, by kernel_rfl, rfl, by decide⟩
theorem some_46 : (Tryd.prog.underlying 46).isSome = true := by kernel_rfl
theorem flat_47 : flatB Tryd.prog 47 = true := by kernel_rfl
theorem size_47 : sizeIs Tryd.prog 47 1 = true := by kernel_rfl
theorem zero_47 : zeroOf Tryd.prog 47 = some (.nilFunc) := by kernel_rfl
theorem some_47 : (Tryd.prog.underlying 47).isSome = true := by kernel_rfl
theorem flat_48 : flatB Tryd.prog 48 = true := by kernel_rfl
theorem size_48 : sizeIs Tryd.prog 48 1 = true := by kernel_rfl
theorem zero_48 : zeroOf Tryd.prog 48 = some (.nilFunc) := by kernel_rfl
theorem some_48 : (Tryd.prog.underlying 48).isSome = true := by kernel_rfl
theorem flat_49 : flatB Tryd.prog 49 = true := by kernel_rfl
theorem size_49 : sizeIs Tryd.prog 49 1 = true := by kernel_rfl
theorem zero_49 : zeroOf Tryd.prog 49 = some (.nilFunc) := by kernel_rfl
theorem some_49 : (Tryd.prog.underlying 49).isSome = true := by kernel_rfl
theorem flat_50 : flatB Tryd.prog 50 = true := by kernel_rfl
theorem size_50 : sizeIs Tryd.prog 50 1 = true := by kernel_rfl
theorem zero_50 : zeroOf Tryd.prog 50 = some (.nilFunc) := by kernel_rfl
theorem some_50 : (Tryd.prog.underlying 50).isSome = true := by kernel_rfl
theorem flat_51 : flatB Tryd.prog 51 = true := by kernel_rfl
theorem size_51 : sizeIs Tryd.prog 51 1 = true := by kernel_rfl
theorem zero_51 : zeroOf Tryd.prog 51 = some (.nilFunc) := by kernel_rfl
theorem some_51 : (Tryd.prog.underlying 51).isSome = true := by kernel_rfl
theorem flat_52 : flatB Tryd.prog 52 = true := by kernel_rfl
theorem size_52 : sizeIs Tryd.prog 52 1 = true := by kernel_rfl
theorem zero_52 : zeroOf Tryd.prog 52 = some (.nilFunc) := by kernel_rfl
theorem some_52 : (Tryd.prog.underlying 52).isSome = true := by kernel_rfl
theorem flat_53 : flatB Tryd.prog 53 = true := by kernel_rfl
theorem size_53 : sizeIs Tryd.prog 53 1 = true := by kernel_rfl
theorem zero_53 : zeroOf Tryd.prog 53 = some (.nilFunc) := by kernel_rfl
theorem some_53 : (Tryd.prog.underlying 53).isSome = true := by kernel_rfl
theorem flat_54 : flatB Tryd.prog 54 = true := by kernel_rfl
theorem size_54 : sizeIs Tryd.prog 54 1 = true := by kernel_rfl
theorem zero_54 : zeroOf Tryd.prog 54 = some (.nilFunc) := by kernel_rfl
theorem some_54 : (Tryd.prog.underlying 54).isSome = true := by kernel_rfl
theorem agg_55 : aggB Tryd.prog 55 = true := by kernel_rfl
theorem size_55 : sizeIs Tryd.prog 55 3 = true := by kernel_rfl
theorem zero_55 : zeroOf Tryd.prog 55 = some (.agg #[.int .u8 0, .slice none 0 0, .string ⟨#[]⟩]) := by kernel_rfl
theorem plc_55 : placesOf Tryd.prog 55 = some [(0, 1), (1, 1), (2, 1)] := by kernel_rfl
theorem fld_55_0 : fieldOff Tryd.prog 55 0 = some 0 := by kernel_rfl
theorem fld_55_1 : fieldOff Tryd.prog 55 1 = some 1 := by kernel_rfl
theorem fld_55_2 : fieldOff Tryd.prog 55 2 = some 2 := by kernel_rfl
theorem some_55 : (Tryd.prog.underlying 55).isSome = true := by kernel_rfl
theorem agg_56 : aggB Tryd.prog 56 = true := by kernel_rfl
theorem size_56 : sizeIs Tryd.prog 56 3 = true := by kernel_rfl
theorem zero_56 : zeroOf Tryd.prog 56 = some (.agg #[.int .u8 0, .slice none 0 0, .string ⟨#[]⟩]) := by kernel_rfl
theorem plc_56 : placesOf Tryd.prog 56 = some [(0, 1), (1, 1), (2, 1)] := by kernel_rfl
theorem fld_56_0 : fieldOff Tryd.prog 56 0 = some 0 := by kernel_rfl
theorem fld_56_1 : fieldOff Tryd.prog 56 1 = some 1 := by kernel_rfl
theorem fld_56_2 : fieldOff Tryd.prog 56 2 = some 2 := by kernel_rfl
theorem some_56 : (Tryd.prog.underlying 56).isSome = true := by kernel_rfl
theorem zero_57 : zeroOf Tryd.prog 57 = some (.tuple #[.agg #[.int .u8 0, .slice none 0 0, .string ⟨#[]⟩], .int .i64 0]) := by kernel_rfl
theorem some_57 : (Tryd.prog.underlying 57).isSome = true := by kernel_rfl
theorem flat_58 : flatB Tryd.prog 58 = true := by kernel_rfl
theorem size_58 : sizeIs Tryd.prog 58 1 = true := by kernel_rfl
theorem zero_58 : zeroOf Tryd.prog 58 = some (.nilFunc) := by kernel_rfl
theorem some_58 : (Tryd.prog.underlying 58).isSome = true := by kernel_rfl
theorem flat_59 : flatB Tryd.prog 59 = true := by kernel_rfl
theorem size_59 : sizeIs Tryd.prog 59 1 = true := by kernel_rfl
theorem zero_59 : zeroOf Tryd.prog 59 = some (.slice none 0 0) := by kernel_rfl
theorem elem_59 : sliceElem Tryd.prog 59 = some 62 := by kernel_rfl
theorem row_59 : RowT Tryd.prog 59 62 4 48 (.agg #[.int .u8 0, .int .u8 0, .slice none 0 0, .string ⟨#[]⟩]) := ⟨by kernel_rfl, by kernel_rfl, rfl, by decide⟩
theorem some_59 : (Tryd.prog.underlying 59).isSome = true := by kernel_rfl
theorem flat_60 : flatB Tryd.prog 60 = true := by kernel_rfl
theorem size_60 : sizeIs Tryd.prog 60 1 = true := by kernel_rfl
theorem zero_60 : zeroOf Tryd.prog 60 = some (.slice none 0 0) := by kernel_rfl
theorem elem_60 : sliceElem Tryd.prog 60 = some 2 := by kernel_rfl
theorem row_60 : RowT Tryd.prog 60 2 1 8 (.int .i64 0) := ⟨by kernel_rfl, by kernel_rfl, rfl, by decide⟩
theorem some_60 : (Tryd.prog.underlying 60).isSome = true := by kernel_rfl
theorem agg_61 : aggB Tryd.prog 61 = true := by kernel_rfl
theorem size_61 : sizeIs Tryd.prog 61 4 = true := by kernel_rfl
theorem zero_61 : zeroOf Tryd.prog 61 = some (.agg #[.int .u8 0, .int .u8 0, .slice none 0 0, .string ⟨#[]⟩]) := by kernel_rfl
theorem plc_61 : placesOf Tryd.prog 61 = some [(0, 1), (1, 1), (2, 1), (3, 1)] := by kernel_rfl
theorem fld_61_0 : fieldOff Tryd.prog 61 0 = some 0 := by kernel_rfl
theorem fld_61_1 : fieldOff Tryd.prog 61 1 = some 1 := by kernel_rfl
theorem fld_61_2 : fieldOff Tryd.prog 61 2 = some 2 := by kernel_rfl
theorem fld_61_3 : fieldOff Tryd.prog 61 3 = some 3 := by kernel_rfl
theorem some_61 : (Tryd.prog.underlying 61).isSome = true := by kernel_rfl
theorem agg_62 : aggB Tryd.prog 62 = true := by kernel_rfl
theorem size_62 : sizeIs Tryd.prog 62 4 = true := by kernel_rfl
theorem zero_62 : zeroOf Tryd.prog 62 = some (.agg #[.int .u8 0, .int .u8 0, .slice none 0 0, .string ⟨#[]⟩]) := by kernel_rfl
theorem plc_62 : placesOf Tryd.prog 62 = some [(0, 1), (1, 1), (2, 1), (3, 1)] := by kernel_rfl
theorem fld_62_0 : fieldOff Tryd.prog 62 0 = some 0 := by kernel_rfl
theorem fld_62_1 : fieldOff Tryd.prog 62 1 = some 1 := by kernel_rfl
theorem fld_62_2 : fieldOff Tryd.prog 62 2 = some 2 := by kernel_rfl
theorem fld_62_3 : fieldOff Tryd.prog 62 3 = some 3 := by kernel_rfl
theorem some_62 : (Tryd.prog.underlying 62).isSome = true := by kernel_rfl
theorem flat_63 : flatB Tryd.prog 63 = true := by kernel_rfl
theorem size_63 : sizeIs Tryd.prog 63 1 = true := by kernel_rfl
theorem zero_63 : zeroOf Tryd.prog 63 = some (.slice none 0 0) := by kernel_rfl
theorem elem_63 : sliceElem Tryd.prog 63 = some 5 := by kernel_rfl
theorem row_63 : RowT Tryd.prog 63 5 1 1 (.int .u8 0) := ⟨by kernel_rfl, by kernel_rfl, rfl, by decide⟩
theorem some_63 : (Tryd.prog.underlying 63).isSome = true := by kernel_rfl
theorem flat_64 : flatB Tryd.prog 64 = true := by kernel_rfl
theorem size_64 : sizeIs Tryd.prog 64 1 = true := by kernel_rfl
theorem zero_64 : zeroOf Tryd.prog 64 = some (.nilFunc) := by kernel_rfl
theorem some_64 : (Tryd.prog.underlying 64).isSome = true := by kernel_rfl
theorem flat_65 : flatB Tryd.prog 65 = true := by kernel_rfl
theorem size_65 : sizeIs Tryd.prog 65 1 = true := by kernel_rfl
theorem zero_65 : zeroOf Tryd.prog 65 = some (.nilFunc) := by kernel_rfl
theorem some_65 : (Tryd.prog.underlying 65).isSome = true := by kernel_rfl
theorem zero_66 : zeroOf Tryd.prog 66 = some (.tuple #[.slice none 0 0, .slice none 0 0]) := by kernel_rfl
theorem some_66 : (Tryd.prog.underlying 66).isSome = true := by kernel_rfl
theorem flat_67 : flatB Tryd.prog 67 = true := by kernel_rfl
theorem size_67 : sizeIs Tryd.prog 67 1 = true := by kernel_rfl
theorem zero_67 : zeroOf Tryd.prog 67 = some (.nilFunc) := by kernel_rfl
theorem some_67 : (Tryd.prog.underlying 67).isSome = true := by kernel_rfl
theorem flat_68 : flatB Tryd.prog 68 = true := by kernel_rfl
theorem size_68 : sizeIs Tryd.prog 68 1 = true := by kernel_rfl
theorem zero_68 : zeroOf Tryd.prog 68 = some (.nilFunc) := by kernel_rfl
theorem some_68 : (Tryd.prog.underlying 68).isSome = true := by kernel_rfl
theorem flat_69 : flatB Tryd.prog 69 = true := by kernel_rfl
theorem size_69 : sizeIs Tryd.prog 69 1 = true := by kernel_rfl
theorem zero_69 : zeroOf Tryd.prog 69 = some (.nilFunc) := by kernel_rfl
theorem some_69 : (Tryd.prog.underlying 69).isSome = true := by kernel_rfl
theorem flat_70 : flatB Tryd.prog 70 = true := by kernel_rfl
theorem size_70 : sizeIs Tryd.prog 70 1 = true := by kernel_rfl
theorem zero_70 : zeroOf Tryd.prog 70 = some (.slice none 0 0) := by kernel_rfl
theorem elem_70 : sliceElem Tryd.prog 70 = some 56 := by kernel_rfl
theorem row_70 : RowT Tryd.prog 70 56 3 48 (.agg #[.int .u8 0, .slice none 0 0, .string ⟨#[]⟩]) := ⟨by kernel_rfl, by kernel_rfl, rfl, by decide⟩
theorem some_70 : (Tryd.prog.underlying 70).isSome = true := by kernel_rfl
theorem flat_71 : flatB Tryd.prog 71 = true := by kernel_rfl
theorem size_71 : sizeIs Tryd.prog 71 1 = true := by kernel_rfl
theorem zero_71 : zeroOf Tryd.prog 71 = some (.nilFunc) := by kernel_rfl
theorem some_71 : (Tryd.prog.underlying 71).isSome = true := by kernel_rfl
theorem flat_72 : flatB Tryd.prog 72 = true := by kernel_rfl
theorem size_72 : sizeIs Tryd.prog 72 1 = true := by kernel_rfl
theorem zero_72 : zeroOf Tryd.prog 72 = some (.nilFunc) := by kernel_rfl
theorem some_72 : (Tryd.prog.underlying 72).isSome = true := by kernel_rfl
theorem flat_73 : flatB Tryd.prog 73 = true := by kernel_rfl
theorem size_73 : sizeIs Tryd.prog 73 1 = true := by kernel_rfl
theorem zero_73 : zeroOf Tryd.prog 73 = some (.nilFunc) := by kernel_rfl
theorem some_73 : (Tryd.prog.underlying 73).isSome = true := by kernel_rfl
theorem flat_74 : flatB Tryd.prog 74 = true := by kernel_rfl
theorem size_74 : sizeIs Tryd.prog 74 1 = true := by kernel_rfl
theorem zero_74 : zeroOf Tryd.prog 74 = some (.nilFunc) := by kernel_rfl
theorem some_74 : (Tryd.prog.underlying 74).isSome = true := by kernel_rfl
theorem flat_75 : flatB Tryd.prog 75 = true := by kernel_rfl
theorem size_75 : sizeIs Tryd.prog 75 1 = true := by kernel_rfl
theorem zero_75 : zeroOf Tryd.prog 75 = some (.nilFunc) := by kernel_rfl
theorem some_75 : (Tryd.prog.underlying 75).isSome = true := by kernel_rfl
theorem flat_76 : flatB Tryd.prog 76 = true := by kernel_rfl
theorem size_76 : sizeIs Tryd.prog 76 1 = true := by kernel_rfl
theorem zero_76 : zeroOf Tryd.prog 76 = some (.nilFunc) := by kernel_rfl
theorem some_76 : (Tryd.prog.underlying 76).isSome = true := by kernel_rfl
theorem flat_77 : flatB Tryd.prog 77 = true := by kernel_rfl
theorem size_77 : sizeIs Tryd.prog 77 1 = true := by kernel_rfl
theorem zero_77 : zeroOf Tryd.prog 77 = some (.nilFunc) := by kernel_rfl
theorem some_77 : (Tryd.prog.underlying 77).isSome = true := by kernel_rfl
theorem agg_78 : aggB Tryd.prog 78 = true := by kernel_rfl
theorem size_78 : sizeIs Tryd.prog 78 3 = true := by kernel_rfl
theorem zero_78 : zeroOf Tryd.prog 78 = some (.agg #[.slice none 0 0, .int .i64 0, .int .i64 0]) := by kernel_rfl
theorem plc_78 : placesOf Tryd.prog 78 = some [(0, 1), (1, 1), (2, 1)] := by kernel_rfl
theorem fld_78_0 : fieldOff Tryd.prog 78 0 = some 0 := by kernel_rfl
theorem fld_78_1 : fieldOff Tryd.prog 78 1 = some 1 := by kernel_rfl
theorem fld_78_2 : fieldOff Tryd.prog 78 2 = some 2 := by kernel_rfl
theorem some_78 : (Tryd.prog.underlying 78).isSome = true := by kernel_rfl
theorem agg_79 : aggB Tryd.prog 79 = true := by kernel_rfl
theorem size_79 : sizeIs Tryd.prog 79 3 = true := by kernel_rfl
theorem zero_79 : zeroOf Tryd.prog 79 = some (.agg #[.slice none 0 0, .int .i64 0, .int .i64 0]) := by kernel_rfl
theorem plc_79 : placesOf Tryd.prog 79 = some [(0, 1), (1, 1), (2, 1)] := by kernel_rfl
theorem fld_79_0 : fieldOff Tryd.prog 79 0 = some 0 := by kernel_rfl
theorem fld_79_1 : fieldOff Tryd.prog 79 1 = some 1 := by kernel_rfl
theorem fld_79_2 : fieldOff Tryd.prog 79 2 = some 2 := by kernel_rfl
theorem some_79 : (Tryd.prog.underlying 79).isSome = true := by kernel_rfl
theorem flat_80 : flatB Tryd.prog 80 = true := by kernel_rfl
theorem size_80 : sizeIs Tryd.prog 80 1 = true := by kernel_rfl
theorem zero_80 : zeroOf Tryd.prog 80 = some (.nilFunc) := by kernel_rfl
theorem some_80 : (Tryd.prog.underlying 80).isSome = true := by kernel_rfl
theorem flat_81 : flatB Tryd.prog 81 = true := by kernel_rfl
theorem size_81 : sizeIs Tryd.prog 81 1 = true := by kernel_rfl
theorem zero_81 : zeroOf Tryd.prog 81 = some (.nilFunc) := by kernel_rfl
theorem some_81 : (Tryd.prog.underlying 81).isSome = true := by kernel_rfl
theorem flat_82 : flatB Tryd.prog 82 = true := by kernel_rfl
theorem size_82 : sizeIs Tryd.prog 82 1 = true := by kernel_rfl
theorem zero_82 : zeroOf Tryd.prog 82 = some (.pointer none) := by kernel_rfl
theorem ptr_82 : Tryd.prog.underlying 82 = some (.pointer (Tryd.prog.pointee 82)) := by kernel_rfl
theorem some_82 : (Tryd.prog.underlying 82).isSome = true := by kernel_rfl
theorem flat_83 : flatB Tryd.prog 83 = true := by kernel_rfl
theorem size_83 : sizeIs Tryd.prog 83 1 = true := by kernel_rfl
theorem zero_83 : zeroOf Tryd.prog 83 = some (.nilFunc) := by kernel_rfl
theorem some_83 : (Tryd.prog.underlying 83).isSome = true := by kernel_rfl
theorem flat_84 : flatB Tryd.prog 84 = true := by kernel_rfl
theorem size_84 : sizeIs Tryd.prog 84 1 = true := by kernel_rfl
theorem zero_84 : zeroOf Tryd.prog 84 = some (.nilFunc) := by kernel_rfl
theorem some_84 : (Tryd.prog.underlying 84).isSome = true := by kernel_rfl
theorem flat_85 : flatB Tryd.prog 85 = true := by kernel_rfl
theorem size_85 : sizeIs Tryd.prog 85 1 = true := by kernel_rfl
theorem zero_85 : zeroOf Tryd.prog 85 = some (.int .i8 0) := by kernel_rfl
theorem int_85 : Tryd.prog.underlying 85 = some (.int .i8) := by kernel_rfl
theorem some_85 : (Tryd.prog.underlying 85).isSome = true := by kernel_rfl
theorem flat_86 : flatB Tryd.prog 86 = true := by kernel_rfl
theorem size_86 : sizeIs Tryd.prog 86 1 = true := by kernel_rfl
theorem zero_86 : zeroOf Tryd.prog 86 = some (.int .i8 0) := by kernel_rfl
theorem int_86 : Tryd.prog.underlying 86 = some (.int .i8) := by kernel_rfl
theorem some_86 : (Tryd.prog.underlying 86).isSome = true := by kernel_rfl
theorem agg_87 : aggB Tryd.prog 87 = true := by kernel_rfl
theorem size_87 : sizeIs Tryd.prog 87 3 = true := by kernel_rfl
theorem zero_87 : zeroOf Tryd.prog 87 = some (.agg #[.slice none 0 0, .int .i64 0, .int .i8 0]) := by kernel_rfl
theorem plc_87 : placesOf Tryd.prog 87 = some [(0, 1), (1, 1), (2, 1)] := by kernel_rfl
theorem fld_87_0 : fieldOff Tryd.prog 87 0 = some 0 := by kernel_rfl
theorem fld_87_1 : fieldOff Tryd.prog 87 1 = some 1 := by kernel_rfl
theorem fld_87_2 : fieldOff Tryd.prog 87 2 = some 2 := by kernel_rfl
theorem some_87 : (Tryd.prog.underlying 87).isSome = true := by kernel_rfl
theorem agg_88 : aggB Tryd.prog 88 = true := by kernel_rfl
theorem size_88 : sizeIs Tryd.prog 88 3 = true := by kernel_rfl
theorem zero_88 : zeroOf Tryd.prog 88 = some (.agg #[.slice none 0 0, .int .i64 0, .int .i8 0]) := by kernel_rfl
theorem plc_88 : placesOf Tryd.prog 88 = some [(0, 1), (1, 1), (2, 1)] := by kernel_rfl
theorem fld_88_0 : fieldOff Tryd.prog 88 0 = some 0 := by kernel_rfl
theorem fld_88_1 : fieldOff Tryd.prog 88 1 = some 1 := by kernel_rfl
theorem fld_88_2 : fieldOff Tryd.prog 88 2 = some 2 := by kernel_rfl
theorem some_88 : (Tryd.prog.underlying 88).isSome = true := by kernel_rfl
theorem flat_89 : flatB Tryd.prog 89 = true := by kernel_rfl
theorem size_89 : sizeIs Tryd.prog 89 1 = true := by kernel_rfl
theorem zero_89 : zeroOf Tryd.prog 89 = some (.nilIface) := by kernel_rfl
theorem some_89 : (Tryd.prog.underlying 89).isSome = true := by kernel_rfl
theorem flat_90 : flatB Tryd.prog 90 = true := by kernel_rfl
theorem size_90 : sizeIs Tryd.prog 90 1 = true := by kernel_rfl
theorem zero_90 : zeroOf Tryd.prog 90 = some (.nilIface) := by kernel_rfl
theorem some_90 : (Tryd.prog.underlying 90).isSome = true := by kernel_rfl
theorem flat_91 : flatB Tryd.prog 91 = true := by kernel_rfl
theorem size_91 : sizeIs Tryd.prog 91 1 = true := by kernel_rfl
theorem zero_91 : zeroOf Tryd.prog 91 = some (.nilFunc) := by kernel_rfl
theorem some_91 : (Tryd.prog.underlying 91).isSome = true := by kernel_rfl
theorem flat_92 : flatB Tryd.prog 92 = true := by kernel_rfl
theorem size_92 : sizeIs Tryd.prog 92 1 = true := by kernel_rfl
theorem zero_92 : zeroOf Tryd.prog 92 = some (.nilFunc) := by kernel_rfl
theorem some_92 : (Tryd.prog.underlying 92).isSome = true := by kernel_rfl
theorem flat_93 : flatB Tryd.prog 93 = true := by kernel_rfl
theorem size_93 : sizeIs Tryd.prog 93 1 = true := by kernel_rfl
theorem zero_93 : zeroOf Tryd.prog 93 = some (.slice none 0 0) := by kernel_rfl
theorem elem_93 : sliceElem Tryd.prog 93 = some 4 := by kernel_rfl
theorem row_93 : RowT Tryd.prog 93 4 1 1 (.bool false) := ⟨by kernel_rfl, by kernel_rfl, rfl, by decide⟩
theorem some_93 : (Tryd.prog.underlying 93).isSome = true := by kernel_rfl
theorem flat_94 : flatB Tryd.prog 94 = true := by kernel_rfl
theorem size_94 : sizeIs Tryd.prog 94 1 = true := by kernel_rfl
theorem zero_94 : zeroOf Tryd.prog 94 = some (.slice none 0 0) := by kernel_rfl
theorem elem_94 : sliceElem Tryd.prog 94 = some 3 := by kernel_rfl
theorem row_94 : RowT Tryd.prog 94 3 1 8 (.int .i64 0) := ⟨by kernel_rfl, by kernel_rfl, rfl, by decide⟩
theorem some_94 : (Tryd.prog.underlying 94).isSome = true := by kernel_rfl
theorem zero_95 : zeroOf Tryd.prog 95 = some (.tuple #[.slice none 0 0, .slice none 0 0, .int .u64 0]) := by kernel_rfl
theorem some_95 : (Tryd.prog.underlying 95).isSome = true := by kernel_rfl
theorem flat_96 : flatB Tryd.prog 96 = true := by kernel_rfl
theorem size_96 : sizeIs Tryd.prog 96 1 = true := by kernel_rfl
theorem zero_96 : zeroOf Tryd.prog 96 = some (.nilFunc) := by kernel_rfl
theorem some_96 : (Tryd.prog.underlying 96).isSome = true := by kernel_rfl
theorem flat_97 : flatB Tryd.prog 97 = true := by kernel_rfl
theorem size_97 : sizeIs Tryd.prog 97 1 = true := by kernel_rfl
theorem zero_97 : zeroOf Tryd.prog 97 = some (.nilFunc) := by kernel_rfl
theorem some_97 : (Tryd.prog.underlying 97).isSome = true := by kernel_rfl
theorem flat_98 : flatB Tryd.prog 98 = true := by kernel_rfl
theorem size_98 : sizeIs Tryd.prog 98 1 = true := by kernel_rfl
theorem zero_98 : zeroOf Tryd.prog 98 = some (.pointer none) := by kernel_rfl
theorem ptr_98 : Tryd.prog.underlying 98 = some (.pointer (Tryd.prog.pointee 98)) := by kernel_rfl
theorem some_98 : (Tryd.prog.underlying 98).isSome = true := by kernel_rfl
theorem zero_99 : zeroOf Tryd.prog 99 = some (.tuple #[.int .i64 0, .bool false]) := by kernel_rfl
theorem some_99 : (Tryd.prog.underlying 99).isSome = true := by kernel_rfl
theorem flat_100 : flatB Tryd.prog 100 = true := by kernel_rfl
theorem size_100 : sizeIs Tryd.prog 100 1 = true := by kernel_rfl
theorem zero_100 : zeroOf Tryd.prog 100 = some (.nilFunc) := by kernel_rfl
theorem some_100 : (Tryd.prog.underlying 100).isSome = true := by kernel_rfl
theorem flat_101 : flatB Tryd.prog 101 = true := by kernel_rfl
theorem size_101 : sizeIs Tryd.prog 101 1 = true := by kernel_rfl
theorem zero_101 : zeroOf Tryd.prog 101 = some (.nilFunc) := by kernel_rfl
theorem some_101 : (Tryd.prog.underlying 101).isSome = true := by kernel_rfl
theorem flat_102 : flatB Tryd.prog 102 = true := by kernel_rfl
theorem size_102 : sizeIs Tryd.prog 102 1 = true := by kernel_rfl
theorem zero_102 : zeroOf Tryd.prog 102 = some (.nilFunc) := by kernel_rfl
theorem some_102 : (Tryd.prog.underlying 102).isSome = true := by kernel_rfl
theorem flat_103 : flatB Tryd.prog 103 = true := by kernel_rfl
theorem size_103 : sizeIs Tryd.prog 103 1 = true := by kernel_rfl
theorem zero_103 : zeroOf Tryd.prog 103 = some (.pointer none) := by kernel_rfl
theorem ptr_103 : Tryd.prog.underlying 103 = some (.pointer (Tryd.prog.pointee 103)) := by kernel_rfl
theorem some_103 : (Tryd.prog.underlying 103).isSome = true := by kernel_rfl
theorem flat_111 : flatB Tryd.prog 111 = true := by kernel_rfl
theorem size_111 : sizeIs Tryd.prog 111 1 = true := by kernel_rfl
theorem zero_111 : zeroOf Tryd.prog 111 = some (.nilFunc) := by kernel_rfl
theorem some_111 : (Tryd.prog.underlying 111).isSome = true := by kernel_rfl
theorem flat_112 : flatB Tryd.prog 112 = true := by kernel_rfl
theorem size_112 : sizeIs Tryd.prog 112 1 = true := by kernel_rfl
theorem zero_112 : zeroOf Tryd.prog 112 = some (.pointer none) := by kernel_rfl
theorem ptr_112 : Tryd.prog.underlying 112 = some (.pointer (Tryd.prog.pointee 112)) := by kernel_rfl
theorem some_112 : (Tryd.prog.underlying 112).isSome = true := by kernel_rfl
theorem agg_117 : aggB Tryd.prog 117 = true := by kernel_rfl
theorem size_117 : sizeIs Tryd.prog 117 1 = true := by kernel_rfl
theorem zero_117 : zeroOf Tryd.prog 117 = some (.agg #[.string ⟨#[]⟩]) := by kernel_rfl
theorem plc_117 : placesOf Tryd.prog 117 = some [(0, 1)] := by kernel_rfl
theorem fld_117_0 : fieldOff Tryd.prog 117 0 = some 0 := by kernel_rfl
theorem some_117 : (Tryd.prog.underlying 117).isSome = true := by kernel_rfl
theorem agg_118 : aggB Tryd.prog 118 = true := by kernel_rfl
theorem size_118 : sizeIs Tryd.prog 118 1 = true := by kernel_rfl
theorem zero_118 : zeroOf Tryd.prog 118 = some (.agg #[.string ⟨#[]⟩]) := by kernel_rfl
theorem plc_118 : placesOf Tryd.prog 118 = some [(0, 1)] := by kernel_rfl
theorem fld_118_0 : fieldOff Tryd.prog 118 0 = some 0 := by kernel_rfl
theorem some_118 : (Tryd.prog.underlying 118).isSome = true := by kernel_rfl
theorem flat_119 : flatB Tryd.prog 119 = true := by kernel_rfl
theorem zero_119 : zeroOf Tryd.prog 119 = some (.pointer none) := by kernel_rfl
theorem some_119 : (Tryd.prog.underlying 119).isSome = true := by kernel_rfl
theorem flat_120 : flatB Tryd.prog 120 = true := by kernel_rfl
theorem size_120 : sizeIs Tryd.prog 120 1 = true := by kernel_rfl
theorem zero_120 : zeroOf Tryd.prog 120 = some (.nilFunc) := by kernel_rfl
theorem some_120 : (Tryd.prog.underlying 120).isSome = true := by kernel_rfl
theorem body_3 : hasBody Tryd.prog 3 = true := by kernel_rfl
theorem body_4 : hasBody Tryd.prog 4 = true := by kernel_rfl
theorem body_5 : hasBody Tryd.prog 5 = true := by kernel_rfl
theorem body_6 : hasBody Tryd.prog 6 = true := by kernel_rfl
theorem body_7 : hasBody Tryd.prog 7 = true := by kernel_rfl
theorem body_8 : hasBody Tryd.prog 8 = true := by kernel_rfl
theorem body_9 : hasBody Tryd.prog 9 = true := by kernel_rfl
theorem body_10 : hasBody Tryd.prog 10 = true := by kernel_rfl
theorem body_11 : hasBody Tryd.prog 11 = true := by kernel_rfl
theorem body_12 : hasBody Tryd.prog 12 = true := by kernel_rfl
theorem body_13 : hasBody Tryd.prog 13 = true := by kernel_rfl
theorem body_14 : hasBody Tryd.prog 14 = true := by kernel_rfl
theorem body_15 : hasBody Tryd.prog 15 = true := by kernel_rfl
theorem body_16 : hasBody Tryd.prog 16 = true := by kernel_rfl
theorem body_17 : hasBody Tryd.prog 17 = true := by kernel_rfl
theorem body_18 : hasBody Tryd.prog 18 = true := by kernel_rfl
theorem body_19 : hasBody Tryd.prog 19 = true := by kernel_rfl
theorem body_20 : hasBody Tryd.prog 20 = true := by kernel_rfl
theorem body_21 : hasBody Tryd.prog 21 = true := by kernel_rfl
theorem body_22 : hasBody Tryd.prog 22 = true := by kernel_rfl
theorem body_23 : hasBody Tryd.prog 23 = true := by kernel_rfl
theorem body_24 : hasBody Tryd.prog 24 = true := by kernel_rfl
theorem body_25 : hasBody Tryd.prog 25 = true := by kernel_rfl
theorem body_26 : hasBody Tryd.prog 26 = true := by kernel_rfl
theorem body_27 : hasBody Tryd.prog 27 = true := by kernel_rfl
theorem body_28 : hasBody Tryd.prog 28 = true := by kernel_rfl
theorem body_29 : hasBody Tryd.prog 29 = true := by kernel_rfl
theorem body_30 : hasBody Tryd.prog 30 = true := by kernel_rfl
theorem body_31 : hasBody Tryd.prog 31 = true := by kernel_rfl
theorem body_32 : hasBody Tryd.prog 32 = true := by kernel_rfl
theorem body_33 : hasBody Tryd.prog 33 = true := by kernel_rfl
theorem body_34 : hasBody Tryd.prog 34 = true := by kernel_rfl
theorem body_35 : hasBody Tryd.prog 35 = true := by kernel_rfl
theorem body_36 : hasBody Tryd.prog 36 = true := by kernel_rfl
theorem body_37 : hasBody Tryd.prog 37 = true := by kernel_rfl
theorem body_38 : hasBody Tryd.prog 38 = true := by kernel_rfl
theorem body_39 : hasBody Tryd.prog 39 = true := by kernel_rfl
theorem body_40 : hasBody Tryd.prog 40 = true := by kernel_rfl
theorem body_41 : hasBody Tryd.prog 41 = true := by kernel_rfl
theorem body_42 : hasBody Tryd.prog 42 = true := by kernel_rfl
theorem body_43 : hasBody Tryd.prog 43 = true := by kernel_rfl
theorem body_44 : hasBody Tryd.prog 44 = true := by kernel_rfl
theorem body_45 : hasBody Tryd.prog 45 = true := by kernel_rfl
theorem body_46 : hasBody Tryd.prog 46 = true := by kernel_rfl
theorem body_47 : hasBody Tryd.prog 47 = true := by kernel_rfl
theorem body_48 : hasBody Tryd.prog 48 = true := by kernel_rfl
theorem body_49 : hasBody Tryd.prog 49 = true := by kernel_rfl
theorem body_50 : hasBody Tryd.prog 50 = true := by kernel_rfl
theorem body_51 : hasBody Tryd.prog 51 = true := by kernel_rfl
theorem body_52 : hasBody Tryd.prog 52 = true := by kernel_rfl
theorem body_53 : hasBody Tryd.prog 53 = true := by kernel_rfl
theorem body_54 : hasBody Tryd.prog 54 = true := by kernel_rfl
theorem body_55 : hasBody Tryd.prog 55 = true := by kernel_rfl
theorem body_73 : hasBody Tryd.prog 73 = true := by kernel_rfl
theorem mixed : Tryd.prog.follows .mixedOrders = true := by kernel_rfl
end Go.Proofs.YtdpnnclkkbfihaaDoor
