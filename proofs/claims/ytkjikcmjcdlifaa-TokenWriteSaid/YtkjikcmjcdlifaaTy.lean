/-
  The types of this seat's translation, as closed facts. By a program of ours (tyfacts.py).
-/
import Derived.Test.YtkjikcmjcdlifaaEwI
import Derived.Test.YtkjikcmjcdlifaaProg
import Derived.KernelRfl
namespace Go.Proofs.Ytkjikcmjcdlifaa
open Go Go.Ew Go.Proofs
@[go_sem] theorem ty_slice_0 : sliceTy Try.prog 0 = none := by kernel_rfl
@[go_sem] theorem ty_slice_1 : sliceTy Try.prog 1 = none := by kernel_rfl
@[go_sem] theorem ty_str_2 : strTy Try.prog 2 = false := by kernel_rfl
@[go_sem] theorem ty_bool_2 : boolTy Try.prog 2 = false := by kernel_rfl
@[go_sem] theorem ty_int_2 : intTy Try.prog 2 = some .i64 := by kernel_rfl
@[go_sem] theorem ty_slice_2 : sliceTy Try.prog 2 = none := by kernel_rfl
@[go_sem] theorem ty_agg_2 : aggTy Try.prog 2 = some false := by kernel_rfl
@[go_sem] theorem ty_size_2 : sizeTy Try.prog 2 = some 1 := by kernel_rfl
@[go_sem] theorem ty_zero_2 : zeroTy Try.prog 2 = some [.lit (.int .i64 0)] := by kernel_rfl
@[go_sem] theorem ty_array_2 : arrayTy Try.prog 2 = none := by kernel_rfl
@[go_sem] theorem ty_str_3 : strTy Try.prog 3 = false := by kernel_rfl
@[go_sem] theorem ty_bool_3 : boolTy Try.prog 3 = false := by kernel_rfl
@[go_sem] theorem ty_int_3 : intTy Try.prog 3 = some .i64 := by kernel_rfl
@[go_sem] theorem ty_slice_3 : sliceTy Try.prog 3 = none := by kernel_rfl
@[go_sem] theorem ty_agg_3 : aggTy Try.prog 3 = some false := by kernel_rfl
@[go_sem] theorem ty_size_3 : sizeTy Try.prog 3 = some 1 := by kernel_rfl
@[go_sem] theorem ty_zero_3 : zeroTy Try.prog 3 = some [.lit (.int .i64 0)] := by kernel_rfl
@[go_sem] theorem ty_array_3 : arrayTy Try.prog 3 = none := by kernel_rfl
@[go_sem] theorem ty_str_4 : strTy Try.prog 4 = false := by kernel_rfl
@[go_sem] theorem ty_bool_4 : boolTy Try.prog 4 = true := by kernel_rfl
@[go_sem] theorem ty_int_4 : intTy Try.prog 4 = none := by kernel_rfl
@[go_sem] theorem ty_slice_4 : sliceTy Try.prog 4 = none := by kernel_rfl
@[go_sem] theorem ty_agg_4 : aggTy Try.prog 4 = some false := by kernel_rfl
@[go_sem] theorem ty_size_4 : sizeTy Try.prog 4 = some 1 := by kernel_rfl
@[go_sem] theorem ty_zero_4 : zeroTy Try.prog 4 = some [.lit (.bool false)] := by kernel_rfl
@[go_sem] theorem ty_array_4 : arrayTy Try.prog 4 = none := by kernel_rfl
@[go_sem] theorem ty_str_5 : strTy Try.prog 5 = false := by kernel_rfl
@[go_sem] theorem ty_bool_5 : boolTy Try.prog 5 = false := by kernel_rfl
@[go_sem] theorem ty_int_5 : intTy Try.prog 5 = some .u8 := by kernel_rfl
@[go_sem] theorem ty_slice_5 : sliceTy Try.prog 5 = none := by kernel_rfl
@[go_sem] theorem ty_agg_5 : aggTy Try.prog 5 = some false := by kernel_rfl
@[go_sem] theorem ty_size_5 : sizeTy Try.prog 5 = some 1 := by kernel_rfl
@[go_sem] theorem ty_zero_5 : zeroTy Try.prog 5 = some [.lit (.int .u8 0)] := by kernel_rfl
@[go_sem] theorem ty_array_5 : arrayTy Try.prog 5 = none := by kernel_rfl
@[go_sem] theorem ty_str_6 : strTy Try.prog 6 = false := by kernel_rfl
@[go_sem] theorem ty_bool_6 : boolTy Try.prog 6 = false := by kernel_rfl
@[go_sem] theorem ty_int_6 : intTy Try.prog 6 = some .u8 := by kernel_rfl
@[go_sem] theorem ty_slice_6 : sliceTy Try.prog 6 = none := by kernel_rfl
@[go_sem] theorem ty_agg_6 : aggTy Try.prog 6 = some false := by kernel_rfl
@[go_sem] theorem ty_size_6 : sizeTy Try.prog 6 = some 1 := by kernel_rfl
@[go_sem] theorem ty_zero_6 : zeroTy Try.prog 6 = some [.lit (.int .u8 0)] := by kernel_rfl
@[go_sem] theorem ty_array_6 : arrayTy Try.prog 6 = none := by kernel_rfl
@[go_sem] theorem ty_str_7 : strTy Try.prog 7 = false := by kernel_rfl
@[go_sem] theorem ty_bool_7 : boolTy Try.prog 7 = false := by kernel_rfl
@[go_sem] theorem ty_int_7 : intTy Try.prog 7 = none := by kernel_rfl
@[go_sem] theorem ty_slice_7 : sliceTy Try.prog 7 = none := by kernel_rfl
@[go_sem] theorem ty_agg_7 : aggTy Try.prog 7 = some true := by kernel_rfl
@[go_sem] theorem ty_size_7 : sizeTy Try.prog 7 = some 4 := by kernel_rfl
@[go_sem] theorem ty_zero_7 : zeroTy Try.prog 7 = some [.lit (.int .i64 0), .lit (.int .i64 0), .lit (.bool false), .lit (.int .u8 0)] := by kernel_rfl
@[go_sem] theorem ty_array_7 : arrayTy Try.prog 7 = none := by kernel_rfl
@[go_sem] theorem ty_field_7_0 : fieldTy Try.prog 7 0 = some (0, 1, 2) := by kernel_rfl
@[go_sem] theorem ty_field_7_1 : fieldTy Try.prog 7 1 = some (1, 1, 3) := by kernel_rfl
@[go_sem] theorem ty_field_7_2 : fieldTy Try.prog 7 2 = some (2, 1, 4) := by kernel_rfl
@[go_sem] theorem ty_field_7_3 : fieldTy Try.prog 7 3 = some (3, 1, 6) := by kernel_rfl
@[go_sem] theorem ty_places_7 : placesTy Try.prog 7 = some [(0, 1), (1, 1), (2, 1), (3, 1)] := by kernel_rfl
@[go_sem] theorem ty_str_8 : strTy Try.prog 8 = false := by kernel_rfl
@[go_sem] theorem ty_bool_8 : boolTy Try.prog 8 = false := by kernel_rfl
@[go_sem] theorem ty_int_8 : intTy Try.prog 8 = none := by kernel_rfl
@[go_sem] theorem ty_slice_8 : sliceTy Try.prog 8 = none := by kernel_rfl
@[go_sem] theorem ty_agg_8 : aggTy Try.prog 8 = some true := by kernel_rfl
@[go_sem] theorem ty_size_8 : sizeTy Try.prog 8 = some 4 := by kernel_rfl
@[go_sem] theorem ty_zero_8 : zeroTy Try.prog 8 = some [.lit (.int .i64 0), .lit (.int .i64 0), .lit (.bool false), .lit (.int .u8 0)] := by kernel_rfl
@[go_sem] theorem ty_array_8 : arrayTy Try.prog 8 = none := by kernel_rfl
@[go_sem] theorem ty_field_8_0 : fieldTy Try.prog 8 0 = some (0, 1, 2) := by kernel_rfl
@[go_sem] theorem ty_field_8_1 : fieldTy Try.prog 8 1 = some (1, 1, 3) := by kernel_rfl
@[go_sem] theorem ty_field_8_2 : fieldTy Try.prog 8 2 = some (2, 1, 4) := by kernel_rfl
@[go_sem] theorem ty_field_8_3 : fieldTy Try.prog 8 3 = some (3, 1, 6) := by kernel_rfl
@[go_sem] theorem ty_places_8 : placesTy Try.prog 8 = some [(0, 1), (1, 1), (2, 1), (3, 1)] := by kernel_rfl
@[go_sem] theorem ty_str_9 : strTy Try.prog 9 = true := by kernel_rfl
@[go_sem] theorem ty_bool_9 : boolTy Try.prog 9 = false := by kernel_rfl
@[go_sem] theorem ty_int_9 : intTy Try.prog 9 = none := by kernel_rfl
@[go_sem] theorem ty_slice_9 : sliceTy Try.prog 9 = none := by kernel_rfl
@[go_sem] theorem ty_agg_9 : aggTy Try.prog 9 = some false := by kernel_rfl
@[go_sem] theorem ty_size_9 : sizeTy Try.prog 9 = some 1 := by kernel_rfl
@[go_sem] theorem ty_zero_9 : zeroTy Try.prog 9 = some [.lit (.string ⟨⟨[]⟩⟩)] := by kernel_rfl
@[go_sem] theorem ty_array_9 : arrayTy Try.prog 9 = none := by kernel_rfl
@[go_sem] theorem ty_str_10 : strTy Try.prog 10 = true := by kernel_rfl
@[go_sem] theorem ty_bool_10 : boolTy Try.prog 10 = false := by kernel_rfl
@[go_sem] theorem ty_int_10 : intTy Try.prog 10 = none := by kernel_rfl
@[go_sem] theorem ty_slice_10 : sliceTy Try.prog 10 = none := by kernel_rfl
@[go_sem] theorem ty_agg_10 : aggTy Try.prog 10 = some false := by kernel_rfl
@[go_sem] theorem ty_size_10 : sizeTy Try.prog 10 = some 1 := by kernel_rfl
@[go_sem] theorem ty_zero_10 : zeroTy Try.prog 10 = some [.lit (.string ⟨⟨[]⟩⟩)] := by kernel_rfl
@[go_sem] theorem ty_array_10 : arrayTy Try.prog 10 = none := by kernel_rfl
@[go_sem] theorem ty_str_11 : strTy Try.prog 11 = true := by kernel_rfl
@[go_sem] theorem ty_bool_11 : boolTy Try.prog 11 = false := by kernel_rfl
@[go_sem] theorem ty_int_11 : intTy Try.prog 11 = none := by kernel_rfl
@[go_sem] theorem ty_slice_11 : sliceTy Try.prog 11 = none := by kernel_rfl
@[go_sem] theorem ty_agg_11 : aggTy Try.prog 11 = some false := by kernel_rfl
@[go_sem] theorem ty_size_11 : sizeTy Try.prog 11 = some 1 := by kernel_rfl
@[go_sem] theorem ty_zero_11 : zeroTy Try.prog 11 = some [.lit (.string ⟨⟨[]⟩⟩)] := by kernel_rfl
@[go_sem] theorem ty_array_11 : arrayTy Try.prog 11 = none := by kernel_rfl
@[go_sem] theorem ty_str_12 : strTy Try.prog 12 = false := by kernel_rfl
@[go_sem] theorem ty_bool_12 : boolTy Try.prog 12 = false := by kernel_rfl
@[go_sem] theorem ty_int_12 : intTy Try.prog 12 = some .u64 := by kernel_rfl
@[go_sem] theorem ty_slice_12 : sliceTy Try.prog 12 = none := by kernel_rfl
@[go_sem] theorem ty_agg_12 : aggTy Try.prog 12 = some false := by kernel_rfl
@[go_sem] theorem ty_size_12 : sizeTy Try.prog 12 = some 1 := by kernel_rfl
@[go_sem] theorem ty_zero_12 : zeroTy Try.prog 12 = some [.lit (.int .u64 0)] := by kernel_rfl
@[go_sem] theorem ty_array_12 : arrayTy Try.prog 12 = none := by kernel_rfl
@[go_sem] theorem ty_str_13 : strTy Try.prog 13 = false := by kernel_rfl
@[go_sem] theorem ty_bool_13 : boolTy Try.prog 13 = false := by kernel_rfl
@[go_sem] theorem ty_int_13 : intTy Try.prog 13 = none := by kernel_rfl
@[go_sem] theorem ty_slice_13 : sliceTy Try.prog 13 = none := by kernel_rfl
@[go_sem] theorem ty_agg_13 : aggTy Try.prog 13 = some true := by kernel_rfl
@[go_sem] theorem ty_size_13 : sizeTy Try.prog 13 = some 2 := by kernel_rfl
@[go_sem] theorem ty_zero_13 : zeroTy Try.prog 13 = some [.lit (.string ⟨⟨[]⟩⟩), .lit (.int .u64 0)] := by kernel_rfl
@[go_sem] theorem ty_array_13 : arrayTy Try.prog 13 = none := by kernel_rfl
@[go_sem] theorem ty_field_13_0 : fieldTy Try.prog 13 0 = some (0, 1, 9) := by kernel_rfl
@[go_sem] theorem ty_field_13_1 : fieldTy Try.prog 13 1 = some (1, 1, 12) := by kernel_rfl
@[go_sem] theorem ty_places_13 : placesTy Try.prog 13 = some [(0, 1), (1, 1)] := by kernel_rfl
@[go_sem] theorem ty_str_14 : strTy Try.prog 14 = false := by kernel_rfl
@[go_sem] theorem ty_bool_14 : boolTy Try.prog 14 = false := by kernel_rfl
@[go_sem] theorem ty_int_14 : intTy Try.prog 14 = none := by kernel_rfl
@[go_sem] theorem ty_slice_14 : sliceTy Try.prog 14 = none := by kernel_rfl
@[go_sem] theorem ty_agg_14 : aggTy Try.prog 14 = some true := by kernel_rfl
@[go_sem] theorem ty_size_14 : sizeTy Try.prog 14 = some 2 := by kernel_rfl
@[go_sem] theorem ty_zero_14 : zeroTy Try.prog 14 = some [.lit (.string ⟨⟨[]⟩⟩), .lit (.int .u64 0)] := by kernel_rfl
@[go_sem] theorem ty_array_14 : arrayTy Try.prog 14 = none := by kernel_rfl
@[go_sem] theorem ty_field_14_0 : fieldTy Try.prog 14 0 = some (0, 1, 9) := by kernel_rfl
@[go_sem] theorem ty_field_14_1 : fieldTy Try.prog 14 1 = some (1, 1, 12) := by kernel_rfl
@[go_sem] theorem ty_places_14 : placesTy Try.prog 14 = some [(0, 1), (1, 1)] := by kernel_rfl
@[go_sem] theorem ty_str_15 : strTy Try.prog 15 = false := by kernel_rfl
@[go_sem] theorem ty_bool_15 : boolTy Try.prog 15 = false := by kernel_rfl
@[go_sem] theorem ty_int_15 : intTy Try.prog 15 = none := by kernel_rfl
@[go_sem] theorem ty_slice_15 : sliceTy Try.prog 15 = none := by kernel_rfl
@[go_sem] theorem ty_agg_15 : aggTy Try.prog 15 = some false := by kernel_rfl
@[go_sem] theorem ty_size_15 : sizeTy Try.prog 15 = some 1 := by kernel_rfl
@[go_sem] theorem ty_zero_15 : zeroTy Try.prog 15 = some [.lit (.pointer none)] := by kernel_rfl
@[go_sem] theorem ty_array_15 : arrayTy Try.prog 15 = none := by kernel_rfl
@[go_sem] theorem ty_str_16 : strTy Try.prog 16 = false := by kernel_rfl
@[go_sem] theorem ty_bool_16 : boolTy Try.prog 16 = false := by kernel_rfl
@[go_sem] theorem ty_int_16 : intTy Try.prog 16 = none := by kernel_rfl
@[go_sem] theorem ty_slice_16 : sliceTy Try.prog 16 = none := by kernel_rfl
@[go_sem] theorem ty_agg_16 : aggTy Try.prog 16 = some false := by kernel_rfl
@[go_sem] theorem ty_size_16 : sizeTy Try.prog 16 = some 1 := by kernel_rfl
@[go_sem] theorem ty_zero_16 : zeroTy Try.prog 16 = some [.lit (.pointer none)] := by kernel_rfl
@[go_sem] theorem ty_array_16 : arrayTy Try.prog 16 = none := by kernel_rfl
@[go_sem] theorem ty_str_17 : strTy Try.prog 17 = false := by kernel_rfl
@[go_sem] theorem ty_bool_17 : boolTy Try.prog 17 = false := by kernel_rfl
@[go_sem] theorem ty_int_17 : intTy Try.prog 17 = none := by kernel_rfl
@[go_sem] theorem ty_slice_17 : sliceTy Try.prog 17 = none := by kernel_rfl
@[go_sem] theorem ty_agg_17 : aggTy Try.prog 17 = some false := by kernel_rfl
@[go_sem] theorem ty_size_17 : sizeTy Try.prog 17 = some 1 := by kernel_rfl
@[go_sem] theorem ty_zero_17 : zeroTy Try.prog 17 = some [.lit (.pointer none)] := by kernel_rfl
@[go_sem] theorem ty_array_17 : arrayTy Try.prog 17 = none := by kernel_rfl
@[go_sem] theorem ty_str_18 : strTy Try.prog 18 = false := by kernel_rfl
@[go_sem] theorem ty_bool_18 : boolTy Try.prog 18 = false := by kernel_rfl
@[go_sem] theorem ty_int_18 : intTy Try.prog 18 = none := by kernel_rfl
@[go_sem] theorem ty_slice_18 : sliceTy Try.prog 18 = none := by kernel_rfl
@[go_sem] theorem ty_agg_18 : aggTy Try.prog 18 = some true := by kernel_rfl
@[go_sem] theorem ty_size_18 : sizeTy Try.prog 18 = some 1 := by kernel_rfl
@[go_sem] theorem ty_zero_18 : zeroTy Try.prog 18 = some [.lit (.pointer none)] := by kernel_rfl
@[go_sem] theorem ty_array_18 : arrayTy Try.prog 18 = none := by kernel_rfl
@[go_sem] theorem ty_field_18_0 : fieldTy Try.prog 18 0 = some (0, 1, 17) := by kernel_rfl
@[go_sem] theorem ty_places_18 : placesTy Try.prog 18 = some [(0, 1)] := by kernel_rfl
@[go_sem] theorem ty_str_19 : strTy Try.prog 19 = false := by kernel_rfl
@[go_sem] theorem ty_bool_19 : boolTy Try.prog 19 = false := by kernel_rfl
@[go_sem] theorem ty_int_19 : intTy Try.prog 19 = none := by kernel_rfl
@[go_sem] theorem ty_slice_19 : sliceTy Try.prog 19 = none := by kernel_rfl
@[go_sem] theorem ty_agg_19 : aggTy Try.prog 19 = some true := by kernel_rfl
@[go_sem] theorem ty_size_19 : sizeTy Try.prog 19 = some 1 := by kernel_rfl
@[go_sem] theorem ty_zero_19 : zeroTy Try.prog 19 = some [.lit (.pointer none)] := by kernel_rfl
@[go_sem] theorem ty_array_19 : arrayTy Try.prog 19 = none := by kernel_rfl
@[go_sem] theorem ty_field_19_0 : fieldTy Try.prog 19 0 = some (0, 1, 17) := by kernel_rfl
@[go_sem] theorem ty_places_19 : placesTy Try.prog 19 = some [(0, 1)] := by kernel_rfl
@[go_sem] theorem ty_slice_20 : sliceTy Try.prog 20 = none := by kernel_rfl
@[go_sem] theorem ty_str_21 : strTy Try.prog 21 = false := by kernel_rfl
@[go_sem] theorem ty_bool_21 : boolTy Try.prog 21 = false := by kernel_rfl
@[go_sem] theorem ty_int_21 : intTy Try.prog 21 = some .i32 := by kernel_rfl
@[go_sem] theorem ty_slice_21 : sliceTy Try.prog 21 = none := by kernel_rfl
@[go_sem] theorem ty_agg_21 : aggTy Try.prog 21 = some false := by kernel_rfl
@[go_sem] theorem ty_size_21 : sizeTy Try.prog 21 = some 1 := by kernel_rfl
@[go_sem] theorem ty_zero_21 : zeroTy Try.prog 21 = some [.lit (.int .i32 0)] := by kernel_rfl
@[go_sem] theorem ty_array_21 : arrayTy Try.prog 21 = none := by kernel_rfl
@[go_sem] theorem ty_slice_22 : sliceTy Try.prog 22 = none := by kernel_rfl
@[go_sem] theorem ty_str_23 : strTy Try.prog 23 = false := by kernel_rfl
@[go_sem] theorem ty_bool_23 : boolTy Try.prog 23 = false := by kernel_rfl
@[go_sem] theorem ty_int_23 : intTy Try.prog 23 = some .i64 := by kernel_rfl
@[go_sem] theorem ty_slice_23 : sliceTy Try.prog 23 = none := by kernel_rfl
@[go_sem] theorem ty_agg_23 : aggTy Try.prog 23 = some false := by kernel_rfl
@[go_sem] theorem ty_size_23 : sizeTy Try.prog 23 = some 1 := by kernel_rfl
@[go_sem] theorem ty_zero_23 : zeroTy Try.prog 23 = some [.lit (.int .i64 0)] := by kernel_rfl
@[go_sem] theorem ty_array_23 : arrayTy Try.prog 23 = none := by kernel_rfl
@[go_sem] theorem ty_slice_24 : sliceTy Try.prog 24 = none := by kernel_rfl
@[go_sem] theorem ty_slice_25 : sliceTy Try.prog 25 = none := by kernel_rfl
@[go_sem] theorem ty_slice_26 : sliceTy Try.prog 26 = none := by kernel_rfl
@[go_sem] theorem ty_str_27 : strTy Try.prog 27 = false := by kernel_rfl
@[go_sem] theorem ty_bool_27 : boolTy Try.prog 27 = false := by kernel_rfl
@[go_sem] theorem ty_int_27 : intTy Try.prog 27 = some .u16 := by kernel_rfl
@[go_sem] theorem ty_slice_27 : sliceTy Try.prog 27 = none := by kernel_rfl
@[go_sem] theorem ty_agg_27 : aggTy Try.prog 27 = some false := by kernel_rfl
@[go_sem] theorem ty_size_27 : sizeTy Try.prog 27 = some 1 := by kernel_rfl
@[go_sem] theorem ty_zero_27 : zeroTy Try.prog 27 = some [.lit (.int .u16 0)] := by kernel_rfl
@[go_sem] theorem ty_array_27 : arrayTy Try.prog 27 = none := by kernel_rfl
@[go_sem] theorem ty_str_28 : strTy Try.prog 28 = false := by kernel_rfl
@[go_sem] theorem ty_bool_28 : boolTy Try.prog 28 = false := by kernel_rfl
@[go_sem] theorem ty_int_28 : intTy Try.prog 28 = none := by kernel_rfl
@[go_sem] theorem ty_slice_28 : sliceTy Try.prog 28 = none := by kernel_rfl
@[go_sem] theorem ty_agg_28 : aggTy Try.prog 28 = some false := by kernel_rfl
@[go_sem] theorem ty_size_28 : sizeTy Try.prog 28 = some 1 := by kernel_rfl
@[go_sem] theorem ty_zero_28 : zeroTy Try.prog 28 = some [.lit (.pointer none)] := by kernel_rfl
@[go_sem] theorem ty_array_28 : arrayTy Try.prog 28 = none := by kernel_rfl
@[go_sem] theorem ty_str_29 : strTy Try.prog 29 = false := by kernel_rfl
@[go_sem] theorem ty_bool_29 : boolTy Try.prog 29 = false := by kernel_rfl
@[go_sem] theorem ty_int_29 : intTy Try.prog 29 = none := by kernel_rfl
@[go_sem] theorem ty_slice_29 : sliceTy Try.prog 29 = some (5, 1, 1) := by kernel_rfl
@[go_sem] theorem ty_agg_29 : aggTy Try.prog 29 = some false := by kernel_rfl
@[go_sem] theorem ty_size_29 : sizeTy Try.prog 29 = some 1 := by kernel_rfl
@[go_sem] theorem ty_zero_29 : zeroTy Try.prog 29 = some [.nils] := by kernel_rfl
@[go_sem] theorem ty_array_29 : arrayTy Try.prog 29 = none := by kernel_rfl
@[go_sem] theorem ty_str_30 : strTy Try.prog 30 = false := by kernel_rfl
@[go_sem] theorem ty_bool_30 : boolTy Try.prog 30 = false := by kernel_rfl
@[go_sem] theorem ty_int_30 : intTy Try.prog 30 = none := by kernel_rfl
@[go_sem] theorem ty_slice_30 : sliceTy Try.prog 30 = none := by kernel_rfl
@[go_sem] theorem ty_agg_30 : aggTy Try.prog 30 = some true := by kernel_rfl
@[go_sem] theorem ty_size_30 : sizeTy Try.prog 30 = some 2 := by kernel_rfl
@[go_sem] theorem ty_zero_30 : zeroTy Try.prog 30 = some [.lit (.pointer none), .nils] := by kernel_rfl
@[go_sem] theorem ty_array_30 : arrayTy Try.prog 30 = none := by kernel_rfl
@[go_sem] theorem ty_field_30_0 : fieldTy Try.prog 30 0 = some (0, 1, 28) := by kernel_rfl
@[go_sem] theorem ty_field_30_1 : fieldTy Try.prog 30 1 = some (1, 1, 29) := by kernel_rfl
@[go_sem] theorem ty_places_30 : placesTy Try.prog 30 = some [(0, 1), (1, 1)] := by kernel_rfl
@[go_sem] theorem ty_str_31 : strTy Try.prog 31 = false := by kernel_rfl
@[go_sem] theorem ty_bool_31 : boolTy Try.prog 31 = false := by kernel_rfl
@[go_sem] theorem ty_int_31 : intTy Try.prog 31 = none := by kernel_rfl
@[go_sem] theorem ty_slice_31 : sliceTy Try.prog 31 = none := by kernel_rfl
@[go_sem] theorem ty_agg_31 : aggTy Try.prog 31 = some true := by kernel_rfl
@[go_sem] theorem ty_size_31 : sizeTy Try.prog 31 = some 2 := by kernel_rfl
@[go_sem] theorem ty_zero_31 : zeroTy Try.prog 31 = some [.lit (.pointer none), .nils] := by kernel_rfl
@[go_sem] theorem ty_array_31 : arrayTy Try.prog 31 = none := by kernel_rfl
@[go_sem] theorem ty_field_31_0 : fieldTy Try.prog 31 0 = some (0, 1, 28) := by kernel_rfl
@[go_sem] theorem ty_field_31_1 : fieldTy Try.prog 31 1 = some (1, 1, 29) := by kernel_rfl
@[go_sem] theorem ty_places_31 : placesTy Try.prog 31 = some [(0, 1), (1, 1)] := by kernel_rfl
@[go_sem] theorem ty_slice_32 : sliceTy Try.prog 32 = none := by kernel_rfl
@[go_sem] theorem ty_slice_33 : sliceTy Try.prog 33 = none := by kernel_rfl
@[go_sem] theorem ty_slice_34 : sliceTy Try.prog 34 = none := by kernel_rfl
@[go_sem] theorem ty_slice_35 : sliceTy Try.prog 35 = none := by kernel_rfl
@[go_sem] theorem ty_str_36 : strTy Try.prog 36 = false := by kernel_rfl
@[go_sem] theorem ty_bool_36 : boolTy Try.prog 36 = false := by kernel_rfl
@[go_sem] theorem ty_int_36 : intTy Try.prog 36 = none := by kernel_rfl
@[go_sem] theorem ty_slice_36 : sliceTy Try.prog 36 = some (46, 3, 32) := by kernel_rfl
@[go_sem] theorem ty_agg_36 : aggTy Try.prog 36 = some false := by kernel_rfl
@[go_sem] theorem ty_size_36 : sizeTy Try.prog 36 = some 1 := by kernel_rfl
@[go_sem] theorem ty_zero_36 : zeroTy Try.prog 36 = some [.nils] := by kernel_rfl
@[go_sem] theorem ty_array_36 : arrayTy Try.prog 36 = none := by kernel_rfl
@[go_sem] theorem ty_slice_37 : sliceTy Try.prog 37 = none := by kernel_rfl
@[go_sem] theorem ty_slice_38 : sliceTy Try.prog 38 = none := by kernel_rfl
@[go_sem] theorem ty_slice_39 : sliceTy Try.prog 39 = none := by kernel_rfl
@[go_sem] theorem ty_slice_40 : sliceTy Try.prog 40 = none := by kernel_rfl
@[go_sem] theorem ty_slice_41 : sliceTy Try.prog 41 = none := by kernel_rfl
@[go_sem] theorem ty_slice_42 : sliceTy Try.prog 42 = none := by kernel_rfl
@[go_sem] theorem ty_slice_43 : sliceTy Try.prog 43 = none := by kernel_rfl
@[go_sem] theorem ty_slice_44 : sliceTy Try.prog 44 = none := by kernel_rfl
@[go_sem] theorem ty_str_45 : strTy Try.prog 45 = false := by kernel_rfl
@[go_sem] theorem ty_bool_45 : boolTy Try.prog 45 = false := by kernel_rfl
@[go_sem] theorem ty_int_45 : intTy Try.prog 45 = none := by kernel_rfl
@[go_sem] theorem ty_slice_45 : sliceTy Try.prog 45 = none := by kernel_rfl
@[go_sem] theorem ty_agg_45 : aggTy Try.prog 45 = some true := by kernel_rfl
@[go_sem] theorem ty_size_45 : sizeTy Try.prog 45 = some 3 := by kernel_rfl
@[go_sem] theorem ty_zero_45 : zeroTy Try.prog 45 = some [.lit (.int .i64 0), .lit (.string ⟨⟨[]⟩⟩), .lit (.int .i64 0)] := by kernel_rfl
@[go_sem] theorem ty_array_45 : arrayTy Try.prog 45 = none := by kernel_rfl
@[go_sem] theorem ty_field_45_0 : fieldTy Try.prog 45 0 = some (0, 1, 3) := by kernel_rfl
@[go_sem] theorem ty_field_45_1 : fieldTy Try.prog 45 1 = some (1, 1, 9) := by kernel_rfl
@[go_sem] theorem ty_field_45_2 : fieldTy Try.prog 45 2 = some (2, 1, 3) := by kernel_rfl
@[go_sem] theorem ty_places_45 : placesTy Try.prog 45 = some [(0, 1), (1, 1), (2, 1)] := by kernel_rfl
@[go_sem] theorem ty_str_46 : strTy Try.prog 46 = false := by kernel_rfl
@[go_sem] theorem ty_bool_46 : boolTy Try.prog 46 = false := by kernel_rfl
@[go_sem] theorem ty_int_46 : intTy Try.prog 46 = none := by kernel_rfl
@[go_sem] theorem ty_slice_46 : sliceTy Try.prog 46 = none := by kernel_rfl
@[go_sem] theorem ty_agg_46 : aggTy Try.prog 46 = some true := by kernel_rfl
@[go_sem] theorem ty_size_46 : sizeTy Try.prog 46 = some 3 := by kernel_rfl
@[go_sem] theorem ty_zero_46 : zeroTy Try.prog 46 = some [.lit (.int .i64 0), .lit (.string ⟨⟨[]⟩⟩), .lit (.int .i64 0)] := by kernel_rfl
@[go_sem] theorem ty_array_46 : arrayTy Try.prog 46 = none := by kernel_rfl
@[go_sem] theorem ty_field_46_0 : fieldTy Try.prog 46 0 = some (0, 1, 3) := by kernel_rfl
@[go_sem] theorem ty_field_46_1 : fieldTy Try.prog 46 1 = some (1, 1, 9) := by kernel_rfl
@[go_sem] theorem ty_field_46_2 : fieldTy Try.prog 46 2 = some (2, 1, 3) := by kernel_rfl
@[go_sem] theorem ty_places_46 : placesTy Try.prog 46 = some [(0, 1), (1, 1), (2, 1)] := by kernel_rfl
@[go_sem] theorem ty_plain_46 : plainTy Try.prog 46 = some [3, 9, 3] := by kernel_rfl
@[go_sem] theorem ty_slice_47 : sliceTy Try.prog 47 = none := by kernel_rfl
@[go_sem] theorem ty_slice_48 : sliceTy Try.prog 48 = none := by kernel_rfl
@[go_sem] theorem ty_str_49 : strTy Try.prog 49 = false := by kernel_rfl
@[go_sem] theorem ty_bool_49 : boolTy Try.prog 49 = false := by kernel_rfl
@[go_sem] theorem ty_int_49 : intTy Try.prog 49 = none := by kernel_rfl
@[go_sem] theorem ty_slice_49 : sliceTy Try.prog 49 = some (9, 1, 16) := by kernel_rfl
@[go_sem] theorem ty_agg_49 : aggTy Try.prog 49 = some false := by kernel_rfl
@[go_sem] theorem ty_size_49 : sizeTy Try.prog 49 = some 1 := by kernel_rfl
@[go_sem] theorem ty_zero_49 : zeroTy Try.prog 49 = some [.nils] := by kernel_rfl
@[go_sem] theorem ty_array_49 : arrayTy Try.prog 49 = none := by kernel_rfl
@[go_sem] theorem ty_slice_50 : sliceTy Try.prog 50 = none := by kernel_rfl
@[go_sem] theorem ty_slice_51 : sliceTy Try.prog 51 = none := by kernel_rfl
@[go_sem] theorem ty_slice_52 : sliceTy Try.prog 52 = none := by kernel_rfl
@[go_sem] theorem ty_slice_53 : sliceTy Try.prog 53 = none := by kernel_rfl
@[go_sem] theorem ty_slice_54 : sliceTy Try.prog 54 = none := by kernel_rfl
@[go_sem] theorem ty_slice_55 : sliceTy Try.prog 55 = none := by kernel_rfl
@[go_sem] theorem ty_slice_56 : sliceTy Try.prog 56 = none := by kernel_rfl
@[go_sem] theorem ty_slice_57 : sliceTy Try.prog 57 = none := by kernel_rfl
@[go_sem] theorem ty_str_58 : strTy Try.prog 58 = false := by kernel_rfl
@[go_sem] theorem ty_bool_58 : boolTy Try.prog 58 = false := by kernel_rfl
@[go_sem] theorem ty_int_58 : intTy Try.prog 58 = none := by kernel_rfl
@[go_sem] theorem ty_slice_58 : sliceTy Try.prog 58 = none := by kernel_rfl
@[go_sem] theorem ty_agg_58 : aggTy Try.prog 58 = some false := by kernel_rfl
@[go_sem] theorem ty_size_58 : sizeTy Try.prog 58 = some 1 := by kernel_rfl
@[go_sem] theorem ty_zero_58 : zeroTy Try.prog 58 = some [.lit (.pointer none)] := by kernel_rfl
@[go_sem] theorem ty_array_58 : arrayTy Try.prog 58 = none := by kernel_rfl
@[go_sem] theorem ty_slice_59 : sliceTy Try.prog 59 = none := by kernel_rfl
@[go_sem] theorem ty_slice_60 : sliceTy Try.prog 60 = none := by kernel_rfl
@[go_sem] theorem ty_slice_61 : sliceTy Try.prog 61 = none := by kernel_rfl
@[go_sem] theorem ty_slice_62 : sliceTy Try.prog 62 = none := by kernel_rfl
@[go_sem] theorem ty_slice_63 : sliceTy Try.prog 63 = none := by kernel_rfl
@[go_sem] theorem ty_slice_64 : sliceTy Try.prog 64 = none := by kernel_rfl
@[go_sem] theorem ty_slice_65 : sliceTy Try.prog 65 = none := by kernel_rfl
@[go_sem] theorem ty_slice_66 : sliceTy Try.prog 66 = none := by kernel_rfl
@[go_sem] theorem ty_slice_67 : sliceTy Try.prog 67 = none := by kernel_rfl
@[go_sem] theorem ty_slice_68 : sliceTy Try.prog 68 = none := by kernel_rfl
@[go_sem] theorem ty_slice_69 : sliceTy Try.prog 69 = none := by kernel_rfl
@[go_sem] theorem ty_slice_70 : sliceTy Try.prog 70 = none := by kernel_rfl
@[go_sem] theorem ty_slice_71 : sliceTy Try.prog 71 = none := by kernel_rfl
@[go_sem] theorem ty_slice_72 : sliceTy Try.prog 72 = none := by kernel_rfl
@[go_sem] theorem ty_slice_73 : sliceTy Try.prog 73 = none := by kernel_rfl
@[go_sem] theorem ty_slice_74 : sliceTy Try.prog 74 = none := by kernel_rfl
@[go_sem] theorem ty_str_75 : strTy Try.prog 75 = false := by kernel_rfl
@[go_sem] theorem ty_bool_75 : boolTy Try.prog 75 = false := by kernel_rfl
@[go_sem] theorem ty_int_75 : intTy Try.prog 75 = some .u64 := by kernel_rfl
@[go_sem] theorem ty_slice_75 : sliceTy Try.prog 75 = none := by kernel_rfl
@[go_sem] theorem ty_agg_75 : aggTy Try.prog 75 = some false := by kernel_rfl
@[go_sem] theorem ty_size_75 : sizeTy Try.prog 75 = some 1 := by kernel_rfl
@[go_sem] theorem ty_zero_75 : zeroTy Try.prog 75 = some [.lit (.int .u64 0)] := by kernel_rfl
@[go_sem] theorem ty_array_75 : arrayTy Try.prog 75 = none := by kernel_rfl
@[go_sem] theorem ty_slice_76 : sliceTy Try.prog 76 = none := by kernel_rfl
@[go_sem] theorem ty_str_77 : strTy Try.prog 77 = false := by kernel_rfl
@[go_sem] theorem ty_bool_77 : boolTy Try.prog 77 = false := by kernel_rfl
@[go_sem] theorem ty_int_77 : intTy Try.prog 77 = some .u32 := by kernel_rfl
@[go_sem] theorem ty_slice_77 : sliceTy Try.prog 77 = none := by kernel_rfl
@[go_sem] theorem ty_agg_77 : aggTy Try.prog 77 = some false := by kernel_rfl
@[go_sem] theorem ty_size_77 : sizeTy Try.prog 77 = some 1 := by kernel_rfl
@[go_sem] theorem ty_zero_77 : zeroTy Try.prog 77 = some [.lit (.int .u32 0)] := by kernel_rfl
@[go_sem] theorem ty_array_77 : arrayTy Try.prog 77 = none := by kernel_rfl
@[go_sem] theorem ty_slice_78 : sliceTy Try.prog 78 = none := by kernel_rfl
@[go_sem] theorem ty_slice_79 : sliceTy Try.prog 79 = none := by kernel_rfl
@[go_sem] theorem ty_str_80 : strTy Try.prog 80 = false := by kernel_rfl
@[go_sem] theorem ty_bool_80 : boolTy Try.prog 80 = false := by kernel_rfl
@[go_sem] theorem ty_int_80 : intTy Try.prog 80 = none := by kernel_rfl
@[go_sem] theorem ty_slice_80 : sliceTy Try.prog 80 = none := by kernel_rfl
@[go_sem] theorem ty_agg_80 : aggTy Try.prog 80 = some true := by kernel_rfl
@[go_sem] theorem ty_size_80 : sizeTy Try.prog 80 = some 4 := by kernel_rfl
@[go_sem] theorem ty_zero_80 : zeroTy Try.prog 80 = some [.lit (.pointer none), .lit (.pointer none), .lit (.pointer none), .lit (.string ⟨⟨[]⟩⟩)] := by kernel_rfl
@[go_sem] theorem ty_array_80 : arrayTy Try.prog 80 = none := by kernel_rfl
@[go_sem] theorem ty_field_80_0 : fieldTy Try.prog 80 0 = some (0, 1, 17) := by kernel_rfl
@[go_sem] theorem ty_field_80_1 : fieldTy Try.prog 80 1 = some (1, 1, 17) := by kernel_rfl
@[go_sem] theorem ty_field_80_2 : fieldTy Try.prog 80 2 = some (2, 1, 17) := by kernel_rfl
@[go_sem] theorem ty_field_80_3 : fieldTy Try.prog 80 3 = some (3, 1, 9) := by kernel_rfl
@[go_sem] theorem ty_places_80 : placesTy Try.prog 80 = some [(0, 1), (1, 1), (2, 1), (3, 1)] := by kernel_rfl
@[go_sem] theorem ty_str_81 : strTy Try.prog 81 = false := by kernel_rfl
@[go_sem] theorem ty_bool_81 : boolTy Try.prog 81 = false := by kernel_rfl
@[go_sem] theorem ty_int_81 : intTy Try.prog 81 = none := by kernel_rfl
@[go_sem] theorem ty_slice_81 : sliceTy Try.prog 81 = none := by kernel_rfl
@[go_sem] theorem ty_agg_81 : aggTy Try.prog 81 = some true := by kernel_rfl
@[go_sem] theorem ty_size_81 : sizeTy Try.prog 81 = some 4 := by kernel_rfl
@[go_sem] theorem ty_zero_81 : zeroTy Try.prog 81 = some [.lit (.pointer none), .lit (.pointer none), .lit (.pointer none), .lit (.string ⟨⟨[]⟩⟩)] := by kernel_rfl
@[go_sem] theorem ty_array_81 : arrayTy Try.prog 81 = none := by kernel_rfl
@[go_sem] theorem ty_field_81_0 : fieldTy Try.prog 81 0 = some (0, 1, 17) := by kernel_rfl
@[go_sem] theorem ty_field_81_1 : fieldTy Try.prog 81 1 = some (1, 1, 17) := by kernel_rfl
@[go_sem] theorem ty_field_81_2 : fieldTy Try.prog 81 2 = some (2, 1, 17) := by kernel_rfl
@[go_sem] theorem ty_field_81_3 : fieldTy Try.prog 81 3 = some (3, 1, 9) := by kernel_rfl
@[go_sem] theorem ty_places_81 : placesTy Try.prog 81 = some [(0, 1), (1, 1), (2, 1), (3, 1)] := by kernel_rfl
@[go_sem] theorem ty_str_82 : strTy Try.prog 82 = false := by kernel_rfl
@[go_sem] theorem ty_bool_82 : boolTy Try.prog 82 = false := by kernel_rfl
@[go_sem] theorem ty_int_82 : intTy Try.prog 82 = none := by kernel_rfl
@[go_sem] theorem ty_slice_82 : sliceTy Try.prog 82 = none := by kernel_rfl
@[go_sem] theorem ty_agg_82 : aggTy Try.prog 82 = some true := by kernel_rfl
@[go_sem] theorem ty_size_82 : sizeTy Try.prog 82 = some 0 := by kernel_rfl
@[go_sem] theorem ty_zero_82 : zeroTy Try.prog 82 = some [] := by kernel_rfl
@[go_sem] theorem ty_array_82 : arrayTy Try.prog 82 = some (0, 16, 1) := by kernel_rfl
@[go_sem] theorem ty_places_82 : placesTy Try.prog 82 = some [] := by kernel_rfl
@[go_sem] theorem ty_str_83 : strTy Try.prog 83 = false := by kernel_rfl
@[go_sem] theorem ty_bool_83 : boolTy Try.prog 83 = false := by kernel_rfl
@[go_sem] theorem ty_int_83 : intTy Try.prog 83 = none := by kernel_rfl
@[go_sem] theorem ty_slice_83 : sliceTy Try.prog 83 = none := by kernel_rfl
@[go_sem] theorem ty_agg_83 : aggTy Try.prog 83 = some true := by kernel_rfl
@[go_sem] theorem ty_size_83 : sizeTy Try.prog 83 = some 0 := by kernel_rfl
@[go_sem] theorem ty_zero_83 : zeroTy Try.prog 83 = some [] := by kernel_rfl
@[go_sem] theorem ty_array_83 : arrayTy Try.prog 83 = none := by kernel_rfl
@[go_sem] theorem ty_places_83 : placesTy Try.prog 83 = some [(0, 0)] := by kernel_rfl
@[go_sem] theorem ty_str_84 : strTy Try.prog 84 = false := by kernel_rfl
@[go_sem] theorem ty_bool_84 : boolTy Try.prog 84 = false := by kernel_rfl
@[go_sem] theorem ty_int_84 : intTy Try.prog 84 = none := by kernel_rfl
@[go_sem] theorem ty_slice_84 : sliceTy Try.prog 84 = none := by kernel_rfl
@[go_sem] theorem ty_agg_84 : aggTy Try.prog 84 = some true := by kernel_rfl
@[go_sem] theorem ty_size_84 : sizeTy Try.prog 84 = some 0 := by kernel_rfl
@[go_sem] theorem ty_zero_84 : zeroTy Try.prog 84 = some [] := by kernel_rfl
@[go_sem] theorem ty_array_84 : arrayTy Try.prog 84 = none := by kernel_rfl
@[go_sem] theorem ty_places_84 : placesTy Try.prog 84 = some [(0, 0)] := by kernel_rfl
@[go_sem] theorem ty_str_85 : strTy Try.prog 85 = false := by kernel_rfl
@[go_sem] theorem ty_bool_85 : boolTy Try.prog 85 = false := by kernel_rfl
@[go_sem] theorem ty_int_85 : intTy Try.prog 85 = some .u8 := by kernel_rfl
@[go_sem] theorem ty_slice_85 : sliceTy Try.prog 85 = none := by kernel_rfl
@[go_sem] theorem ty_agg_85 : aggTy Try.prog 85 = some false := by kernel_rfl
@[go_sem] theorem ty_size_85 : sizeTy Try.prog 85 = some 1 := by kernel_rfl
@[go_sem] theorem ty_zero_85 : zeroTy Try.prog 85 = some [.lit (.int .u8 0)] := by kernel_rfl
@[go_sem] theorem ty_array_85 : arrayTy Try.prog 85 = none := by kernel_rfl
@[go_sem] theorem ty_str_86 : strTy Try.prog 86 = false := by kernel_rfl
@[go_sem] theorem ty_bool_86 : boolTy Try.prog 86 = false := by kernel_rfl
@[go_sem] theorem ty_int_86 : intTy Try.prog 86 = some .u8 := by kernel_rfl
@[go_sem] theorem ty_slice_86 : sliceTy Try.prog 86 = none := by kernel_rfl
@[go_sem] theorem ty_agg_86 : aggTy Try.prog 86 = some false := by kernel_rfl
@[go_sem] theorem ty_size_86 : sizeTy Try.prog 86 = some 1 := by kernel_rfl
@[go_sem] theorem ty_zero_86 : zeroTy Try.prog 86 = some [.lit (.int .u8 0)] := by kernel_rfl
@[go_sem] theorem ty_array_86 : arrayTy Try.prog 86 = none := by kernel_rfl
@[go_sem] theorem ty_slice_87 : sliceTy Try.prog 87 = none := by kernel_rfl
@[go_sem] theorem ty_str_88 : strTy Try.prog 88 = false := by kernel_rfl
@[go_sem] theorem ty_bool_88 : boolTy Try.prog 88 = false := by kernel_rfl
@[go_sem] theorem ty_int_88 : intTy Try.prog 88 = some .i32 := by kernel_rfl
@[go_sem] theorem ty_slice_88 : sliceTy Try.prog 88 = none := by kernel_rfl
@[go_sem] theorem ty_agg_88 : aggTy Try.prog 88 = some false := by kernel_rfl
@[go_sem] theorem ty_size_88 : sizeTy Try.prog 88 = some 1 := by kernel_rfl
@[go_sem] theorem ty_zero_88 : zeroTy Try.prog 88 = some [.lit (.int .i32 0)] := by kernel_rfl
@[go_sem] theorem ty_array_88 : arrayTy Try.prog 88 = none := by kernel_rfl
@[go_sem] theorem ty_str_89 : strTy Try.prog 89 = false := by kernel_rfl
@[go_sem] theorem ty_bool_89 : boolTy Try.prog 89 = false := by kernel_rfl
@[go_sem] theorem ty_int_89 : intTy Try.prog 89 = some .i32 := by kernel_rfl
@[go_sem] theorem ty_slice_89 : sliceTy Try.prog 89 = none := by kernel_rfl
@[go_sem] theorem ty_agg_89 : aggTy Try.prog 89 = some false := by kernel_rfl
@[go_sem] theorem ty_size_89 : sizeTy Try.prog 89 = some 1 := by kernel_rfl
@[go_sem] theorem ty_zero_89 : zeroTy Try.prog 89 = some [.lit (.int .i32 0)] := by kernel_rfl
@[go_sem] theorem ty_array_89 : arrayTy Try.prog 89 = none := by kernel_rfl
@[go_sem] theorem ty_str_90 : strTy Try.prog 90 = false := by kernel_rfl
@[go_sem] theorem ty_bool_90 : boolTy Try.prog 90 = false := by kernel_rfl
@[go_sem] theorem ty_int_90 : intTy Try.prog 90 = none := by kernel_rfl
@[go_sem] theorem ty_slice_90 : sliceTy Try.prog 90 = none := by kernel_rfl
@[go_sem] theorem ty_agg_90 : aggTy Try.prog 90 = some true := by kernel_rfl
@[go_sem] theorem ty_size_90 : sizeTy Try.prog 90 = some 11 := by kernel_rfl
@[go_sem] theorem ty_zero_90 : zeroTy Try.prog 90 = some [.lit (.int .u64 0), .lit (.int .u64 0), .lit (.int .u32 0), .lit (.int .u8 0), .lit (.int .u8 0), .lit (.int .u8 0), .lit (.int .u8 0), .lit .nilFunc, .lit (.pointer none), .lit (.int .i32 0), .lit (.int .i32 0)] := by kernel_rfl
@[go_sem] theorem ty_array_90 : arrayTy Try.prog 90 = none := by kernel_rfl
@[go_sem] theorem ty_str_91 : strTy Try.prog 91 = false := by kernel_rfl
@[go_sem] theorem ty_bool_91 : boolTy Try.prog 91 = false := by kernel_rfl
@[go_sem] theorem ty_int_91 : intTy Try.prog 91 = none := by kernel_rfl
@[go_sem] theorem ty_slice_91 : sliceTy Try.prog 91 = none := by kernel_rfl
@[go_sem] theorem ty_agg_91 : aggTy Try.prog 91 = some true := by kernel_rfl
@[go_sem] theorem ty_size_91 : sizeTy Try.prog 91 = some 11 := by kernel_rfl
@[go_sem] theorem ty_zero_91 : zeroTy Try.prog 91 = some [.lit (.int .u64 0), .lit (.int .u64 0), .lit (.int .u32 0), .lit (.int .u8 0), .lit (.int .u8 0), .lit (.int .u8 0), .lit (.int .u8 0), .lit .nilFunc, .lit (.pointer none), .lit (.int .i32 0), .lit (.int .i32 0)] := by kernel_rfl
@[go_sem] theorem ty_array_91 : arrayTy Try.prog 91 = none := by kernel_rfl
end Go.Proofs.Ytkjikcmjcdlifaa
