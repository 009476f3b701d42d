/-
  The types of this seat's translation, as closed facts. By a program of ours (tyfacts.py).
-/
import Derived.Test.YtdacgjleiloooaaB1
import Derived.Test.YtdacgjleiloooaaProg
import Derived.KernelRfl
set_option linter.unusedSimpArgs false
set_option linter.unusedVariables false
namespace Go.Proofs.Ytdacgjleiloooaa
open Go Go.Ew Go.Proofs
@[go_sem] theorem ty_slice_0 : sliceTy Try.prog 0 = none := by kernel_rfl
@[go_sem] theorem ty_slice_1 : sliceTy Try.prog 1 = none := by kernel_rfl
@[go_sem] theorem ty_str_2 : strTy Try.prog 2 = false := by kernel_rfl
@[go_sem] theorem ty_bool_2 : boolTy Try.prog 2 = false := by kernel_rfl
@[go_sem] theorem ty_int_2 : intTy Try.prog 2 = some .i64 := by kernel_rfl
@[go_sem] theorem ty_slice_2 : sliceTy Try.prog 2 = none := by kernel_rfl
@[go_sem] theorem ty_agg_2 : aggTy Try.prog 2 = some false := by kernel_rfl
@[go_sem] theorem ty_size_2 : sizeTy Try.prog 2 = some 1 := by kernel_rfl
@[go_sem] theorem ty_zero_2 : zeroTy Try.prog 2 = some [.lit (.int .i64 0)] := by kernel_rfl
@[go_sem] theorem ty_array_2 : arrayTy Try.prog 2 = none := by kernel_rfl
@[go_sem] theorem ty_str_3 : strTy Try.prog 3 = false := by kernel_rfl
@[go_sem] theorem ty_bool_3 : boolTy Try.prog 3 = false := by kernel_rfl
@[go_sem] theorem ty_int_3 : intTy Try.prog 3 = some .i64 := by kernel_rfl
@[go_sem] theorem ty_slice_3 : sliceTy Try.prog 3 = none := by kernel_rfl
@[go_sem] theorem ty_agg_3 : aggTy Try.prog 3 = some false := by kernel_rfl
@[go_sem] theorem ty_size_3 : sizeTy Try.prog 3 = some 1 := by kernel_rfl
@[go_sem] theorem ty_zero_3 : zeroTy Try.prog 3 = some [.lit (.int .i64 0)] := by kernel_rfl
@[go_sem] theorem ty_array_3 : arrayTy Try.prog 3 = none := by kernel_rfl
@[go_sem] theorem ty_str_4 : strTy Try.prog 4 = false := by kernel_rfl
@[go_sem] theorem ty_bool_4 : boolTy Try.prog 4 = true := by kernel_rfl
@[go_sem] theorem ty_int_4 : intTy Try.prog 4 = none := by kernel_rfl
@[go_sem] theorem ty_slice_4 : sliceTy Try.prog 4 = none := by kernel_rfl
@[go_sem] theorem ty_agg_4 : aggTy Try.prog 4 = some false := by kernel_rfl
@[go_sem] theorem ty_size_4 : sizeTy Try.prog 4 = some 1 := by kernel_rfl
@[go_sem] theorem ty_zero_4 : zeroTy Try.prog 4 = some [.lit (.bool false)] := by kernel_rfl
@[go_sem] theorem ty_array_4 : arrayTy Try.prog 4 = none := by kernel_rfl
@[go_sem] theorem ty_str_5 : strTy Try.prog 5 = false := by kernel_rfl
@[go_sem] theorem ty_bool_5 : boolTy Try.prog 5 = false := by kernel_rfl
@[go_sem] theorem ty_int_5 : intTy Try.prog 5 = some .u8 := by kernel_rfl
@[go_sem] theorem ty_slice_5 : sliceTy Try.prog 5 = none := by kernel_rfl
@[go_sem] theorem ty_agg_5 : aggTy Try.prog 5 = some false := by kernel_rfl
@[go_sem] theorem ty_size_5 : sizeTy Try.prog 5 = some 1 := by kernel_rfl
@[go_sem] theorem ty_zero_5 : zeroTy Try.prog 5 = some [.lit (.int .u8 0)] := by kernel_rfl
@[go_sem] theorem ty_array_5 : arrayTy Try.prog 5 = none := by kernel_rfl
@[go_sem] theorem ty_str_6 : strTy Try.prog 6 = false := by kernel_rfl
@[go_sem] theorem ty_bool_6 : boolTy Try.prog 6 = false := by kernel_rfl
@[go_sem] theorem ty_int_6 : intTy Try.prog 6 = some .u8 := by kernel_rfl
@[go_sem] theorem ty_slice_6 : sliceTy Try.prog 6 = none := by kernel_rfl
@[go_sem] theorem ty_agg_6 : aggTy Try.prog 6 = some false := by kernel_rfl
@[go_sem] theorem ty_size_6 : sizeTy Try.prog 6 = some 1 := by kernel_rfl
@[go_sem] theorem ty_zero_6 : zeroTy Try.prog 6 = some [.lit (.int .u8 0)] := by kernel_rfl
@[go_sem] theorem ty_array_6 : arrayTy Try.prog 6 = none := by kernel_rfl
@[go_sem] theorem ty_str_7 : strTy Try.prog 7 = false := by kernel_rfl
@[go_sem] theorem ty_bool_7 : boolTy Try.prog 7 = false := by kernel_rfl
@[go_sem] theorem ty_int_7 : intTy Try.prog 7 = none := by kernel_rfl
@[go_sem] theorem ty_slice_7 : sliceTy Try.prog 7 = none := by kernel_rfl
@[go_sem] theorem ty_agg_7 : aggTy Try.prog 7 = some true := by kernel_rfl
@[go_sem] theorem ty_size_7 : sizeTy Try.prog 7 = some 4 := by kernel_rfl
@[go_sem] theorem ty_zero_7 : zeroTy Try.prog 7 = some [.lit (.int .i64 0), .lit (.int .i64 0), .lit (.bool false), .lit (.int .u8 0)] := by kernel_rfl
@[go_sem] theorem ty_array_7 : arrayTy Try.prog 7 = none := by kernel_rfl
@[go_sem] theorem ty_field_7_0 : fieldTy Try.prog 7 0 = some (0, 1, 2) := by kernel_rfl
@[go_sem] theorem ty_field_7_1 : fieldTy Try.prog 7 1 = some (1, 1, 3) := by kernel_rfl
@[go_sem] theorem ty_field_7_2 : fieldTy Try.prog 7 2 = some (2, 1, 4) := by kernel_rfl
@[go_sem] theorem ty_field_7_3 : fieldTy Try.prog 7 3 = some (3, 1, 6) := by kernel_rfl
@[go_sem] theorem ty_places_7 : placesTy Try.prog 7 = some [(0, 1), (1, 1), (2, 1), (3, 1)] := by kernel_rfl
@[go_sem] theorem ty_str_8 : strTy Try.prog 8 = false := by kernel_rfl
@[go_sem] theorem ty_bool_8 : boolTy Try.prog 8 = false := by kernel_rfl
@[go_sem] theorem ty_int_8 : intTy Try.prog 8 = none := by kernel_rfl
@[go_sem] theorem ty_slice_8 : sliceTy Try.prog 8 = none := by kernel_rfl
@[go_sem] theorem ty_agg_8 : aggTy Try.prog 8 = some true := by kernel_rfl
@[go_sem] theorem ty_size_8 : sizeTy Try.prog 8 = some 4 := by kernel_rfl
@[go_sem] theorem ty_zero_8 : zeroTy Try.prog 8 = some [.lit (.int .i64 0), .lit (.int .i64 0), .lit (.bool false), .lit (.int .u8 0)] := by kernel_rfl
@[go_sem] theorem ty_array_8 : arrayTy Try.prog 8 = none := by kernel_rfl
@[go_sem] theorem ty_field_8_0 : fieldTy Try.prog 8 0 = some (0, 1, 2) := by kernel_rfl
@[go_sem] theorem ty_field_8_1 : fieldTy Try.prog 8 1 = some (1, 1, 3) := by kernel_rfl
@[go_sem] theorem ty_field_8_2 : fieldTy Try.prog 8 2 = some (2, 1, 4) := by kernel_rfl
@[go_sem] theorem ty_field_8_3 : fieldTy Try.prog 8 3 = some (3, 1, 6) := by kernel_rfl
@[go_sem] theorem ty_places_8 : placesTy Try.prog 8 = some [(0, 1), (1, 1), (2, 1), (3, 1)] := by kernel_rfl
@[go_sem] theorem ty_str_9 : strTy Try.prog 9 = true := by kernel_rfl
@[go_sem] theorem ty_bool_9 : boolTy Try.prog 9 = false := by kernel_rfl
@[go_sem] theorem ty_int_9 : intTy Try.prog 9 = none := by kernel_rfl
@[go_sem] theorem ty_slice_9 : sliceTy Try.prog 9 = none := by kernel_rfl
@[go_sem] theorem ty_agg_9 : aggTy Try.prog 9 = some false := by kernel_rfl
@[go_sem] theorem ty_size_9 : sizeTy Try.prog 9 = some 1 := by kernel_rfl
@[go_sem] theorem ty_zero_9 : zeroTy Try.prog 9 = some [.lit (.string ⟨⟨[]⟩⟩)] := by kernel_rfl
@[go_sem] theorem ty_array_9 : arrayTy Try.prog 9 = none := by kernel_rfl
@[go_sem] theorem ty_str_10 : strTy Try.prog 10 = true := by kernel_rfl
@[go_sem] theorem ty_bool_10 : boolTy Try.prog 10 = false := by kernel_rfl
@[go_sem] theorem ty_int_10 : intTy Try.prog 10 = none := by kernel_rfl
@[go_sem] theorem ty_slice_10 : sliceTy Try.prog 10 = none := by kernel_rfl
@[go_sem] theorem ty_agg_10 : aggTy Try.prog 10 = some false := by kernel_rfl
@[go_sem] theorem ty_size_10 : sizeTy Try.prog 10 = some 1 := by kernel_rfl
@[go_sem] theorem ty_zero_10 : zeroTy Try.prog 10 = some [.lit (.string ⟨⟨[]⟩⟩)] := by kernel_rfl
@[go_sem] theorem ty_array_10 : arrayTy Try.prog 10 = none := by kernel_rfl
@[go_sem] theorem ty_str_11 : strTy Try.prog 11 = true := by kernel_rfl
@[go_sem] theorem ty_bool_11 : boolTy Try.prog 11 = false := by kernel_rfl
@[go_sem] theorem ty_int_11 : intTy Try.prog 11 = none := by kernel_rfl
@[go_sem] theorem ty_slice_11 : sliceTy Try.prog 11 = none := by kernel_rfl
@[go_sem] theorem ty_agg_11 : aggTy Try.prog 11 = some false := by kernel_rfl
@[go_sem] theorem ty_size_11 : sizeTy Try.prog 11 = some 1 := by kernel_rfl
@[go_sem] theorem ty_zero_11 : zeroTy Try.prog 11 = some [.lit (.string ⟨⟨[]⟩⟩)] := by kernel_rfl
@[go_sem] theorem ty_array_11 : arrayTy Try.prog 11 = none := by kernel_rfl
@[go_sem] theorem ty_str_12 : strTy Try.prog 12 = false := by kernel_rfl
@[go_sem] theorem ty_bool_12 : boolTy Try.prog 12 = false := by kernel_rfl
@[go_sem] theorem ty_int_12 : intTy Try.prog 12 = some .u64 := by kernel_rfl
@[go_sem] theorem ty_slice_12 : sliceTy Try.prog 12 = none := by kernel_rfl
@[go_sem] theorem ty_agg_12 : aggTy Try.prog 12 = some false := by kernel_rfl
@[go_sem] theorem ty_size_12 : sizeTy Try.prog 12 = some 1 := by kernel_rfl
@[go_sem] theorem ty_zero_12 : zeroTy Try.prog 12 = some [.lit (.int .u64 0)] := by kernel_rfl
@[go_sem] theorem ty_array_12 : arrayTy Try.prog 12 = none := by kernel_rfl
@[go_sem] theorem ty_str_13 : strTy Try.prog 13 = false := by kernel_rfl
@[go_sem] theorem ty_bool_13 : boolTy Try.prog 13 = false := by kernel_rfl
@[go_sem] theorem ty_int_13 : intTy Try.prog 13 = none := by kernel_rfl
@[go_sem] theorem ty_slice_13 : sliceTy Try.prog 13 = none := by kernel_rfl
@[go_sem] theorem ty_agg_13 : aggTy Try.prog 13 = some true := by kernel_rfl
@[go_sem] theorem ty_size_13 : sizeTy Try.prog 13 = some 2 := by kernel_rfl
@[go_sem] theorem ty_zero_13 : zeroTy Try.prog 13 = some [.lit (.string ⟨⟨[]⟩⟩), .lit (.int .u64 0)] := by kernel_rfl
@[go_sem] theorem ty_array_13 : arrayTy Try.prog 13 = none := by kernel_rfl
@[go_sem] theorem ty_field_13_0 : fieldTy Try.prog 13 0 = some (0, 1, 9) := by kernel_rfl
@[go_sem] theorem ty_field_13_1 : fieldTy Try.prog 13 1 = some (1, 1, 12) := by kernel_rfl
@[go_sem] theorem ty_places_13 : placesTy Try.prog 13 = some [(0, 1), (1, 1)] := by kernel_rfl
@[go_sem] theorem ty_str_14 : strTy Try.prog 14 = false := by kernel_rfl
@[go_sem] theorem ty_bool_14 : boolTy Try.prog 14 = false := by kernel_rfl
@[go_sem] theorem ty_int_14 : intTy Try.prog 14 = none := by kernel_rfl
@[go_sem] theorem ty_slice_14 : sliceTy Try.prog 14 = none := by kernel_rfl
@[go_sem] theorem ty_agg_14 : aggTy Try.prog 14 = some true := by kernel_rfl
@[go_sem] theorem ty_size_14 : sizeTy Try.prog 14 = some 2 := by kernel_rfl
@[go_sem] theorem ty_zero_14 : zeroTy Try.prog 14 = some [.lit (.string ⟨⟨[]⟩⟩), .lit (.int .u64 0)] := by kernel_rfl
@[go_sem] theorem ty_array_14 : arrayTy Try.prog 14 = none := by kernel_rfl
@[go_sem] theorem ty_field_14_0 : fieldTy Try.prog 14 0 = some (0, 1, 9) := by kernel_rfl
@[go_sem] theorem ty_field_14_1 : fieldTy Try.prog 14 1 = some (1, 1, 12) := by kernel_rfl
@[go_sem] theorem ty_places_14 : placesTy Try.prog 14 = some [(0, 1), (1, 1)] := by kernel_rfl
@[go_sem] theorem ty_str_15 : strTy Try.prog 15 = false := by kernel_rfl
@[go_sem] theorem ty_bool_15 : boolTy Try.prog 15 = false := by kernel_rfl
@[go_sem] theorem ty_int_15 : intTy Try.prog 15 = none := by kernel_rfl
@[go_sem] theorem ty_slice_15 : sliceTy Try.prog 15 = none := by kernel_rfl
@[go_sem] theorem ty_agg_15 : aggTy Try.prog 15 = some false := by kernel_rfl
@[go_sem] theorem ty_size_15 : sizeTy Try.prog 15 = some 1 := by kernel_rfl
@[go_sem] theorem ty_zero_15 : zeroTy Try.prog 15 = some [.lit (.pointer none)] := by kernel_rfl
@[go_sem] theorem ty_array_15 : arrayTy Try.prog 15 = none := by kernel_rfl
@[go_sem] theorem ty_str_16 : strTy Try.prog 16 = false := by kernel_rfl
@[go_sem] theorem ty_bool_16 : boolTy Try.prog 16 = false := by kernel_rfl
@[go_sem] theorem ty_int_16 : intTy Try.prog 16 = none := by kernel_rfl
@[go_sem] theorem ty_slice_16 : sliceTy Try.prog 16 = none := by kernel_rfl
@[go_sem] theorem ty_agg_16 : aggTy Try.prog 16 = some false := by kernel_rfl
@[go_sem] theorem ty_size_16 : sizeTy Try.prog 16 = some 1 := by kernel_rfl
@[go_sem] theorem ty_zero_16 : zeroTy Try.prog 16 = some [.lit (.pointer none)] := by kernel_rfl
@[go_sem] theorem ty_array_16 : arrayTy Try.prog 16 = none := by kernel_rfl
@[go_sem] theorem ty_str_17 : strTy Try.prog 17 = false := by kernel_rfl
@[go_sem] theorem ty_bool_17 : boolTy Try.prog 17 = false := by kernel_rfl
@[go_sem] theorem ty_int_17 : intTy Try.prog 17 = none := by kernel_rfl
@[go_sem] theorem ty_slice_17 : sliceTy Try.prog 17 = none := by kernel_rfl
@[go_sem] theorem ty_agg_17 : aggTy Try.prog 17 = some false := by kernel_rfl
@[go_sem] theorem ty_size_17 : sizeTy Try.prog 17 = some 1 := by kernel_rfl
@[go_sem] theorem ty_zero_17 : zeroTy Try.prog 17 = some [.lit (.pointer none)] := by kernel_rfl
@[go_sem] theorem ty_array_17 : arrayTy Try.prog 17 = none := by kernel_rfl
@[go_sem] theorem ty_str_18 : strTy Try.prog 18 = false := by kernel_rfl
@[go_sem] theorem ty_bool_18 : boolTy Try.prog 18 = false := by kernel_rfl
@[go_sem] theorem ty_int_18 : intTy Try.prog 18 = none := by kernel_rfl
@[go_sem] theorem ty_slice_18 : sliceTy Try.prog 18 = none := by kernel_rfl
@[go_sem] theorem ty_agg_18 : aggTy Try.prog 18 = some true := by kernel_rfl
@[go_sem] theorem ty_size_18 : sizeTy Try.prog 18 = some 1 := by kernel_rfl
@[go_sem] theorem ty_zero_18 : zeroTy Try.prog 18 = some [.lit (.pointer none)] := by kernel_rfl
@[go_sem] theorem ty_array_18 : arrayTy Try.prog 18 = none := by kernel_rfl
@[go_sem] theorem ty_field_18_0 : fieldTy Try.prog 18 0 = some (0, 1, 17) := by kernel_rfl
@[go_sem] theorem ty_places_18 : placesTy Try.prog 18 = some [(0, 1)] := by kernel_rfl
@[go_sem] theorem ty_str_19 : strTy Try.prog 19 = false := by kernel_rfl
@[go_sem] theorem ty_bool_19 : boolTy Try.prog 19 = false := by kernel_rfl
@[go_sem] theorem ty_int_19 : intTy Try.prog 19 = none := by kernel_rfl
@[go_sem] theorem ty_slice_19 : sliceTy Try.prog 19 = none := by kernel_rfl
@[go_sem] theorem ty_agg_19 : aggTy Try.prog 19 = some true := by kernel_rfl
@[go_sem] theorem ty_size_19 : sizeTy Try.prog 19 = some 1 := by kernel_rfl
@[go_sem] theorem ty_zero_19 : zeroTy Try.prog 19 = some [.lit (.pointer none)] := by kernel_rfl
@[go_sem] theorem ty_array_19 : arrayTy Try.prog 19 = none := by kernel_rfl
@[go_sem] theorem ty_field_19_0 : fieldTy Try.prog 19 0 = some (0, 1, 17) := by kernel_rfl
@[go_sem] theorem ty_places_19 : placesTy Try.prog 19 = some [(0, 1)] := by kernel_rfl
@[go_sem] theorem ty_slice_20 : sliceTy Try.prog 20 = none := by kernel_rfl
@[go_sem] theorem ty_str_21 : strTy Try.prog 21 = false := by kernel_rfl
@[go_sem] theorem ty_bool_21 : boolTy Try.prog 21 = false := by kernel_rfl
@[go_sem] theorem ty_int_21 : intTy Try.prog 21 = some .i32 := by kernel_rfl
@[go_sem] theorem ty_slice_21 : sliceTy Try.prog 21 = none := by kernel_rfl
@[go_sem] theorem ty_agg_21 : aggTy Try.prog 21 = some false := by kernel_rfl
@[go_sem] theorem ty_size_21 : sizeTy Try.prog 21 = some 1 := by kernel_rfl
@[go_sem] theorem ty_zero_21 : zeroTy Try.prog 21 = some [.lit (.int .i32 0)] := by kernel_rfl
@[go_sem] theorem ty_array_21 : arrayTy Try.prog 21 = none := by kernel_rfl
@[go_sem] theorem ty_str_22 : strTy Try.prog 22 = false := by kernel_rfl
@[go_sem] theorem ty_bool_22 : boolTy Try.prog 22 = false := by kernel_rfl
@[go_sem] theorem ty_int_22 : intTy Try.prog 22 = none := by kernel_rfl
@[go_sem] theorem ty_slice_22 : sliceTy Try.prog 22 = some (77, 2, 2) := by kernel_rfl
@[go_sem] theorem ty_agg_22 : aggTy Try.prog 22 = some false := by kernel_rfl
@[go_sem] theorem ty_size_22 : sizeTy Try.prog 22 = some 1 := by kernel_rfl
@[go_sem] theorem ty_zero_22 : zeroTy Try.prog 22 = some [.nils] := by kernel_rfl
@[go_sem] theorem ty_array_22 : arrayTy Try.prog 22 = none := by kernel_rfl
@[go_sem] theorem ty_str_23 : strTy Try.prog 23 = false := by kernel_rfl
@[go_sem] theorem ty_bool_23 : boolTy Try.prog 23 = false := by kernel_rfl
@[go_sem] theorem ty_int_23 : intTy Try.prog 23 = none := by kernel_rfl
@[go_sem] theorem ty_slice_23 : sliceTy Try.prog 23 = some (5, 1, 1) := by kernel_rfl
@[go_sem] theorem ty_agg_23 : aggTy Try.prog 23 = some false := by kernel_rfl
@[go_sem] theorem ty_size_23 : sizeTy Try.prog 23 = some 1 := by kernel_rfl
@[go_sem] theorem ty_zero_23 : zeroTy Try.prog 23 = some [.nils] := by kernel_rfl
@[go_sem] theorem ty_array_23 : arrayTy Try.prog 23 = none := by kernel_rfl
@[go_sem] theorem ty_str_24 : strTy Try.prog 24 = false := by kernel_rfl
@[go_sem] theorem ty_bool_24 : boolTy Try.prog 24 = false := by kernel_rfl
@[go_sem] theorem ty_int_24 : intTy Try.prog 24 = none := by kernel_rfl
@[go_sem] theorem ty_slice_24 : sliceTy Try.prog 24 = some (70, 3, 3) := by kernel_rfl
@[go_sem] theorem ty_agg_24 : aggTy Try.prog 24 = some false := by kernel_rfl
@[go_sem] theorem ty_size_24 : sizeTy Try.prog 24 = some 1 := by kernel_rfl
@[go_sem] theorem ty_zero_24 : zeroTy Try.prog 24 = some [.nils] := by kernel_rfl
@[go_sem] theorem ty_array_24 : arrayTy Try.prog 24 = none := by kernel_rfl
@[go_sem] theorem ty_str_25 : strTy Try.prog 25 = false := by kernel_rfl
@[go_sem] theorem ty_bool_25 : boolTy Try.prog 25 = false := by kernel_rfl
@[go_sem] theorem ty_int_25 : intTy Try.prog 25 = none := by kernel_rfl
@[go_sem] theorem ty_slice_25 : sliceTy Try.prog 25 = none := by kernel_rfl
@[go_sem] theorem ty_agg_25 : aggTy Try.prog 25 = some true := by kernel_rfl
@[go_sem] theorem ty_size_25 : sizeTy Try.prog 25 = some 2 := by kernel_rfl
@[go_sem] theorem ty_zero_25 : zeroTy Try.prog 25 = some [.nils, .nils] := by kernel_rfl
@[go_sem] theorem ty_array_25 : arrayTy Try.prog 25 = none := by kernel_rfl
@[go_sem] theorem ty_field_25_0 : fieldTy Try.prog 25 0 = some (0, 1, 23) := by kernel_rfl
@[go_sem] theorem ty_field_25_1 : fieldTy Try.prog 25 1 = some (1, 1, 24) := by kernel_rfl
@[go_sem] theorem ty_places_25 : placesTy Try.prog 25 = some [(0, 1), (1, 1)] := by kernel_rfl
@[go_sem] theorem ty_str_26 : strTy Try.prog 26 = false := by kernel_rfl
@[go_sem] theorem ty_bool_26 : boolTy Try.prog 26 = false := by kernel_rfl
@[go_sem] theorem ty_int_26 : intTy Try.prog 26 = none := by kernel_rfl
@[go_sem] theorem ty_slice_26 : sliceTy Try.prog 26 = none := by kernel_rfl
@[go_sem] theorem ty_agg_26 : aggTy Try.prog 26 = some true := by kernel_rfl
@[go_sem] theorem ty_size_26 : sizeTy Try.prog 26 = some 2 := by kernel_rfl
@[go_sem] theorem ty_zero_26 : zeroTy Try.prog 26 = some [.nils, .nils] := by kernel_rfl
@[go_sem] theorem ty_array_26 : arrayTy Try.prog 26 = none := by kernel_rfl
@[go_sem] theorem ty_field_26_0 : fieldTy Try.prog 26 0 = some (0, 1, 23) := by kernel_rfl
@[go_sem] theorem ty_field_26_1 : fieldTy Try.prog 26 1 = some (1, 1, 24) := by kernel_rfl
@[go_sem] theorem ty_places_26 : placesTy Try.prog 26 = some [(0, 1), (1, 1)] := by kernel_rfl
@[go_sem] theorem ty_str_27 : strTy Try.prog 27 = false := by kernel_rfl
@[go_sem] theorem ty_bool_27 : boolTy Try.prog 27 = false := by kernel_rfl
@[go_sem] theorem ty_int_27 : intTy Try.prog 27 = none := by kernel_rfl
@[go_sem] theorem ty_slice_27 : sliceTy Try.prog 27 = none := by kernel_rfl
@[go_sem] theorem ty_agg_27 : aggTy Try.prog 27 = some true := by kernel_rfl
@[go_sem] theorem ty_size_27 : sizeTy Try.prog 27 = some 6 := by kernel_rfl
@[go_sem] theorem ty_zero_27 : zeroTy Try.prog 27 = some [.nils, .nils, .nils, .nils, .nils, .nils] := by kernel_rfl
@[go_sem] theorem ty_array_27 : arrayTy Try.prog 27 = none := by kernel_rfl
@[go_sem] theorem ty_field_27_0 : fieldTy Try.prog 27 0 = some (0, 1, 22) := by kernel_rfl
@[go_sem] theorem ty_field_27_1 : fieldTy Try.prog 27 1 = some (1, 1, 22) := by kernel_rfl
@[go_sem] theorem ty_field_27_2 : fieldTy Try.prog 27 2 = some (2, 2, 26) := by kernel_rfl
@[go_sem] theorem ty_field_27_3 : fieldTy Try.prog 27 3 = some (4, 2, 26) := by kernel_rfl
@[go_sem] theorem ty_places_27 : placesTy Try.prog 27 = some [(0, 1), (1, 1), (2, 2), (4, 2)] := by kernel_rfl
@[go_sem] theorem ty_str_28 : strTy Try.prog 28 = false := by kernel_rfl
@[go_sem] theorem ty_bool_28 : boolTy Try.prog 28 = false := by kernel_rfl
@[go_sem] theorem ty_int_28 : intTy Try.prog 28 = none := by kernel_rfl
@[go_sem] theorem ty_slice_28 : sliceTy Try.prog 28 = none := by kernel_rfl
@[go_sem] theorem ty_agg_28 : aggTy Try.prog 28 = some true := by kernel_rfl
@[go_sem] theorem ty_size_28 : sizeTy Try.prog 28 = some 6 := by kernel_rfl
@[go_sem] theorem ty_zero_28 : zeroTy Try.prog 28 = some [.nils, .nils, .nils, .nils, .nils, .nils] := by kernel_rfl
@[go_sem] theorem ty_array_28 : arrayTy Try.prog 28 = none := by kernel_rfl
@[go_sem] theorem ty_field_28_0 : fieldTy Try.prog 28 0 = some (0, 1, 22) := by kernel_rfl
@[go_sem] theorem ty_field_28_1 : fieldTy Try.prog 28 1 = some (1, 1, 22) := by kernel_rfl
@[go_sem] theorem ty_field_28_2 : fieldTy Try.prog 28 2 = some (2, 2, 26) := by kernel_rfl
@[go_sem] theorem ty_field_28_3 : fieldTy Try.prog 28 3 = some (4, 2, 26) := by kernel_rfl
@[go_sem] theorem ty_places_28 : placesTy Try.prog 28 = some [(0, 1), (1, 1), (2, 2), (4, 2)] := by kernel_rfl
@[go_sem] theorem ty_str_29 : strTy Try.prog 29 = false := by kernel_rfl
@[go_sem] theorem ty_bool_29 : boolTy Try.prog 29 = false := by kernel_rfl
@[go_sem] theorem ty_int_29 : intTy Try.prog 29 = none := by kernel_rfl
@[go_sem] theorem ty_slice_29 : sliceTy Try.prog 29 = some (69, 4, 56) := by kernel_rfl
@[go_sem] theorem ty_agg_29 : aggTy Try.prog 29 = some false := by kernel_rfl
@[go_sem] theorem ty_size_29 : sizeTy Try.prog 29 = some 1 := by kernel_rfl
@[go_sem] theorem ty_zero_29 : zeroTy Try.prog 29 = some [.nils] := by kernel_rfl
@[go_sem] theorem ty_array_29 : arrayTy Try.prog 29 = none := by kernel_rfl
@[go_sem] theorem ty_str_30 : strTy Try.prog 30 = false := by kernel_rfl
@[go_sem] theorem ty_bool_30 : boolTy Try.prog 30 = false := by kernel_rfl
@[go_sem] theorem ty_int_30 : intTy Try.prog 30 = none := by kernel_rfl
@[go_sem] theorem ty_slice_30 : sliceTy Try.prog 30 = some (73, 7, 64) := by kernel_rfl
@[go_sem] theorem ty_agg_30 : aggTy Try.prog 30 = some false := by kernel_rfl
@[go_sem] theorem ty_size_30 : sizeTy Try.prog 30 = some 1 := by kernel_rfl
@[go_sem] theorem ty_zero_30 : zeroTy Try.prog 30 = some [.nils] := by kernel_rfl
@[go_sem] theorem ty_array_30 : arrayTy Try.prog 30 = none := by kernel_rfl
@[go_sem] theorem ty_str_31 : strTy Try.prog 31 = false := by kernel_rfl
@[go_sem] theorem ty_bool_31 : boolTy Try.prog 31 = false := by kernel_rfl
@[go_sem] theorem ty_int_31 : intTy Try.prog 31 = none := by kernel_rfl
@[go_sem] theorem ty_slice_31 : sliceTy Try.prog 31 = none := by kernel_rfl
@[go_sem] theorem ty_agg_31 : aggTy Try.prog 31 = some true := by kernel_rfl
@[go_sem] theorem ty_size_31 : sizeTy Try.prog 31 = some 2 := by kernel_rfl
@[go_sem] theorem ty_zero_31 : zeroTy Try.prog 31 = some [.nils, .nils] := by kernel_rfl
@[go_sem] theorem ty_array_31 : arrayTy Try.prog 31 = none := by kernel_rfl
@[go_sem] theorem ty_field_31_0 : fieldTy Try.prog 31 0 = some (0, 1, 29) := by kernel_rfl
@[go_sem] theorem ty_field_31_1 : fieldTy Try.prog 31 1 = some (1, 1, 30) := by kernel_rfl
@[go_sem] theorem ty_places_31 : placesTy Try.prog 31 = some [(0, 1), (1, 1)] := by kernel_rfl
@[go_sem] theorem ty_str_32 : strTy Try.prog 32 = false := by kernel_rfl
@[go_sem] theorem ty_bool_32 : boolTy Try.prog 32 = false := by kernel_rfl
@[go_sem] theorem ty_int_32 : intTy Try.prog 32 = none := by kernel_rfl
@[go_sem] theorem ty_slice_32 : sliceTy Try.prog 32 = none := by kernel_rfl
@[go_sem] theorem ty_agg_32 : aggTy Try.prog 32 = some true := by kernel_rfl
@[go_sem] theorem ty_size_32 : sizeTy Try.prog 32 = some 2 := by kernel_rfl
@[go_sem] theorem ty_zero_32 : zeroTy Try.prog 32 = some [.nils, .nils] := by kernel_rfl
@[go_sem] theorem ty_array_32 : arrayTy Try.prog 32 = none := by kernel_rfl
@[go_sem] theorem ty_field_32_0 : fieldTy Try.prog 32 0 = some (0, 1, 29) := by kernel_rfl
@[go_sem] theorem ty_field_32_1 : fieldTy Try.prog 32 1 = some (1, 1, 30) := by kernel_rfl
@[go_sem] theorem ty_places_32 : placesTy Try.prog 32 = some [(0, 1), (1, 1)] := by kernel_rfl
@[go_sem] theorem ty_str_33 : strTy Try.prog 33 = false := by kernel_rfl
@[go_sem] theorem ty_bool_33 : boolTy Try.prog 33 = false := by kernel_rfl
@[go_sem] theorem ty_int_33 : intTy Try.prog 33 = none := by kernel_rfl
@[go_sem] theorem ty_slice_33 : sliceTy Try.prog 33 = some (3, 1, 8) := by kernel_rfl
@[go_sem] theorem ty_agg_33 : aggTy Try.prog 33 = some false := by kernel_rfl
@[go_sem] theorem ty_size_33 : sizeTy Try.prog 33 = some 1 := by kernel_rfl
@[go_sem] theorem ty_zero_33 : zeroTy Try.prog 33 = some [.nils] := by kernel_rfl
@[go_sem] theorem ty_array_33 : arrayTy Try.prog 33 = none := by kernel_rfl
@[go_sem] theorem ty_str_34 : strTy Try.prog 34 = false := by kernel_rfl
@[go_sem] theorem ty_bool_34 : boolTy Try.prog 34 = false := by kernel_rfl
@[go_sem] theorem ty_int_34 : intTy Try.prog 34 = none := by kernel_rfl
@[go_sem] theorem ty_slice_34 : sliceTy Try.prog 34 = some (65, 3, 24) := by kernel_rfl
@[go_sem] theorem ty_agg_34 : aggTy Try.prog 34 = some false := by kernel_rfl
@[go_sem] theorem ty_size_34 : sizeTy Try.prog 34 = some 1 := by kernel_rfl
@[go_sem] theorem ty_zero_34 : zeroTy Try.prog 34 = some [.nils] := by kernel_rfl
@[go_sem] theorem ty_array_34 : arrayTy Try.prog 34 = none := by kernel_rfl
@[go_sem] theorem ty_str_35 : strTy Try.prog 35 = false := by kernel_rfl
@[go_sem] theorem ty_bool_35 : boolTy Try.prog 35 = false := by kernel_rfl
@[go_sem] theorem ty_int_35 : intTy Try.prog 35 = none := by kernel_rfl
@[go_sem] theorem ty_slice_35 : sliceTy Try.prog 35 = none := by kernel_rfl
@[go_sem] theorem ty_agg_35 : aggTy Try.prog 35 = some true := by kernel_rfl
@[go_sem] theorem ty_size_35 : sizeTy Try.prog 35 = some 2 := by kernel_rfl
@[go_sem] theorem ty_zero_35 : zeroTy Try.prog 35 = some [.nils, .nils] := by kernel_rfl
@[go_sem] theorem ty_array_35 : arrayTy Try.prog 35 = none := by kernel_rfl
@[go_sem] theorem ty_field_35_0 : fieldTy Try.prog 35 0 = some (0, 1, 33) := by kernel_rfl
@[go_sem] theorem ty_field_35_1 : fieldTy Try.prog 35 1 = some (1, 1, 34) := by kernel_rfl
@[go_sem] theorem ty_places_35 : placesTy Try.prog 35 = some [(0, 1), (1, 1)] := by kernel_rfl
@[go_sem] theorem ty_str_36 : strTy Try.prog 36 = false := by kernel_rfl
@[go_sem] theorem ty_bool_36 : boolTy Try.prog 36 = false := by kernel_rfl
@[go_sem] theorem ty_int_36 : intTy Try.prog 36 = none := by kernel_rfl
@[go_sem] theorem ty_slice_36 : sliceTy Try.prog 36 = none := by kernel_rfl
@[go_sem] theorem ty_agg_36 : aggTy Try.prog 36 = some true := by kernel_rfl
@[go_sem] theorem ty_size_36 : sizeTy Try.prog 36 = some 2 := by kernel_rfl
@[go_sem] theorem ty_zero_36 : zeroTy Try.prog 36 = some [.nils, .nils] := by kernel_rfl
@[go_sem] theorem ty_array_36 : arrayTy Try.prog 36 = none := by kernel_rfl
@[go_sem] theorem ty_field_36_0 : fieldTy Try.prog 36 0 = some (0, 1, 33) := by kernel_rfl
@[go_sem] theorem ty_field_36_1 : fieldTy Try.prog 36 1 = some (1, 1, 34) := by kernel_rfl
@[go_sem] theorem ty_places_36 : placesTy Try.prog 36 = some [(0, 1), (1, 1)] := by kernel_rfl
@[go_sem] theorem ty_slice_37 : sliceTy Try.prog 37 = none := by kernel_rfl
@[go_sem] theorem ty_slice_38 : sliceTy Try.prog 38 = none := by kernel_rfl
@[go_sem] theorem ty_slice_39 : sliceTy Try.prog 39 = none := by kernel_rfl
@[go_sem] theorem ty_str_40 : strTy Try.prog 40 = false := by kernel_rfl
@[go_sem] theorem ty_bool_40 : boolTy Try.prog 40 = false := by kernel_rfl
@[go_sem] theorem ty_int_40 : intTy Try.prog 40 = none := by kernel_rfl
@[go_sem] theorem ty_slice_40 : sliceTy Try.prog 40 = none := by kernel_rfl
@[go_sem] theorem ty_agg_40 : aggTy Try.prog 40 = some true := by kernel_rfl
@[go_sem] theorem ty_size_40 : sizeTy Try.prog 40 = some 2 := by kernel_rfl
@[go_sem] theorem ty_zero_40 : zeroTy Try.prog 40 = some [.nils, .nils] := by kernel_rfl
@[go_sem] theorem ty_array_40 : arrayTy Try.prog 40 = none := by kernel_rfl
@[go_sem] theorem ty_field_40_0 : fieldTy Try.prog 40 0 = some (0, 1, 33) := by kernel_rfl
@[go_sem] theorem ty_field_40_1 : fieldTy Try.prog 40 1 = some (1, 1, 33) := by kernel_rfl
@[go_sem] theorem ty_places_40 : placesTy Try.prog 40 = some [(0, 1), (1, 1)] := by kernel_rfl
@[go_sem] theorem ty_str_41 : strTy Try.prog 41 = false := by kernel_rfl
@[go_sem] theorem ty_bool_41 : boolTy Try.prog 41 = false := by kernel_rfl
@[go_sem] theorem ty_int_41 : intTy Try.prog 41 = none := by kernel_rfl
@[go_sem] theorem ty_slice_41 : sliceTy Try.prog 41 = none := by kernel_rfl
@[go_sem] theorem ty_agg_41 : aggTy Try.prog 41 = some true := by kernel_rfl
@[go_sem] theorem ty_size_41 : sizeTy Try.prog 41 = some 2 := by kernel_rfl
@[go_sem] theorem ty_zero_41 : zeroTy Try.prog 41 = some [.nils, .nils] := by kernel_rfl
@[go_sem] theorem ty_array_41 : arrayTy Try.prog 41 = none := by kernel_rfl
@[go_sem] theorem ty_field_41_0 : fieldTy Try.prog 41 0 = some (0, 1, 33) := by kernel_rfl
@[go_sem] theorem ty_field_41_1 : fieldTy Try.prog 41 1 = some (1, 1, 33) := by kernel_rfl
@[go_sem] theorem ty_places_41 : placesTy Try.prog 41 = some [(0, 1), (1, 1)] := by kernel_rfl
@[go_sem] theorem ty_str_42 : strTy Try.prog 42 = false := by kernel_rfl
@[go_sem] theorem ty_bool_42 : boolTy Try.prog 42 = false := by kernel_rfl
@[go_sem] theorem ty_int_42 : intTy Try.prog 42 = some .i64 := by kernel_rfl
@[go_sem] theorem ty_slice_42 : sliceTy Try.prog 42 = none := by kernel_rfl
@[go_sem] theorem ty_agg_42 : aggTy Try.prog 42 = some false := by kernel_rfl
@[go_sem] theorem ty_size_42 : sizeTy Try.prog 42 = some 1 := by kernel_rfl
@[go_sem] theorem ty_zero_42 : zeroTy Try.prog 42 = some [.lit (.int .i64 0)] := by kernel_rfl
@[go_sem] theorem ty_array_42 : arrayTy Try.prog 42 = none := by kernel_rfl
@[go_sem] theorem ty_slice_43 : sliceTy Try.prog 43 = none := by kernel_rfl
@[go_sem] theorem ty_slice_44 : sliceTy Try.prog 44 = none := by kernel_rfl
@[go_sem] theorem ty_slice_45 : sliceTy Try.prog 45 = none := by kernel_rfl
@[go_sem] theorem ty_str_46 : strTy Try.prog 46 = false := by kernel_rfl
@[go_sem] theorem ty_bool_46 : boolTy Try.prog 46 = false := by kernel_rfl
@[go_sem] theorem ty_int_46 : intTy Try.prog 46 = none := by kernel_rfl
@[go_sem] theorem ty_slice_46 : sliceTy Try.prog 46 = some (41, 2, 48) := by kernel_rfl
@[go_sem] theorem ty_agg_46 : aggTy Try.prog 46 = some false := by kernel_rfl
@[go_sem] theorem ty_size_46 : sizeTy Try.prog 46 = some 1 := by kernel_rfl
@[go_sem] theorem ty_zero_46 : zeroTy Try.prog 46 = some [.nils] := by kernel_rfl
@[go_sem] theorem ty_array_46 : arrayTy Try.prog 46 = none := by kernel_rfl
@[go_sem] theorem ty_slice_47 : sliceTy Try.prog 47 = none := by kernel_rfl
@[go_sem] theorem ty_slice_48 : sliceTy Try.prog 48 = none := by kernel_rfl
@[go_sem] theorem ty_slice_49 : sliceTy Try.prog 49 = none := by kernel_rfl
@[go_sem] theorem ty_slice_50 : sliceTy Try.prog 50 = none := by kernel_rfl
@[go_sem] theorem ty_slice_51 : sliceTy Try.prog 51 = none := by kernel_rfl
@[go_sem] theorem ty_slice_52 : sliceTy Try.prog 52 = none := by kernel_rfl
@[go_sem] theorem ty_slice_53 : sliceTy Try.prog 53 = none := by kernel_rfl
@[go_sem] theorem ty_slice_54 : sliceTy Try.prog 54 = none := by kernel_rfl
@[go_sem] theorem ty_slice_55 : sliceTy Try.prog 55 = none := by kernel_rfl
@[go_sem] theorem ty_slice_56 : sliceTy Try.prog 56 = none := by kernel_rfl
@[go_sem] theorem ty_slice_57 : sliceTy Try.prog 57 = none := by kernel_rfl
@[go_sem] theorem ty_slice_58 : sliceTy Try.prog 58 = none := by kernel_rfl
@[go_sem] theorem ty_slice_59 : sliceTy Try.prog 59 = none := by kernel_rfl
@[go_sem] theorem ty_slice_60 : sliceTy Try.prog 60 = none := by kernel_rfl
@[go_sem] theorem ty_slice_61 : sliceTy Try.prog 61 = none := by kernel_rfl
@[go_sem] theorem ty_slice_62 : sliceTy Try.prog 62 = none := by kernel_rfl
@[go_sem] theorem ty_slice_63 : sliceTy Try.prog 63 = none := by kernel_rfl
@[go_sem] theorem ty_str_64 : strTy Try.prog 64 = false := by kernel_rfl
@[go_sem] theorem ty_bool_64 : boolTy Try.prog 64 = false := by kernel_rfl
@[go_sem] theorem ty_int_64 : intTy Try.prog 64 = none := by kernel_rfl
@[go_sem] theorem ty_slice_64 : sliceTy Try.prog 64 = none := by kernel_rfl
@[go_sem] theorem ty_agg_64 : aggTy Try.prog 64 = some true := by kernel_rfl
@[go_sem] theorem ty_size_64 : sizeTy Try.prog 64 = some 3 := by kernel_rfl
@[go_sem] theorem ty_zero_64 : zeroTy Try.prog 64 = some [.lit (.int .i64 0), .lit (.int .i64 0), .lit (.int .i64 0)] := by kernel_rfl
@[go_sem] theorem ty_array_64 : arrayTy Try.prog 64 = none := by kernel_rfl
@[go_sem] theorem ty_field_64_0 : fieldTy Try.prog 64 0 = some (0, 1, 3) := by kernel_rfl
@[go_sem] theorem ty_field_64_1 : fieldTy Try.prog 64 1 = some (1, 1, 3) := by kernel_rfl
@[go_sem] theorem ty_field_64_2 : fieldTy Try.prog 64 2 = some (2, 1, 3) := by kernel_rfl
@[go_sem] theorem ty_places_64 : placesTy Try.prog 64 = some [(0, 1), (1, 1), (2, 1)] := by kernel_rfl
@[go_sem] theorem ty_str_65 : strTy Try.prog 65 = false := by kernel_rfl
@[go_sem] theorem ty_bool_65 : boolTy Try.prog 65 = false := by kernel_rfl
@[go_sem] theorem ty_int_65 : intTy Try.prog 65 = none := by kernel_rfl
@[go_sem] theorem ty_slice_65 : sliceTy Try.prog 65 = none := by kernel_rfl
@[go_sem] theorem ty_agg_65 : aggTy Try.prog 65 = some true := by kernel_rfl
@[go_sem] theorem ty_size_65 : sizeTy Try.prog 65 = some 3 := by kernel_rfl
@[go_sem] theorem ty_zero_65 : zeroTy Try.prog 65 = some [.lit (.int .i64 0), .lit (.int .i64 0), .lit (.int .i64 0)] := by kernel_rfl
@[go_sem] theorem ty_array_65 : arrayTy Try.prog 65 = none := by kernel_rfl
@[go_sem] theorem ty_field_65_0 : fieldTy Try.prog 65 0 = some (0, 1, 3) := by kernel_rfl
@[go_sem] theorem ty_field_65_1 : fieldTy Try.prog 65 1 = some (1, 1, 3) := by kernel_rfl
@[go_sem] theorem ty_field_65_2 : fieldTy Try.prog 65 2 = some (2, 1, 3) := by kernel_rfl
@[go_sem] theorem ty_places_65 : placesTy Try.prog 65 = some [(0, 1), (1, 1), (2, 1)] := by kernel_rfl
@[go_sem] theorem ty_plain_65 : plainTy Try.prog 65 = some [3, 3, 3] := by kernel_rfl
@[go_sem] theorem ty_slice_66 : sliceTy Try.prog 66 = none := by kernel_rfl
@[go_sem] theorem ty_str_67 : strTy Try.prog 67 = false := by kernel_rfl
@[go_sem] theorem ty_bool_67 : boolTy Try.prog 67 = false := by kernel_rfl
@[go_sem] theorem ty_int_67 : intTy Try.prog 67 = none := by kernel_rfl
@[go_sem] theorem ty_slice_67 : sliceTy Try.prog 67 = some (80, 4, 56) := by kernel_rfl
@[go_sem] theorem ty_agg_67 : aggTy Try.prog 67 = some false := by kernel_rfl
@[go_sem] theorem ty_size_67 : sizeTy Try.prog 67 = some 1 := by kernel_rfl
@[go_sem] theorem ty_zero_67 : zeroTy Try.prog 67 = some [.nils] := by kernel_rfl
@[go_sem] theorem ty_array_67 : arrayTy Try.prog 67 = none := by kernel_rfl
@[go_sem] theorem ty_str_68 : strTy Try.prog 68 = false := by kernel_rfl
@[go_sem] theorem ty_bool_68 : boolTy Try.prog 68 = false := by kernel_rfl
@[go_sem] theorem ty_int_68 : intTy Try.prog 68 = none := by kernel_rfl
@[go_sem] theorem ty_slice_68 : sliceTy Try.prog 68 = none := by kernel_rfl
@[go_sem] theorem ty_agg_68 : aggTy Try.prog 68 = some true := by kernel_rfl
@[go_sem] theorem ty_size_68 : sizeTy Try.prog 68 = some 4 := by kernel_rfl
@[go_sem] theorem ty_zero_68 : zeroTy Try.prog 68 = some [.lit (.string ⟨⟨[]⟩⟩), .lit (.int .i64 0), .lit (.bool false), .nils] := by kernel_rfl
@[go_sem] theorem ty_array_68 : arrayTy Try.prog 68 = none := by kernel_rfl
@[go_sem] theorem ty_field_68_0 : fieldTy Try.prog 68 0 = some (0, 1, 9) := by kernel_rfl
@[go_sem] theorem ty_field_68_1 : fieldTy Try.prog 68 1 = some (1, 1, 3) := by kernel_rfl
@[go_sem] theorem ty_field_68_2 : fieldTy Try.prog 68 2 = some (2, 1, 4) := by kernel_rfl
@[go_sem] theorem ty_field_68_3 : fieldTy Try.prog 68 3 = some (3, 1, 67) := by kernel_rfl
@[go_sem] theorem ty_places_68 : placesTy Try.prog 68 = some [(0, 1), (1, 1), (2, 1), (3, 1)] := by kernel_rfl
@[go_sem] theorem ty_str_69 : strTy Try.prog 69 = false := by kernel_rfl
@[go_sem] theorem ty_bool_69 : boolTy Try.prog 69 = false := by kernel_rfl
@[go_sem] theorem ty_int_69 : intTy Try.prog 69 = none := by kernel_rfl
@[go_sem] theorem ty_slice_69 : sliceTy Try.prog 69 = none := by kernel_rfl
@[go_sem] theorem ty_agg_69 : aggTy Try.prog 69 = some true := by kernel_rfl
@[go_sem] theorem ty_size_69 : sizeTy Try.prog 69 = some 4 := by kernel_rfl
@[go_sem] theorem ty_zero_69 : zeroTy Try.prog 69 = some [.lit (.string ⟨⟨[]⟩⟩), .lit (.int .i64 0), .lit (.bool false), .nils] := by kernel_rfl
@[go_sem] theorem ty_array_69 : arrayTy Try.prog 69 = none := by kernel_rfl
@[go_sem] theorem ty_field_69_0 : fieldTy Try.prog 69 0 = some (0, 1, 9) := by kernel_rfl
@[go_sem] theorem ty_field_69_1 : fieldTy Try.prog 69 1 = some (1, 1, 3) := by kernel_rfl
@[go_sem] theorem ty_field_69_2 : fieldTy Try.prog 69 2 = some (2, 1, 4) := by kernel_rfl
@[go_sem] theorem ty_field_69_3 : fieldTy Try.prog 69 3 = some (3, 1, 67) := by kernel_rfl
@[go_sem] theorem ty_places_69 : placesTy Try.prog 69 = some [(0, 1), (1, 1), (2, 1), (3, 1)] := by kernel_rfl
@[go_sem] theorem ty_str_70 : strTy Try.prog 70 = false := by kernel_rfl
@[go_sem] theorem ty_bool_70 : boolTy Try.prog 70 = false := by kernel_rfl
@[go_sem] theorem ty_int_70 : intTy Try.prog 70 = none := by kernel_rfl
@[go_sem] theorem ty_slice_70 : sliceTy Try.prog 70 = none := by kernel_rfl
@[go_sem] theorem ty_agg_70 : aggTy Try.prog 70 = some true := by kernel_rfl
@[go_sem] theorem ty_size_70 : sizeTy Try.prog 70 = some 3 := by kernel_rfl
@[go_sem] theorem ty_zero_70 : zeroTy Try.prog 70 = some [.lit (.int .u8 0), .lit (.int .u8 0), .lit (.int .u8 0)] := by kernel_rfl
@[go_sem] theorem ty_array_70 : arrayTy Try.prog 70 = some (3, 5, 1) := by kernel_rfl
@[go_sem] theorem ty_places_70 : placesTy Try.prog 70 = some [(0, 1), (1, 1), (2, 1)] := by kernel_rfl
@[go_sem] theorem ty_slice_71 : sliceTy Try.prog 71 = none := by kernel_rfl
@[go_sem] theorem ty_str_72 : strTy Try.prog 72 = false := by kernel_rfl
@[go_sem] theorem ty_bool_72 : boolTy Try.prog 72 = false := by kernel_rfl
@[go_sem] theorem ty_int_72 : intTy Try.prog 72 = none := by kernel_rfl
@[go_sem] theorem ty_slice_72 : sliceTy Try.prog 72 = none := by kernel_rfl
@[go_sem] theorem ty_agg_72 : aggTy Try.prog 72 = some true := by kernel_rfl
@[go_sem] theorem ty_size_72 : sizeTy Try.prog 72 = some 7 := by kernel_rfl
@[go_sem] theorem ty_zero_72 : zeroTy Try.prog 72 = some [.lit (.string ⟨⟨[]⟩⟩), .lit (.int .i64 0), .lit (.int .i64 0), .lit (.int .i64 0), .lit (.int .i64 0), .lit (.int .i64 0), .lit (.int .i64 0)] := by kernel_rfl
@[go_sem] theorem ty_array_72 : arrayTy Try.prog 72 = none := by kernel_rfl
@[go_sem] theorem ty_field_72_0 : fieldTy Try.prog 72 0 = some (0, 1, 9) := by kernel_rfl
@[go_sem] theorem ty_field_72_1 : fieldTy Try.prog 72 1 = some (1, 1, 3) := by kernel_rfl
@[go_sem] theorem ty_field_72_2 : fieldTy Try.prog 72 2 = some (2, 1, 3) := by kernel_rfl
@[go_sem] theorem ty_field_72_3 : fieldTy Try.prog 72 3 = some (3, 1, 3) := by kernel_rfl
@[go_sem] theorem ty_field_72_4 : fieldTy Try.prog 72 4 = some (4, 1, 3) := by kernel_rfl
@[go_sem] theorem ty_field_72_5 : fieldTy Try.prog 72 5 = some (5, 1, 3) := by kernel_rfl
@[go_sem] theorem ty_field_72_6 : fieldTy Try.prog 72 6 = some (6, 1, 3) := by kernel_rfl
@[go_sem] theorem ty_places_72 : placesTy Try.prog 72 = some [(0, 1), (1, 1), (2, 1), (3, 1), (4, 1), (5, 1), (6, 1)] := by kernel_rfl
@[go_sem] theorem ty_str_73 : strTy Try.prog 73 = false := by kernel_rfl
@[go_sem] theorem ty_bool_73 : boolTy Try.prog 73 = false := by kernel_rfl
@[go_sem] theorem ty_int_73 : intTy Try.prog 73 = none := by kernel_rfl
@[go_sem] theorem ty_slice_73 : sliceTy Try.prog 73 = none := by kernel_rfl
@[go_sem] theorem ty_agg_73 : aggTy Try.prog 73 = some true := by kernel_rfl
@[go_sem] theorem ty_size_73 : sizeTy Try.prog 73 = some 7 := by kernel_rfl
@[go_sem] theorem ty_zero_73 : zeroTy Try.prog 73 = some [.lit (.string ⟨⟨[]⟩⟩), .lit (.int .i64 0), .lit (.int .i64 0), .lit (.int .i64 0), .lit (.int .i64 0), .lit (.int .i64 0), .lit (.int .i64 0)] := by kernel_rfl
@[go_sem] theorem ty_array_73 : arrayTy Try.prog 73 = none := by kernel_rfl
@[go_sem] theorem ty_field_73_0 : fieldTy Try.prog 73 0 = some (0, 1, 9) := by kernel_rfl
@[go_sem] theorem ty_field_73_1 : fieldTy Try.prog 73 1 = some (1, 1, 3) := by kernel_rfl
@[go_sem] theorem ty_field_73_2 : fieldTy Try.prog 73 2 = some (2, 1, 3) := by kernel_rfl
@[go_sem] theorem ty_field_73_3 : fieldTy Try.prog 73 3 = some (3, 1, 3) := by kernel_rfl
@[go_sem] theorem ty_field_73_4 : fieldTy Try.prog 73 4 = some (4, 1, 3) := by kernel_rfl
@[go_sem] theorem ty_field_73_5 : fieldTy Try.prog 73 5 = some (5, 1, 3) := by kernel_rfl
@[go_sem] theorem ty_field_73_6 : fieldTy Try.prog 73 6 = some (6, 1, 3) := by kernel_rfl
@[go_sem] theorem ty_places_73 : placesTy Try.prog 73 = some [(0, 1), (1, 1), (2, 1), (3, 1), (4, 1), (5, 1), (6, 1)] := by kernel_rfl
@[go_sem] theorem ty_plain_73 : plainTy Try.prog 73 = some [9, 3, 3, 3, 3, 3, 3] := by kernel_rfl
@[go_sem] theorem ty_slice_74 : sliceTy Try.prog 74 = none := by kernel_rfl
@[go_sem] theorem ty_slice_75 : sliceTy Try.prog 75 = none := by kernel_rfl
@[go_sem] theorem ty_slice_76 : sliceTy Try.prog 76 = none := by kernel_rfl
@[go_sem] theorem ty_str_77 : strTy Try.prog 77 = false := by kernel_rfl
@[go_sem] theorem ty_bool_77 : boolTy Try.prog 77 = false := by kernel_rfl
@[go_sem] theorem ty_int_77 : intTy Try.prog 77 = none := by kernel_rfl
@[go_sem] theorem ty_slice_77 : sliceTy Try.prog 77 = none := by kernel_rfl
@[go_sem] theorem ty_agg_77 : aggTy Try.prog 77 = some true := by kernel_rfl
@[go_sem] theorem ty_size_77 : sizeTy Try.prog 77 = some 2 := by kernel_rfl
@[go_sem] theorem ty_zero_77 : zeroTy Try.prog 77 = some [.lit (.int .u8 0), .lit (.int .u8 0)] := by kernel_rfl
@[go_sem] theorem ty_array_77 : arrayTy Try.prog 77 = some (2, 5, 1) := by kernel_rfl
@[go_sem] theorem ty_places_77 : placesTy Try.prog 77 = some [(0, 1), (1, 1)] := by kernel_rfl
@[go_sem] theorem ty_str_78 : strTy Try.prog 78 = false := by kernel_rfl
@[go_sem] theorem ty_bool_78 : boolTy Try.prog 78 = false := by kernel_rfl
@[go_sem] theorem ty_int_78 : intTy Try.prog 78 = none := by kernel_rfl
@[go_sem] theorem ty_slice_78 : sliceTy Try.prog 78 = some (9, 1, 16) := by kernel_rfl
@[go_sem] theorem ty_agg_78 : aggTy Try.prog 78 = some false := by kernel_rfl
@[go_sem] theorem ty_size_78 : sizeTy Try.prog 78 = some 1 := by kernel_rfl
@[go_sem] theorem ty_zero_78 : zeroTy Try.prog 78 = some [.nils] := by kernel_rfl
@[go_sem] theorem ty_array_78 : arrayTy Try.prog 78 = none := by kernel_rfl
@[go_sem] theorem ty_str_79 : strTy Try.prog 79 = false := by kernel_rfl
@[go_sem] theorem ty_bool_79 : boolTy Try.prog 79 = false := by kernel_rfl
@[go_sem] theorem ty_int_79 : intTy Try.prog 79 = none := by kernel_rfl
@[go_sem] theorem ty_slice_79 : sliceTy Try.prog 79 = none := by kernel_rfl
@[go_sem] theorem ty_agg_79 : aggTy Try.prog 79 = some true := by kernel_rfl
@[go_sem] theorem ty_size_79 : sizeTy Try.prog 79 = some 4 := by kernel_rfl
@[go_sem] theorem ty_zero_79 : zeroTy Try.prog 79 = some [.lit (.string ⟨⟨[]⟩⟩), .lit (.int .i64 0), .lit (.int .i64 0), .nils] := by kernel_rfl
@[go_sem] theorem ty_array_79 : arrayTy Try.prog 79 = none := by kernel_rfl
@[go_sem] theorem ty_field_79_0 : fieldTy Try.prog 79 0 = some (0, 1, 9) := by kernel_rfl
@[go_sem] theorem ty_field_79_1 : fieldTy Try.prog 79 1 = some (1, 1, 3) := by kernel_rfl
@[go_sem] theorem ty_field_79_2 : fieldTy Try.prog 79 2 = some (2, 1, 3) := by kernel_rfl
@[go_sem] theorem ty_field_79_3 : fieldTy Try.prog 79 3 = some (3, 1, 78) := by kernel_rfl
@[go_sem] theorem ty_places_79 : placesTy Try.prog 79 = some [(0, 1), (1, 1), (2, 1), (3, 1)] := by kernel_rfl
@[go_sem] theorem ty_str_80 : strTy Try.prog 80 = false := by kernel_rfl
@[go_sem] theorem ty_bool_80 : boolTy Try.prog 80 = false := by kernel_rfl
@[go_sem] theorem ty_int_80 : intTy Try.prog 80 = none := by kernel_rfl
@[go_sem] theorem ty_slice_80 : sliceTy Try.prog 80 = none := by kernel_rfl
@[go_sem] theorem ty_agg_80 : aggTy Try.prog 80 = some true := by kernel_rfl
@[go_sem] theorem ty_size_80 : sizeTy Try.prog 80 = some 4 := by kernel_rfl
@[go_sem] theorem ty_zero_80 : zeroTy Try.prog 80 = some [.lit (.string ⟨⟨[]⟩⟩), .lit (.int .i64 0), .lit (.int .i64 0), .nils] := by kernel_rfl
@[go_sem] theorem ty_array_80 : arrayTy Try.prog 80 = none := by kernel_rfl
@[go_sem] theorem ty_field_80_0 : fieldTy Try.prog 80 0 = some (0, 1, 9) := by kernel_rfl
@[go_sem] theorem ty_field_80_1 : fieldTy Try.prog 80 1 = some (1, 1, 3) := by kernel_rfl
@[go_sem] theorem ty_field_80_2 : fieldTy Try.prog 80 2 = some (2, 1, 3) := by kernel_rfl
@[go_sem] theorem ty_field_80_3 : fieldTy Try.prog 80 3 = some (3, 1, 78) := by kernel_rfl
@[go_sem] theorem ty_places_80 : placesTy Try.prog 80 = some [(0, 1), (1, 1), (2, 1), (3, 1)] := by kernel_rfl
@[go_sem] theorem ty_slice_81 : sliceTy Try.prog 81 = none := by kernel_rfl
@[go_sem] theorem ty_slice_82 : sliceTy Try.prog 82 = none := by kernel_rfl
@[go_sem] theorem ty_slice_83 : sliceTy Try.prog 83 = none := by kernel_rfl
@[go_sem] theorem ty_slice_84 : sliceTy Try.prog 84 = none := by kernel_rfl
@[go_sem] theorem ty_slice_85 : sliceTy Try.prog 85 = none := by kernel_rfl
@[go_sem] theorem ty_slice_86 : sliceTy Try.prog 86 = none := by kernel_rfl
@[go_sem] theorem ty_slice_87 : sliceTy Try.prog 87 = none := by kernel_rfl
@[go_sem] theorem ty_str_88 : strTy Try.prog 88 = false := by kernel_rfl
@[go_sem] theorem ty_bool_88 : boolTy Try.prog 88 = false := by kernel_rfl
@[go_sem] theorem ty_int_88 : intTy Try.prog 88 = none := by kernel_rfl
@[go_sem] theorem ty_slice_88 : sliceTy Try.prog 88 = some (36, 2, 48) := by kernel_rfl
@[go_sem] theorem ty_agg_88 : aggTy Try.prog 88 = some false := by kernel_rfl
@[go_sem] theorem ty_size_88 : sizeTy Try.prog 88 = some 1 := by kernel_rfl
@[go_sem] theorem ty_zero_88 : zeroTy Try.prog 88 = some [.nils] := by kernel_rfl
@[go_sem] theorem ty_array_88 : arrayTy Try.prog 88 = none := by kernel_rfl
@[go_sem] theorem ty_slice_89 : sliceTy Try.prog 89 = none := by kernel_rfl
@[go_sem] theorem ty_slice_90 : sliceTy Try.prog 90 = none := by kernel_rfl
@[go_sem] theorem ty_str_91 : strTy Try.prog 91 = false := by kernel_rfl
@[go_sem] theorem ty_bool_91 : boolTy Try.prog 91 = false := by kernel_rfl
@[go_sem] theorem ty_int_91 : intTy Try.prog 91 = none := by kernel_rfl
@[go_sem] theorem ty_slice_91 : sliceTy Try.prog 91 = some (93, 1, 24) := by kernel_rfl
@[go_sem] theorem ty_agg_91 : aggTy Try.prog 91 = some false := by kernel_rfl
@[go_sem] theorem ty_size_91 : sizeTy Try.prog 91 = some 1 := by kernel_rfl
@[go_sem] theorem ty_zero_91 : zeroTy Try.prog 91 = some [.nils] := by kernel_rfl
@[go_sem] theorem ty_array_91 : arrayTy Try.prog 91 = none := by kernel_rfl
@[go_sem] theorem ty_slice_92 : sliceTy Try.prog 92 = none := by kernel_rfl
@[go_sem] theorem ty_str_93 : strTy Try.prog 93 = false := by kernel_rfl
@[go_sem] theorem ty_bool_93 : boolTy Try.prog 93 = false := by kernel_rfl
@[go_sem] theorem ty_int_93 : intTy Try.prog 93 = none := by kernel_rfl
@[go_sem] theorem ty_slice_93 : sliceTy Try.prog 93 = some (4, 1, 1) := by kernel_rfl
@[go_sem] theorem ty_agg_93 : aggTy Try.prog 93 = some false := by kernel_rfl
@[go_sem] theorem ty_size_93 : sizeTy Try.prog 93 = some 1 := by kernel_rfl
@[go_sem] theorem ty_zero_93 : zeroTy Try.prog 93 = some [.nils] := by kernel_rfl
@[go_sem] theorem ty_array_93 : arrayTy Try.prog 93 = none := by kernel_rfl
@[go_sem] theorem ty_slice_94 : sliceTy Try.prog 94 = none := by kernel_rfl
@[go_sem] theorem ty_slice_95 : sliceTy Try.prog 95 = none := by kernel_rfl
@[go_sem] theorem ty_slice_96 : sliceTy Try.prog 96 = none := by kernel_rfl
@[go_sem] theorem ty_slice_97 : sliceTy Try.prog 97 = none := by kernel_rfl
@[go_sem] theorem ty_slice_98 : sliceTy Try.prog 98 = none := by kernel_rfl
@[go_sem] theorem ty_str_99 : strTy Try.prog 99 = false := by kernel_rfl
@[go_sem] theorem ty_bool_99 : boolTy Try.prog 99 = false := by kernel_rfl
@[go_sem] theorem ty_int_99 : intTy Try.prog 99 = none := by kernel_rfl
@[go_sem] theorem ty_slice_99 : sliceTy Try.prog 99 = none := by kernel_rfl
@[go_sem] theorem ty_agg_99 : aggTy Try.prog 99 = some false := by kernel_rfl
@[go_sem] theorem ty_size_99 : sizeTy Try.prog 99 = some 1 := by kernel_rfl
@[go_sem] theorem ty_zero_99 : zeroTy Try.prog 99 = some [.lit (.pointer none)] := by kernel_rfl
@[go_sem] theorem ty_array_99 : arrayTy Try.prog 99 = none := by kernel_rfl
@[go_sem] theorem ty_str_100 : strTy Try.prog 100 = false := by kernel_rfl
@[go_sem] theorem ty_bool_100 : boolTy Try.prog 100 = false := by kernel_rfl
@[go_sem] theorem ty_int_100 : intTy Try.prog 100 = none := by kernel_rfl
@[go_sem] theorem ty_slice_100 : sliceTy Try.prog 100 = none := by kernel_rfl
@[go_sem] theorem ty_agg_100 : aggTy Try.prog 100 = some true := by kernel_rfl
@[go_sem] theorem ty_size_100 : sizeTy Try.prog 100 = some 12 := by kernel_rfl
@[go_sem] theorem ty_zero_100 : zeroTy Try.prog 100 = some [.nils, .nils, .nils, .nils, .nils, .nils, .nils, .lit (.bool false), .lit (.int .i64 0), .nils, .nils, .nils] := by kernel_rfl
@[go_sem] theorem ty_array_100 : arrayTy Try.prog 100 = none := by kernel_rfl
@[go_sem] theorem ty_field_100_0 : fieldTy Try.prog 100 0 = some (0, 2, 36) := by kernel_rfl
@[go_sem] theorem ty_field_100_1 : fieldTy Try.prog 100 1 = some (2, 2, 36) := by kernel_rfl
@[go_sem] theorem ty_field_100_2 : fieldTy Try.prog 100 2 = some (4, 1, 91) := by kernel_rfl
@[go_sem] theorem ty_field_100_3 : fieldTy Try.prog 100 3 = some (5, 2, 41) := by kernel_rfl
@[go_sem] theorem ty_field_100_4 : fieldTy Try.prog 100 4 = some (7, 1, 4) := by kernel_rfl
@[go_sem] theorem ty_field_100_5 : fieldTy Try.prog 100 5 = some (8, 1, 3) := by kernel_rfl
@[go_sem] theorem ty_field_100_6 : fieldTy Try.prog 100 6 = some (9, 1, 33) := by kernel_rfl
@[go_sem] theorem ty_field_100_7 : fieldTy Try.prog 100 7 = some (10, 1, 33) := by kernel_rfl
@[go_sem] theorem ty_field_100_8 : fieldTy Try.prog 100 8 = some (11, 1, 46) := by kernel_rfl
@[go_sem] theorem ty_places_100 : placesTy Try.prog 100 = some [(0, 2), (2, 2), (4, 1), (5, 2), (7, 1), (8, 1), (9, 1), (10, 1), (11, 1)] := by kernel_rfl
@[go_sem] theorem ty_str_101 : strTy Try.prog 101 = false := by kernel_rfl
@[go_sem] theorem ty_bool_101 : boolTy Try.prog 101 = false := by kernel_rfl
@[go_sem] theorem ty_int_101 : intTy Try.prog 101 = none := by kernel_rfl
@[go_sem] theorem ty_slice_101 : sliceTy Try.prog 101 = none := by kernel_rfl
@[go_sem] theorem ty_agg_101 : aggTy Try.prog 101 = some true := by kernel_rfl
@[go_sem] theorem ty_size_101 : sizeTy Try.prog 101 = some 12 := by kernel_rfl
@[go_sem] theorem ty_zero_101 : zeroTy Try.prog 101 = some [.nils, .nils, .nils, .nils, .nils, .nils, .nils, .lit (.bool false), .lit (.int .i64 0), .nils, .nils, .nils] := by kernel_rfl
@[go_sem] theorem ty_array_101 : arrayTy Try.prog 101 = none := by kernel_rfl
@[go_sem] theorem ty_field_101_0 : fieldTy Try.prog 101 0 = some (0, 2, 36) := by kernel_rfl
@[go_sem] theorem ty_field_101_1 : fieldTy Try.prog 101 1 = some (2, 2, 36) := by kernel_rfl
@[go_sem] theorem ty_field_101_2 : fieldTy Try.prog 101 2 = some (4, 1, 91) := by kernel_rfl
@[go_sem] theorem ty_field_101_3 : fieldTy Try.prog 101 3 = some (5, 2, 41) := by kernel_rfl
@[go_sem] theorem ty_field_101_4 : fieldTy Try.prog 101 4 = some (7, 1, 4) := by kernel_rfl
@[go_sem] theorem ty_field_101_5 : fieldTy Try.prog 101 5 = some (8, 1, 3) := by kernel_rfl
@[go_sem] theorem ty_field_101_6 : fieldTy Try.prog 101 6 = some (9, 1, 33) := by kernel_rfl
@[go_sem] theorem ty_field_101_7 : fieldTy Try.prog 101 7 = some (10, 1, 33) := by kernel_rfl
@[go_sem] theorem ty_field_101_8 : fieldTy Try.prog 101 8 = some (11, 1, 46) := by kernel_rfl
@[go_sem] theorem ty_places_101 : placesTy Try.prog 101 = some [(0, 2), (2, 2), (4, 1), (5, 2), (7, 1), (8, 1), (9, 1), (10, 1), (11, 1)] := by kernel_rfl
@[go_sem] theorem ty_slice_102 : sliceTy Try.prog 102 = none := by kernel_rfl
@[go_sem] theorem ty_slice_103 : sliceTy Try.prog 103 = none := by kernel_rfl
@[go_sem] theorem ty_slice_104 : sliceTy Try.prog 104 = none := by kernel_rfl
@[go_sem] theorem ty_slice_105 : sliceTy Try.prog 105 = none := by kernel_rfl
@[go_sem] theorem ty_slice_106 : sliceTy Try.prog 106 = none := by kernel_rfl
@[go_sem] theorem ty_slice_107 : sliceTy Try.prog 107 = none := by kernel_rfl
@[go_sem] theorem ty_slice_108 : sliceTy Try.prog 108 = none := by kernel_rfl
@[go_sem] theorem ty_slice_109 : sliceTy Try.prog 109 = none := by kernel_rfl
@[go_sem] theorem ty_slice_110 : sliceTy Try.prog 110 = none := by kernel_rfl
@[go_sem] theorem ty_slice_111 : sliceTy Try.prog 111 = none := by kernel_rfl
@[go_sem] theorem ty_slice_112 : sliceTy Try.prog 112 = none := by kernel_rfl
@[go_sem] theorem ty_slice_113 : sliceTy Try.prog 113 = none := by kernel_rfl
@[go_sem] theorem ty_slice_114 : sliceTy Try.prog 114 = none := by kernel_rfl
@[go_sem] theorem ty_slice_115 : sliceTy Try.prog 115 = none := by kernel_rfl
@[go_sem] theorem ty_slice_116 : sliceTy Try.prog 116 = none := by kernel_rfl
@[go_sem] theorem ty_slice_117 : sliceTy Try.prog 117 = none := by kernel_rfl
@[go_sem] theorem ty_slice_118 : sliceTy Try.prog 118 = none := by kernel_rfl
@[go_sem] theorem ty_str_119 : strTy Try.prog 119 = false := by kernel_rfl
@[go_sem] theorem ty_bool_119 : boolTy Try.prog 119 = false := by kernel_rfl
@[go_sem] theorem ty_int_119 : intTy Try.prog 119 = none := by kernel_rfl
@[go_sem] theorem ty_slice_119 : sliceTy Try.prog 119 = none := by kernel_rfl
@[go_sem] theorem ty_agg_119 : aggTy Try.prog 119 = some true := by kernel_rfl
@[go_sem] theorem ty_size_119 : sizeTy Try.prog 119 = some 3 := by kernel_rfl
@[go_sem] theorem ty_zero_119 : zeroTy Try.prog 119 = some [.lit (.int .i64 0), .lit (.string ⟨⟨[]⟩⟩), .lit (.int .i64 0)] := by kernel_rfl
@[go_sem] theorem ty_array_119 : arrayTy Try.prog 119 = none := by kernel_rfl
@[go_sem] theorem ty_field_119_0 : fieldTy Try.prog 119 0 = some (0, 1, 3) := by kernel_rfl
@[go_sem] theorem ty_field_119_1 : fieldTy Try.prog 119 1 = some (1, 1, 9) := by kernel_rfl
@[go_sem] theorem ty_field_119_2 : fieldTy Try.prog 119 2 = some (2, 1, 3) := by kernel_rfl
@[go_sem] theorem ty_places_119 : placesTy Try.prog 119 = some [(0, 1), (1, 1), (2, 1)] := by kernel_rfl
@[go_sem] theorem ty_str_120 : strTy Try.prog 120 = false := by kernel_rfl
@[go_sem] theorem ty_bool_120 : boolTy Try.prog 120 = false := by kernel_rfl
@[go_sem] theorem ty_int_120 : intTy Try.prog 120 = none := by kernel_rfl
@[go_sem] theorem ty_slice_120 : sliceTy Try.prog 120 = none := by kernel_rfl
@[go_sem] theorem ty_agg_120 : aggTy Try.prog 120 = some true := by kernel_rfl
@[go_sem] theorem ty_size_120 : sizeTy Try.prog 120 = some 3 := by kernel_rfl
@[go_sem] theorem ty_zero_120 : zeroTy Try.prog 120 = some [.lit (.int .i64 0), .lit (.string ⟨⟨[]⟩⟩), .lit (.int .i64 0)] := by kernel_rfl
@[go_sem] theorem ty_array_120 : arrayTy Try.prog 120 = none := by kernel_rfl
@[go_sem] theorem ty_field_120_0 : fieldTy Try.prog 120 0 = some (0, 1, 3) := by kernel_rfl
@[go_sem] theorem ty_field_120_1 : fieldTy Try.prog 120 1 = some (1, 1, 9) := by kernel_rfl
@[go_sem] theorem ty_field_120_2 : fieldTy Try.prog 120 2 = some (2, 1, 3) := by kernel_rfl
@[go_sem] theorem ty_places_120 : placesTy Try.prog 120 = some [(0, 1), (1, 1), (2, 1)] := by kernel_rfl
@[go_sem] theorem ty_plain_120 : plainTy Try.prog 120 = some [3, 9, 3] := by kernel_rfl
@[go_sem] theorem ty_slice_121 : sliceTy Try.prog 121 = none := by kernel_rfl
@[go_sem] theorem ty_slice_122 : sliceTy Try.prog 122 = none := by kernel_rfl
@[go_sem] theorem ty_slice_123 : sliceTy Try.prog 123 = none := by kernel_rfl
@[go_sem] theorem ty_slice_124 : sliceTy Try.prog 124 = none := by kernel_rfl
@[go_sem] theorem ty_slice_125 : sliceTy Try.prog 125 = none := by kernel_rfl
@[go_sem] theorem ty_slice_126 : sliceTy Try.prog 126 = none := by kernel_rfl
@[go_sem] theorem ty_slice_127 : sliceTy Try.prog 127 = none := by kernel_rfl
@[go_sem] theorem ty_slice_128 : sliceTy Try.prog 128 = none := by kernel_rfl
@[go_sem] theorem ty_slice_129 : sliceTy Try.prog 129 = none := by kernel_rfl
@[go_sem] theorem ty_slice_130 : sliceTy Try.prog 130 = none := by kernel_rfl
@[go_sem] theorem ty_slice_131 : sliceTy Try.prog 131 = none := by kernel_rfl
@[go_sem] theorem ty_slice_132 : sliceTy Try.prog 132 = none := by kernel_rfl
@[go_sem] theorem ty_slice_133 : sliceTy Try.prog 133 = none := by kernel_rfl
@[go_sem] theorem ty_slice_134 : sliceTy Try.prog 134 = none := by kernel_rfl
@[go_sem] theorem ty_slice_135 : sliceTy Try.prog 135 = none := by kernel_rfl
@[go_sem] theorem ty_slice_136 : sliceTy Try.prog 136 = none := by kernel_rfl
@[go_sem] theorem ty_slice_137 : sliceTy Try.prog 137 = none := by kernel_rfl
@[go_sem] theorem ty_str_138 : strTy Try.prog 138 = false := by kernel_rfl
@[go_sem] theorem ty_bool_138 : boolTy Try.prog 138 = false := by kernel_rfl
@[go_sem] theorem ty_int_138 : intTy Try.prog 138 = none := by kernel_rfl
@[go_sem] theorem ty_slice_138 : sliceTy Try.prog 138 = none := by kernel_rfl
@[go_sem] theorem ty_agg_138 : aggTy Try.prog 138 = some true := by kernel_rfl
@[go_sem] theorem ty_size_138 : sizeTy Try.prog 138 = some 4 := by kernel_rfl
@[go_sem] theorem ty_zero_138 : zeroTy Try.prog 138 = some [.lit (.pointer none), .lit (.pointer none), .lit (.pointer none), .lit (.string ⟨⟨[]⟩⟩)] := by kernel_rfl
@[go_sem] theorem ty_array_138 : arrayTy Try.prog 138 = none := by kernel_rfl
@[go_sem] theorem ty_field_138_0 : fieldTy Try.prog 138 0 = some (0, 1, 17) := by kernel_rfl
@[go_sem] theorem ty_field_138_1 : fieldTy Try.prog 138 1 = some (1, 1, 17) := by kernel_rfl
@[go_sem] theorem ty_field_138_2 : fieldTy Try.prog 138 2 = some (2, 1, 17) := by kernel_rfl
@[go_sem] theorem ty_field_138_3 : fieldTy Try.prog 138 3 = some (3, 1, 9) := by kernel_rfl
@[go_sem] theorem ty_places_138 : placesTy Try.prog 138 = some [(0, 1), (1, 1), (2, 1), (3, 1)] := by kernel_rfl
@[go_sem] theorem ty_str_139 : strTy Try.prog 139 = false := by kernel_rfl
@[go_sem] theorem ty_bool_139 : boolTy Try.prog 139 = false := by kernel_rfl
@[go_sem] theorem ty_int_139 : intTy Try.prog 139 = none := by kernel_rfl
@[go_sem] theorem ty_slice_139 : sliceTy Try.prog 139 = none := by kernel_rfl
@[go_sem] theorem ty_agg_139 : aggTy Try.prog 139 = some true := by kernel_rfl
@[go_sem] theorem ty_size_139 : sizeTy Try.prog 139 = some 4 := by kernel_rfl
@[go_sem] theorem ty_zero_139 : zeroTy Try.prog 139 = some [.lit (.pointer none), .lit (.pointer none), .lit (.pointer none), .lit (.string ⟨⟨[]⟩⟩)] := by kernel_rfl
@[go_sem] theorem ty_array_139 : arrayTy Try.prog 139 = none := by kernel_rfl
@[go_sem] theorem ty_field_139_0 : fieldTy Try.prog 139 0 = some (0, 1, 17) := by kernel_rfl
@[go_sem] theorem ty_field_139_1 : fieldTy Try.prog 139 1 = some (1, 1, 17) := by kernel_rfl
@[go_sem] theorem ty_field_139_2 : fieldTy Try.prog 139 2 = some (2, 1, 17) := by kernel_rfl
@[go_sem] theorem ty_field_139_3 : fieldTy Try.prog 139 3 = some (3, 1, 9) := by kernel_rfl
@[go_sem] theorem ty_places_139 : placesTy Try.prog 139 = some [(0, 1), (1, 1), (2, 1), (3, 1)] := by kernel_rfl
@[go_sem] theorem ty_str_140 : strTy Try.prog 140 = false := by kernel_rfl
@[go_sem] theorem ty_bool_140 : boolTy Try.prog 140 = false := by kernel_rfl
@[go_sem] theorem ty_int_140 : intTy Try.prog 140 = none := by kernel_rfl
@[go_sem] theorem ty_slice_140 : sliceTy Try.prog 140 = none := by kernel_rfl
@[go_sem] theorem ty_agg_140 : aggTy Try.prog 140 = some true := by kernel_rfl
@[go_sem] theorem ty_size_140 : sizeTy Try.prog 140 = some 0 := by kernel_rfl
@[go_sem] theorem ty_zero_140 : zeroTy Try.prog 140 = some [] := by kernel_rfl
@[go_sem] theorem ty_array_140 : arrayTy Try.prog 140 = some (0, 16, 1) := by kernel_rfl
@[go_sem] theorem ty_places_140 : placesTy Try.prog 140 = some [] := by kernel_rfl
@[go_sem] theorem ty_str_141 : strTy Try.prog 141 = false := by kernel_rfl
@[go_sem] theorem ty_bool_141 : boolTy Try.prog 141 = false := by kernel_rfl
@[go_sem] theorem ty_int_141 : intTy Try.prog 141 = none := by kernel_rfl
@[go_sem] theorem ty_slice_141 : sliceTy Try.prog 141 = none := by kernel_rfl
@[go_sem] theorem ty_agg_141 : aggTy Try.prog 141 = some true := by kernel_rfl
@[go_sem] theorem ty_size_141 : sizeTy Try.prog 141 = some 0 := by kernel_rfl
@[go_sem] theorem ty_zero_141 : zeroTy Try.prog 141 = some [] := by kernel_rfl
@[go_sem] theorem ty_array_141 : arrayTy Try.prog 141 = none := by kernel_rfl
@[go_sem] theorem ty_places_141 : placesTy Try.prog 141 = some [(0, 0)] := by kernel_rfl
@[go_sem] theorem ty_str_142 : strTy Try.prog 142 = false := by kernel_rfl
@[go_sem] theorem ty_bool_142 : boolTy Try.prog 142 = false := by kernel_rfl
@[go_sem] theorem ty_int_142 : intTy Try.prog 142 = none := by kernel_rfl
@[go_sem] theorem ty_slice_142 : sliceTy Try.prog 142 = none := by kernel_rfl
@[go_sem] theorem ty_agg_142 : aggTy Try.prog 142 = some true := by kernel_rfl
@[go_sem] theorem ty_size_142 : sizeTy Try.prog 142 = some 0 := by kernel_rfl
@[go_sem] theorem ty_zero_142 : zeroTy Try.prog 142 = some [] := by kernel_rfl
@[go_sem] theorem ty_array_142 : arrayTy Try.prog 142 = none := by kernel_rfl
@[go_sem] theorem ty_places_142 : placesTy Try.prog 142 = some [(0, 0)] := by kernel_rfl
@[go_sem] theorem ty_slice_143 : sliceTy Try.prog 143 = none := by kernel_rfl
@[go_sem] theorem ty_str_144 : strTy Try.prog 144 = false := by kernel_rfl
@[go_sem] theorem ty_bool_144 : boolTy Try.prog 144 = false := by kernel_rfl
@[go_sem] theorem ty_int_144 : intTy Try.prog 144 = some .u32 := by kernel_rfl
@[go_sem] theorem ty_slice_144 : sliceTy Try.prog 144 = none := by kernel_rfl
@[go_sem] theorem ty_agg_144 : aggTy Try.prog 144 = some false := by kernel_rfl
@[go_sem] theorem ty_size_144 : sizeTy Try.prog 144 = some 1 := by kernel_rfl
@[go_sem] theorem ty_zero_144 : zeroTy Try.prog 144 = some [.lit (.int .u32 0)] := by kernel_rfl
@[go_sem] theorem ty_array_144 : arrayTy Try.prog 144 = none := by kernel_rfl
@[go_sem] theorem ty_str_145 : strTy Try.prog 145 = false := by kernel_rfl
@[go_sem] theorem ty_bool_145 : boolTy Try.prog 145 = false := by kernel_rfl
@[go_sem] theorem ty_int_145 : intTy Try.prog 145 = some .u8 := by kernel_rfl
@[go_sem] theorem ty_slice_145 : sliceTy Try.prog 145 = none := by kernel_rfl
@[go_sem] theorem ty_agg_145 : aggTy Try.prog 145 = some false := by kernel_rfl
@[go_sem] theorem ty_size_145 : sizeTy Try.prog 145 = some 1 := by kernel_rfl
@[go_sem] theorem ty_zero_145 : zeroTy Try.prog 145 = some [.lit (.int .u8 0)] := by kernel_rfl
@[go_sem] theorem ty_array_145 : arrayTy Try.prog 145 = none := by kernel_rfl
@[go_sem] theorem ty_str_146 : strTy Try.prog 146 = false := by kernel_rfl
@[go_sem] theorem ty_bool_146 : boolTy Try.prog 146 = false := by kernel_rfl
@[go_sem] theorem ty_int_146 : intTy Try.prog 146 = some .u8 := by kernel_rfl
@[go_sem] theorem ty_slice_146 : sliceTy Try.prog 146 = none := by kernel_rfl
@[go_sem] theorem ty_agg_146 : aggTy Try.prog 146 = some false := by kernel_rfl
@[go_sem] theorem ty_size_146 : sizeTy Try.prog 146 = some 1 := by kernel_rfl
@[go_sem] theorem ty_zero_146 : zeroTy Try.prog 146 = some [.lit (.int .u8 0)] := by kernel_rfl
@[go_sem] theorem ty_array_146 : arrayTy Try.prog 146 = none := by kernel_rfl
@[go_sem] theorem ty_slice_147 : sliceTy Try.prog 147 = none := by kernel_rfl
@[go_sem] theorem ty_str_148 : strTy Try.prog 148 = false := by kernel_rfl
@[go_sem] theorem ty_bool_148 : boolTy Try.prog 148 = false := by kernel_rfl
@[go_sem] theorem ty_int_148 : intTy Try.prog 148 = none := by kernel_rfl
@[go_sem] theorem ty_slice_148 : sliceTy Try.prog 148 = none := by kernel_rfl
@[go_sem] theorem ty_agg_148 : aggTy Try.prog 148 = some false := by kernel_rfl
@[go_sem] theorem ty_size_148 : sizeTy Try.prog 148 = some 1 := by kernel_rfl
@[go_sem] theorem ty_zero_148 : zeroTy Try.prog 148 = some [.lit (.pointer none)] := by kernel_rfl
@[go_sem] theorem ty_array_148 : arrayTy Try.prog 148 = none := by kernel_rfl
@[go_sem] theorem ty_str_149 : strTy Try.prog 149 = false := by kernel_rfl
@[go_sem] theorem ty_bool_149 : boolTy Try.prog 149 = false := by kernel_rfl
@[go_sem] theorem ty_int_149 : intTy Try.prog 149 = some .i32 := by kernel_rfl
@[go_sem] theorem ty_slice_149 : sliceTy Try.prog 149 = none := by kernel_rfl
@[go_sem] theorem ty_agg_149 : aggTy Try.prog 149 = some false := by kernel_rfl
@[go_sem] theorem ty_size_149 : sizeTy Try.prog 149 = some 1 := by kernel_rfl
@[go_sem] theorem ty_zero_149 : zeroTy Try.prog 149 = some [.lit (.int .i32 0)] := by kernel_rfl
@[go_sem] theorem ty_array_149 : arrayTy Try.prog 149 = none := by kernel_rfl
@[go_sem] theorem ty_str_150 : strTy Try.prog 150 = false := by kernel_rfl
@[go_sem] theorem ty_bool_150 : boolTy Try.prog 150 = false := by kernel_rfl
@[go_sem] theorem ty_int_150 : intTy Try.prog 150 = some .i32 := by kernel_rfl
@[go_sem] theorem ty_slice_150 : sliceTy Try.prog 150 = none := by kernel_rfl
@[go_sem] theorem ty_agg_150 : aggTy Try.prog 150 = some false := by kernel_rfl
@[go_sem] theorem ty_size_150 : sizeTy Try.prog 150 = some 1 := by kernel_rfl
@[go_sem] theorem ty_zero_150 : zeroTy Try.prog 150 = some [.lit (.int .i32 0)] := by kernel_rfl
@[go_sem] theorem ty_array_150 : arrayTy Try.prog 150 = none := by kernel_rfl
@[go_sem] theorem ty_str_151 : strTy Try.prog 151 = false := by kernel_rfl
@[go_sem] theorem ty_bool_151 : boolTy Try.prog 151 = false := by kernel_rfl
@[go_sem] theorem ty_int_151 : intTy Try.prog 151 = none := by kernel_rfl
@[go_sem] theorem ty_slice_151 : sliceTy Try.prog 151 = none := by kernel_rfl
@[go_sem] theorem ty_agg_151 : aggTy Try.prog 151 = some true := by kernel_rfl
@[go_sem] theorem ty_size_151 : sizeTy Try.prog 151 = some 11 := by kernel_rfl
@[go_sem] theorem ty_zero_151 : zeroTy Try.prog 151 = some [.lit (.int .u64 0), .lit (.int .u64 0), .lit (.int .u32 0), .lit (.int .u8 0), .lit (.int .u8 0), .lit (.int .u8 0), .lit (.int .u8 0), .lit .nilFunc, .lit (.pointer none), .lit (.int .i32 0), .lit (.int .i32 0)] := by kernel_rfl
@[go_sem] theorem ty_array_151 : arrayTy Try.prog 151 = none := by kernel_rfl
@[go_sem] theorem ty_str_152 : strTy Try.prog 152 = false := by kernel_rfl
@[go_sem] theorem ty_bool_152 : boolTy Try.prog 152 = false := by kernel_rfl
@[go_sem] theorem ty_int_152 : intTy Try.prog 152 = none := by kernel_rfl
@[go_sem] theorem ty_slice_152 : sliceTy Try.prog 152 = none := by kernel_rfl
@[go_sem] theorem ty_agg_152 : aggTy Try.prog 152 = some true := by kernel_rfl
@[go_sem] theorem ty_size_152 : sizeTy Try.prog 152 = some 11 := by kernel_rfl
@[go_sem] theorem ty_zero_152 : zeroTy Try.prog 152 = some [.lit (.int .u64 0), .lit (.int .u64 0), .lit (.int .u32 0), .lit (.int .u8 0), .lit (.int .u8 0), .lit (.int .u8 0), .lit (.int .u8 0), .lit .nilFunc, .lit (.pointer none), .lit (.int .i32 0), .lit (.int .i32 0)] := by kernel_rfl
@[go_sem] theorem ty_array_152 : arrayTy Try.prog 152 = none := by kernel_rfl
@[go_sem] theorem ty_slice_153 : sliceTy Try.prog 153 = none := by kernel_rfl
end Go.Proofs.Ytdacgjleiloooaa
