/-
  The types of this seat's translation, as closed facts. By a program of ours (tyfacts.py).
-/
import Derived.Test.YtippinddoldhkaaGreatB1
import Derived.Test.YtippinddoldhkaaGreatProg
import Derived.KernelRfl
set_option linter.unusedSimpArgs false
set_option linter.unusedVariables false
namespace Go.Proofs.YtippinddoldhkaaGreat
open Go Go.Ew Go.Proofs
@[go_sem] theorem ty_slice_0 : sliceTy Tryz.prog 0 = none := by kernel_rfl
@[go_sem] theorem ty_str_3 : strTy Tryz.prog 3 = false := by kernel_rfl
@[go_sem] theorem ty_bool_3 : boolTy Tryz.prog 3 = false := by kernel_rfl
@[go_sem] theorem ty_int_3 : intTy Tryz.prog 3 = some .i64 := by kernel_rfl
@[go_sem] theorem ty_slice_3 : sliceTy Tryz.prog 3 = none := by kernel_rfl
@[go_sem] theorem ty_agg_3 : aggTy Tryz.prog 3 = some false := by kernel_rfl
@[go_sem] theorem ty_size_3 : sizeTy Tryz.prog 3 = some 1 := by kernel_rfl
@[go_sem] theorem ty_zero_3 : zeroTy Tryz.prog 3 = some [.lit (.int .i64 0)] := by kernel_rfl
@[go_sem] theorem ty_array_3 : arrayTy Tryz.prog 3 = none := by kernel_rfl
@[go_sem] theorem ty_str_4 : strTy Tryz.prog 4 = false := by kernel_rfl
@[go_sem] theorem ty_bool_4 : boolTy Tryz.prog 4 = true := by kernel_rfl
@[go_sem] theorem ty_int_4 : intTy Tryz.prog 4 = none := by kernel_rfl
@[go_sem] theorem ty_slice_4 : sliceTy Tryz.prog 4 = none := by kernel_rfl
@[go_sem] theorem ty_agg_4 : aggTy Tryz.prog 4 = some false := by kernel_rfl
@[go_sem] theorem ty_size_4 : sizeTy Tryz.prog 4 = some 1 := by kernel_rfl
@[go_sem] theorem ty_zero_4 : zeroTy Tryz.prog 4 = some [.lit (.bool false)] := by kernel_rfl
@[go_sem] theorem ty_array_4 : arrayTy Tryz.prog 4 = none := by kernel_rfl
@[go_sem] theorem ty_str_5 : strTy Tryz.prog 5 = false := by kernel_rfl
@[go_sem] theorem ty_bool_5 : boolTy Tryz.prog 5 = false := by kernel_rfl
@[go_sem] theorem ty_int_5 : intTy Tryz.prog 5 = some .u8 := by kernel_rfl
@[go_sem] theorem ty_slice_5 : sliceTy Tryz.prog 5 = none := by kernel_rfl
@[go_sem] theorem ty_agg_5 : aggTy Tryz.prog 5 = some false := by kernel_rfl
@[go_sem] theorem ty_size_5 : sizeTy Tryz.prog 5 = some 1 := by kernel_rfl
@[go_sem] theorem ty_zero_5 : zeroTy Tryz.prog 5 = some [.lit (.int .u8 0)] := by kernel_rfl
@[go_sem] theorem ty_array_5 : arrayTy Tryz.prog 5 = none := by kernel_rfl
@[go_sem] theorem ty_str_9 : strTy Tryz.prog 9 = true := by kernel_rfl
@[go_sem] theorem ty_bool_9 : boolTy Tryz.prog 9 = false := by kernel_rfl
@[go_sem] theorem ty_int_9 : intTy Tryz.prog 9 = none := by kernel_rfl
@[go_sem] theorem ty_slice_9 : sliceTy Tryz.prog 9 = none := by kernel_rfl
@[go_sem] theorem ty_agg_9 : aggTy Tryz.prog 9 = some false := by kernel_rfl
@[go_sem] theorem ty_size_9 : sizeTy Tryz.prog 9 = some 1 := by kernel_rfl
@[go_sem] theorem ty_zero_9 : zeroTy Tryz.prog 9 = some [.lit (.string ⟨⟨[]⟩⟩)] := by kernel_rfl
@[go_sem] theorem ty_array_9 : arrayTy Tryz.prog 9 = none := by kernel_rfl
@[go_sem] theorem ty_slice_20 : sliceTy Tryz.prog 20 = none := by kernel_rfl
@[go_sem] theorem ty_str_21 : strTy Tryz.prog 21 = false := by kernel_rfl
@[go_sem] theorem ty_bool_21 : boolTy Tryz.prog 21 = false := by kernel_rfl
@[go_sem] theorem ty_int_21 : intTy Tryz.prog 21 = some .i32 := by kernel_rfl
@[go_sem] theorem ty_slice_21 : sliceTy Tryz.prog 21 = none := by kernel_rfl
@[go_sem] theorem ty_agg_21 : aggTy Tryz.prog 21 = some false := by kernel_rfl
@[go_sem] theorem ty_size_21 : sizeTy Tryz.prog 21 = some 1 := by kernel_rfl
@[go_sem] theorem ty_zero_21 : zeroTy Tryz.prog 21 = some [.lit (.int .i32 0)] := by kernel_rfl
@[go_sem] theorem ty_array_21 : arrayTy Tryz.prog 21 = none := by kernel_rfl
@[go_sem] theorem ty_str_22 : strTy Tryz.prog 22 = false := by kernel_rfl
@[go_sem] theorem ty_bool_22 : boolTy Tryz.prog 22 = false := by kernel_rfl
@[go_sem] theorem ty_int_22 : intTy Tryz.prog 22 = none := by kernel_rfl
@[go_sem] theorem ty_slice_22 : sliceTy Tryz.prog 22 = none := by kernel_rfl
@[go_sem] theorem ty_agg_22 : aggTy Tryz.prog 22 = some true := by kernel_rfl
@[go_sem] theorem ty_size_22 : sizeTy Tryz.prog 22 = some 2 := by kernel_rfl
@[go_sem] theorem ty_zero_22 : zeroTy Tryz.prog 22 = some [.lit (.int .i64 0), .lit (.int .i64 0)] := by kernel_rfl
@[go_sem] theorem ty_array_22 : arrayTy Tryz.prog 22 = none := by kernel_rfl
@[go_sem] theorem ty_field_22_0 : fieldTy Tryz.prog 22 0 = some (0, 1, 3) := by kernel_rfl
@[go_sem] theorem ty_field_22_1 : fieldTy Tryz.prog 22 1 = some (1, 1, 3) := by kernel_rfl
@[go_sem] theorem ty_places_22 : placesTy Tryz.prog 22 = some [(0, 1), (1, 1)] := by kernel_rfl
@[go_sem] theorem ty_str_23 : strTy Tryz.prog 23 = false := by kernel_rfl
@[go_sem] theorem ty_bool_23 : boolTy Tryz.prog 23 = false := by kernel_rfl
@[go_sem] theorem ty_int_23 : intTy Tryz.prog 23 = none := by kernel_rfl
@[go_sem] theorem ty_slice_23 : sliceTy Tryz.prog 23 = none := by kernel_rfl
@[go_sem] theorem ty_agg_23 : aggTy Tryz.prog 23 = some true := by kernel_rfl
@[go_sem] theorem ty_size_23 : sizeTy Tryz.prog 23 = some 2 := by kernel_rfl
@[go_sem] theorem ty_zero_23 : zeroTy Tryz.prog 23 = some [.lit (.int .i64 0), .lit (.int .i64 0)] := by kernel_rfl
@[go_sem] theorem ty_array_23 : arrayTy Tryz.prog 23 = none := by kernel_rfl
@[go_sem] theorem ty_field_23_0 : fieldTy Tryz.prog 23 0 = some (0, 1, 3) := by kernel_rfl
@[go_sem] theorem ty_field_23_1 : fieldTy Tryz.prog 23 1 = some (1, 1, 3) := by kernel_rfl
@[go_sem] theorem ty_places_23 : placesTy Tryz.prog 23 = some [(0, 1), (1, 1)] := by kernel_rfl
@[go_sem] theorem ty_plain_23 : plainTy Tryz.prog 23 = some [3, 3] := by kernel_rfl
@[go_sem] theorem ty_str_24 : strTy Tryz.prog 24 = false := by kernel_rfl
@[go_sem] theorem ty_bool_24 : boolTy Tryz.prog 24 = false := by kernel_rfl
@[go_sem] theorem ty_int_24 : intTy Tryz.prog 24 = none := by kernel_rfl
@[go_sem] theorem ty_slice_24 : sliceTy Tryz.prog 24 = some (21, 1, 4) := by kernel_rfl
@[go_sem] theorem ty_agg_24 : aggTy Tryz.prog 24 = some false := by kernel_rfl
@[go_sem] theorem ty_size_24 : sizeTy Tryz.prog 24 = some 1 := by kernel_rfl
@[go_sem] theorem ty_zero_24 : zeroTy Tryz.prog 24 = some [.nils] := by kernel_rfl
@[go_sem] theorem ty_array_24 : arrayTy Tryz.prog 24 = none := by kernel_rfl
@[go_sem] theorem ty_str_26 : strTy Tryz.prog 26 = false := by kernel_rfl
@[go_sem] theorem ty_bool_26 : boolTy Tryz.prog 26 = false := by kernel_rfl
@[go_sem] theorem ty_int_26 : intTy Tryz.prog 26 = none := by kernel_rfl
@[go_sem] theorem ty_slice_26 : sliceTy Tryz.prog 26 = some (3, 1, 8) := by kernel_rfl
@[go_sem] theorem ty_agg_26 : aggTy Tryz.prog 26 = some false := by kernel_rfl
@[go_sem] theorem ty_size_26 : sizeTy Tryz.prog 26 = some 1 := by kernel_rfl
@[go_sem] theorem ty_zero_26 : zeroTy Tryz.prog 26 = some [.nils] := by kernel_rfl
@[go_sem] theorem ty_array_26 : arrayTy Tryz.prog 26 = none := by kernel_rfl
@[go_sem] theorem ty_str_27 : strTy Tryz.prog 27 = false := by kernel_rfl
@[go_sem] theorem ty_bool_27 : boolTy Tryz.prog 27 = false := by kernel_rfl
@[go_sem] theorem ty_int_27 : intTy Tryz.prog 27 = some .i64 := by kernel_rfl
@[go_sem] theorem ty_slice_27 : sliceTy Tryz.prog 27 = none := by kernel_rfl
@[go_sem] theorem ty_agg_27 : aggTy Tryz.prog 27 = some false := by kernel_rfl
@[go_sem] theorem ty_size_27 : sizeTy Tryz.prog 27 = some 1 := by kernel_rfl
@[go_sem] theorem ty_zero_27 : zeroTy Tryz.prog 27 = some [.lit (.int .i64 0)] := by kernel_rfl
@[go_sem] theorem ty_array_27 : arrayTy Tryz.prog 27 = none := by kernel_rfl
@[go_sem] theorem ty_slice_28 : sliceTy Tryz.prog 28 = none := by kernel_rfl
@[go_sem] theorem ty_str_32 : strTy Tryz.prog 32 = false := by kernel_rfl
@[go_sem] theorem ty_bool_32 : boolTy Tryz.prog 32 = false := by kernel_rfl
@[go_sem] theorem ty_int_32 : intTy Tryz.prog 32 = none := by kernel_rfl
@[go_sem] theorem ty_slice_32 : sliceTy Tryz.prog 32 = some (92, 4, 56) := by kernel_rfl
@[go_sem] theorem ty_agg_32 : aggTy Tryz.prog 32 = some false := by kernel_rfl
@[go_sem] theorem ty_size_32 : sizeTy Tryz.prog 32 = some 1 := by kernel_rfl
@[go_sem] theorem ty_zero_32 : zeroTy Tryz.prog 32 = some [.nils] := by kernel_rfl
@[go_sem] theorem ty_array_32 : arrayTy Tryz.prog 32 = none := by kernel_rfl
@[go_sem] theorem ty_str_33 : strTy Tryz.prog 33 = false := by kernel_rfl
@[go_sem] theorem ty_bool_33 : boolTy Tryz.prog 33 = false := by kernel_rfl
@[go_sem] theorem ty_int_33 : intTy Tryz.prog 33 = none := by kernel_rfl
@[go_sem] theorem ty_slice_33 : sliceTy Tryz.prog 33 = some (97, 7, 64) := by kernel_rfl
@[go_sem] theorem ty_agg_33 : aggTy Tryz.prog 33 = some false := by kernel_rfl
@[go_sem] theorem ty_size_33 : sizeTy Tryz.prog 33 = some 1 := by kernel_rfl
@[go_sem] theorem ty_zero_33 : zeroTy Tryz.prog 33 = some [.nils] := by kernel_rfl
@[go_sem] theorem ty_array_33 : arrayTy Tryz.prog 33 = none := by kernel_rfl
@[go_sem] theorem ty_str_34 : strTy Tryz.prog 34 = false := by kernel_rfl
@[go_sem] theorem ty_bool_34 : boolTy Tryz.prog 34 = false := by kernel_rfl
@[go_sem] theorem ty_int_34 : intTy Tryz.prog 34 = none := by kernel_rfl
@[go_sem] theorem ty_slice_34 : sliceTy Tryz.prog 34 = none := by kernel_rfl
@[go_sem] theorem ty_agg_34 : aggTy Tryz.prog 34 = some true := by kernel_rfl
@[go_sem] theorem ty_size_34 : sizeTy Tryz.prog 34 = some 2 := by kernel_rfl
@[go_sem] theorem ty_zero_34 : zeroTy Tryz.prog 34 = some [.nils, .nils] := by kernel_rfl
@[go_sem] theorem ty_array_34 : arrayTy Tryz.prog 34 = none := by kernel_rfl
@[go_sem] theorem ty_field_34_0 : fieldTy Tryz.prog 34 0 = some (0, 1, 32) := by kernel_rfl
@[go_sem] theorem ty_field_34_1 : fieldTy Tryz.prog 34 1 = some (1, 1, 33) := by kernel_rfl
@[go_sem] theorem ty_places_34 : placesTy Tryz.prog 34 = some [(0, 1), (1, 1)] := by kernel_rfl
@[go_sem] theorem ty_str_35 : strTy Tryz.prog 35 = false := by kernel_rfl
@[go_sem] theorem ty_bool_35 : boolTy Tryz.prog 35 = false := by kernel_rfl
@[go_sem] theorem ty_int_35 : intTy Tryz.prog 35 = none := by kernel_rfl
@[go_sem] theorem ty_slice_35 : sliceTy Tryz.prog 35 = none := by kernel_rfl
@[go_sem] theorem ty_agg_35 : aggTy Tryz.prog 35 = some true := by kernel_rfl
@[go_sem] theorem ty_size_35 : sizeTy Tryz.prog 35 = some 2 := by kernel_rfl
@[go_sem] theorem ty_zero_35 : zeroTy Tryz.prog 35 = some [.nils, .nils] := by kernel_rfl
@[go_sem] theorem ty_array_35 : arrayTy Tryz.prog 35 = none := by kernel_rfl
@[go_sem] theorem ty_field_35_0 : fieldTy Tryz.prog 35 0 = some (0, 1, 32) := by kernel_rfl
@[go_sem] theorem ty_field_35_1 : fieldTy Tryz.prog 35 1 = some (1, 1, 33) := by kernel_rfl
@[go_sem] theorem ty_places_35 : placesTy Tryz.prog 35 = some [(0, 1), (1, 1)] := by kernel_rfl
@[go_sem] theorem ty_str_36 : strTy Tryz.prog 36 = false := by kernel_rfl
@[go_sem] theorem ty_bool_36 : boolTy Tryz.prog 36 = false := by kernel_rfl
@[go_sem] theorem ty_int_36 : intTy Tryz.prog 36 = none := by kernel_rfl
@[go_sem] theorem ty_slice_36 : sliceTy Tryz.prog 36 = some (109, 3, 24) := by kernel_rfl
@[go_sem] theorem ty_agg_36 : aggTy Tryz.prog 36 = some false := by kernel_rfl
@[go_sem] theorem ty_size_36 : sizeTy Tryz.prog 36 = some 1 := by kernel_rfl
@[go_sem] theorem ty_zero_36 : zeroTy Tryz.prog 36 = some [.nils] := by kernel_rfl
@[go_sem] theorem ty_array_36 : arrayTy Tryz.prog 36 = none := by kernel_rfl
@[go_sem] theorem ty_str_37 : strTy Tryz.prog 37 = false := by kernel_rfl
@[go_sem] theorem ty_bool_37 : boolTy Tryz.prog 37 = false := by kernel_rfl
@[go_sem] theorem ty_int_37 : intTy Tryz.prog 37 = none := by kernel_rfl
@[go_sem] theorem ty_slice_37 : sliceTy Tryz.prog 37 = none := by kernel_rfl
@[go_sem] theorem ty_agg_37 : aggTy Tryz.prog 37 = some true := by kernel_rfl
@[go_sem] theorem ty_size_37 : sizeTy Tryz.prog 37 = some 2 := by kernel_rfl
@[go_sem] theorem ty_zero_37 : zeroTy Tryz.prog 37 = some [.nils, .nils] := by kernel_rfl
@[go_sem] theorem ty_array_37 : arrayTy Tryz.prog 37 = none := by kernel_rfl
@[go_sem] theorem ty_field_37_0 : fieldTy Tryz.prog 37 0 = some (0, 1, 26) := by kernel_rfl
@[go_sem] theorem ty_field_37_1 : fieldTy Tryz.prog 37 1 = some (1, 1, 36) := by kernel_rfl
@[go_sem] theorem ty_places_37 : placesTy Tryz.prog 37 = some [(0, 1), (1, 1)] := by kernel_rfl
@[go_sem] theorem ty_str_38 : strTy Tryz.prog 38 = false := by kernel_rfl
@[go_sem] theorem ty_bool_38 : boolTy Tryz.prog 38 = false := by kernel_rfl
@[go_sem] theorem ty_int_38 : intTy Tryz.prog 38 = none := by kernel_rfl
@[go_sem] theorem ty_slice_38 : sliceTy Tryz.prog 38 = none := by kernel_rfl
@[go_sem] theorem ty_agg_38 : aggTy Tryz.prog 38 = some true := by kernel_rfl
@[go_sem] theorem ty_size_38 : sizeTy Tryz.prog 38 = some 2 := by kernel_rfl
@[go_sem] theorem ty_zero_38 : zeroTy Tryz.prog 38 = some [.nils, .nils] := by kernel_rfl
@[go_sem] theorem ty_array_38 : arrayTy Tryz.prog 38 = none := by kernel_rfl
@[go_sem] theorem ty_field_38_0 : fieldTy Tryz.prog 38 0 = some (0, 1, 26) := by kernel_rfl
@[go_sem] theorem ty_field_38_1 : fieldTy Tryz.prog 38 1 = some (1, 1, 36) := by kernel_rfl
@[go_sem] theorem ty_places_38 : placesTy Tryz.prog 38 = some [(0, 1), (1, 1)] := by kernel_rfl
@[go_sem] theorem ty_str_39 : strTy Tryz.prog 39 = false := by kernel_rfl
@[go_sem] theorem ty_bool_39 : boolTy Tryz.prog 39 = false := by kernel_rfl
@[go_sem] theorem ty_int_39 : intTy Tryz.prog 39 = none := by kernel_rfl
@[go_sem] theorem ty_slice_39 : sliceTy Tryz.prog 39 = some (113, 4, 32) := by kernel_rfl
@[go_sem] theorem ty_agg_39 : aggTy Tryz.prog 39 = some false := by kernel_rfl
@[go_sem] theorem ty_size_39 : sizeTy Tryz.prog 39 = some 1 := by kernel_rfl
@[go_sem] theorem ty_zero_39 : zeroTy Tryz.prog 39 = some [.nils] := by kernel_rfl
@[go_sem] theorem ty_array_39 : arrayTy Tryz.prog 39 = none := by kernel_rfl
@[go_sem] theorem ty_str_40 : strTy Tryz.prog 40 = false := by kernel_rfl
@[go_sem] theorem ty_bool_40 : boolTy Tryz.prog 40 = false := by kernel_rfl
@[go_sem] theorem ty_int_40 : intTy Tryz.prog 40 = none := by kernel_rfl
@[go_sem] theorem ty_slice_40 : sliceTy Tryz.prog 40 = some (86, 5, 40) := by kernel_rfl
@[go_sem] theorem ty_agg_40 : aggTy Tryz.prog 40 = some false := by kernel_rfl
@[go_sem] theorem ty_size_40 : sizeTy Tryz.prog 40 = some 1 := by kernel_rfl
@[go_sem] theorem ty_zero_40 : zeroTy Tryz.prog 40 = some [.nils] := by kernel_rfl
@[go_sem] theorem ty_array_40 : arrayTy Tryz.prog 40 = none := by kernel_rfl
@[go_sem] theorem ty_str_41 : strTy Tryz.prog 41 = false := by kernel_rfl
@[go_sem] theorem ty_bool_41 : boolTy Tryz.prog 41 = false := by kernel_rfl
@[go_sem] theorem ty_int_41 : intTy Tryz.prog 41 = none := by kernel_rfl
@[go_sem] theorem ty_slice_41 : sliceTy Tryz.prog 41 = none := by kernel_rfl
@[go_sem] theorem ty_agg_41 : aggTy Tryz.prog 41 = some true := by kernel_rfl
@[go_sem] theorem ty_size_41 : sizeTy Tryz.prog 41 = some 5 := by kernel_rfl
@[go_sem] theorem ty_zero_41 : zeroTy Tryz.prog 41 = some [.nils, .nils, .nils, .lit (.int .i64 0), .nils] := by kernel_rfl
@[go_sem] theorem ty_array_41 : arrayTy Tryz.prog 41 = none := by kernel_rfl
@[go_sem] theorem ty_field_41_0 : fieldTy Tryz.prog 41 0 = some (0, 2, 38) := by kernel_rfl
@[go_sem] theorem ty_field_41_1 : fieldTy Tryz.prog 41 1 = some (2, 1, 39) := by kernel_rfl
@[go_sem] theorem ty_field_41_2 : fieldTy Tryz.prog 41 2 = some (3, 1, 3) := by kernel_rfl
@[go_sem] theorem ty_field_41_3 : fieldTy Tryz.prog 41 3 = some (4, 1, 40) := by kernel_rfl
@[go_sem] theorem ty_places_41 : placesTy Tryz.prog 41 = some [(0, 2), (2, 1), (3, 1), (4, 1)] := by kernel_rfl
@[go_sem] theorem ty_str_42 : strTy Tryz.prog 42 = false := by kernel_rfl
@[go_sem] theorem ty_bool_42 : boolTy Tryz.prog 42 = false := by kernel_rfl
@[go_sem] theorem ty_int_42 : intTy Tryz.prog 42 = none := by kernel_rfl
@[go_sem] theorem ty_slice_42 : sliceTy Tryz.prog 42 = none := by kernel_rfl
@[go_sem] theorem ty_agg_42 : aggTy Tryz.prog 42 = some true := by kernel_rfl
@[go_sem] theorem ty_size_42 : sizeTy Tryz.prog 42 = some 5 := by kernel_rfl
@[go_sem] theorem ty_zero_42 : zeroTy Tryz.prog 42 = some [.nils, .nils, .nils, .lit (.int .i64 0), .nils] := by kernel_rfl
@[go_sem] theorem ty_array_42 : arrayTy Tryz.prog 42 = none := by kernel_rfl
@[go_sem] theorem ty_field_42_0 : fieldTy Tryz.prog 42 0 = some (0, 2, 38) := by kernel_rfl
@[go_sem] theorem ty_field_42_1 : fieldTy Tryz.prog 42 1 = some (2, 1, 39) := by kernel_rfl
@[go_sem] theorem ty_field_42_2 : fieldTy Tryz.prog 42 2 = some (3, 1, 3) := by kernel_rfl
@[go_sem] theorem ty_field_42_3 : fieldTy Tryz.prog 42 3 = some (4, 1, 40) := by kernel_rfl
@[go_sem] theorem ty_places_42 : placesTy Tryz.prog 42 = some [(0, 2), (2, 1), (3, 1), (4, 1)] := by kernel_rfl
@[go_sem] theorem ty_str_45 : strTy Tryz.prog 45 = false := by kernel_rfl
@[go_sem] theorem ty_bool_45 : boolTy Tryz.prog 45 = false := by kernel_rfl
@[go_sem] theorem ty_int_45 : intTy Tryz.prog 45 = none := by kernel_rfl
@[go_sem] theorem ty_slice_45 : sliceTy Tryz.prog 45 = some (52, 2, 16) := by kernel_rfl
@[go_sem] theorem ty_agg_45 : aggTy Tryz.prog 45 = some false := by kernel_rfl
@[go_sem] theorem ty_size_45 : sizeTy Tryz.prog 45 = some 1 := by kernel_rfl
@[go_sem] theorem ty_zero_45 : zeroTy Tryz.prog 45 = some [.nils] := by kernel_rfl
@[go_sem] theorem ty_array_45 : arrayTy Tryz.prog 45 = none := by kernel_rfl
@[go_sem] theorem ty_slice_46 : sliceTy Tryz.prog 46 = none := by kernel_rfl
@[go_sem] theorem ty_str_51 : strTy Tryz.prog 51 = false := by kernel_rfl
@[go_sem] theorem ty_bool_51 : boolTy Tryz.prog 51 = false := by kernel_rfl
@[go_sem] theorem ty_int_51 : intTy Tryz.prog 51 = none := by kernel_rfl
@[go_sem] theorem ty_slice_51 : sliceTy Tryz.prog 51 = none := by kernel_rfl
@[go_sem] theorem ty_agg_51 : aggTy Tryz.prog 51 = some true := by kernel_rfl
@[go_sem] theorem ty_size_51 : sizeTy Tryz.prog 51 = some 2 := by kernel_rfl
@[go_sem] theorem ty_zero_51 : zeroTy Tryz.prog 51 = some [.lit (.int .i64 0), .lit (.int .i64 0)] := by kernel_rfl
@[go_sem] theorem ty_array_51 : arrayTy Tryz.prog 51 = none := by kernel_rfl
@[go_sem] theorem ty_field_51_0 : fieldTy Tryz.prog 51 0 = some (0, 1, 3) := by kernel_rfl
@[go_sem] theorem ty_field_51_1 : fieldTy Tryz.prog 51 1 = some (1, 1, 3) := by kernel_rfl
@[go_sem] theorem ty_places_51 : placesTy Tryz.prog 51 = some [(0, 1), (1, 1)] := by kernel_rfl
@[go_sem] theorem ty_str_52 : strTy Tryz.prog 52 = false := by kernel_rfl
@[go_sem] theorem ty_bool_52 : boolTy Tryz.prog 52 = false := by kernel_rfl
@[go_sem] theorem ty_int_52 : intTy Tryz.prog 52 = none := by kernel_rfl
@[go_sem] theorem ty_slice_52 : sliceTy Tryz.prog 52 = none := by kernel_rfl
@[go_sem] theorem ty_agg_52 : aggTy Tryz.prog 52 = some true := by kernel_rfl
@[go_sem] theorem ty_size_52 : sizeTy Tryz.prog 52 = some 2 := by kernel_rfl
@[go_sem] theorem ty_zero_52 : zeroTy Tryz.prog 52 = some [.lit (.int .i64 0), .lit (.int .i64 0)] := by kernel_rfl
@[go_sem] theorem ty_array_52 : arrayTy Tryz.prog 52 = none := by kernel_rfl
@[go_sem] theorem ty_field_52_0 : fieldTy Tryz.prog 52 0 = some (0, 1, 3) := by kernel_rfl
@[go_sem] theorem ty_field_52_1 : fieldTy Tryz.prog 52 1 = some (1, 1, 3) := by kernel_rfl
@[go_sem] theorem ty_places_52 : placesTy Tryz.prog 52 = some [(0, 1), (1, 1)] := by kernel_rfl
@[go_sem] theorem ty_plain_52 : plainTy Tryz.prog 52 = some [3, 3] := by kernel_rfl
@[go_sem] theorem ty_str_58 : strTy Tryz.prog 58 = false := by kernel_rfl
@[go_sem] theorem ty_bool_58 : boolTy Tryz.prog 58 = false := by kernel_rfl
@[go_sem] theorem ty_int_58 : intTy Tryz.prog 58 = none := by kernel_rfl
@[go_sem] theorem ty_slice_58 : sliceTy Tryz.prog 58 = some (26, 1, 24) := by kernel_rfl
@[go_sem] theorem ty_agg_58 : aggTy Tryz.prog 58 = some false := by kernel_rfl
@[go_sem] theorem ty_size_58 : sizeTy Tryz.prog 58 = some 1 := by kernel_rfl
@[go_sem] theorem ty_zero_58 : zeroTy Tryz.prog 58 = some [.nils] := by kernel_rfl
@[go_sem] theorem ty_array_58 : arrayTy Tryz.prog 58 = none := by kernel_rfl
@[go_sem] theorem ty_str_59 : strTy Tryz.prog 59 = false := by kernel_rfl
@[go_sem] theorem ty_bool_59 : boolTy Tryz.prog 59 = false := by kernel_rfl
@[go_sem] theorem ty_int_59 : intTy Tryz.prog 59 = none := by kernel_rfl
@[go_sem] theorem ty_slice_59 : sliceTy Tryz.prog 59 = none := by kernel_rfl
@[go_sem] theorem ty_agg_59 : aggTy Tryz.prog 59 = some true := by kernel_rfl
@[go_sem] theorem ty_size_59 : sizeTy Tryz.prog 59 = some 3 := by kernel_rfl
@[go_sem] theorem ty_zero_59 : zeroTy Tryz.prog 59 = some [.nils, .nils, .nils] := by kernel_rfl
@[go_sem] theorem ty_array_59 : arrayTy Tryz.prog 59 = none := by kernel_rfl
@[go_sem] theorem ty_field_59_0 : fieldTy Tryz.prog 59 0 = some (0, 2, 38) := by kernel_rfl
@[go_sem] theorem ty_field_59_1 : fieldTy Tryz.prog 59 1 = some (2, 1, 58) := by kernel_rfl
@[go_sem] theorem ty_places_59 : placesTy Tryz.prog 59 = some [(0, 2), (2, 1)] := by kernel_rfl
@[go_sem] theorem ty_str_60 : strTy Tryz.prog 60 = false := by kernel_rfl
@[go_sem] theorem ty_bool_60 : boolTy Tryz.prog 60 = false := by kernel_rfl
@[go_sem] theorem ty_int_60 : intTy Tryz.prog 60 = none := by kernel_rfl
@[go_sem] theorem ty_slice_60 : sliceTy Tryz.prog 60 = none := by kernel_rfl
@[go_sem] theorem ty_agg_60 : aggTy Tryz.prog 60 = some true := by kernel_rfl
@[go_sem] theorem ty_size_60 : sizeTy Tryz.prog 60 = some 3 := by kernel_rfl
@[go_sem] theorem ty_zero_60 : zeroTy Tryz.prog 60 = some [.nils, .nils, .nils] := by kernel_rfl
@[go_sem] theorem ty_array_60 : arrayTy Tryz.prog 60 = none := by kernel_rfl
@[go_sem] theorem ty_field_60_0 : fieldTy Tryz.prog 60 0 = some (0, 2, 38) := by kernel_rfl
@[go_sem] theorem ty_field_60_1 : fieldTy Tryz.prog 60 1 = some (2, 1, 58) := by kernel_rfl
@[go_sem] theorem ty_places_60 : placesTy Tryz.prog 60 = some [(0, 2), (2, 1)] := by kernel_rfl
@[go_sem] theorem ty_str_63 : strTy Tryz.prog 63 = false := by kernel_rfl
@[go_sem] theorem ty_bool_63 : boolTy Tryz.prog 63 = false := by kernel_rfl
@[go_sem] theorem ty_int_63 : intTy Tryz.prog 63 = none := by kernel_rfl
@[go_sem] theorem ty_slice_63 : sliceTy Tryz.prog 63 = none := by kernel_rfl
@[go_sem] theorem ty_agg_63 : aggTy Tryz.prog 63 = some true := by kernel_rfl
@[go_sem] theorem ty_size_63 : sizeTy Tryz.prog 63 = some 2 := by kernel_rfl
@[go_sem] theorem ty_zero_63 : zeroTy Tryz.prog 63 = some [.nils, .nils] := by kernel_rfl
@[go_sem] theorem ty_array_63 : arrayTy Tryz.prog 63 = none := by kernel_rfl
@[go_sem] theorem ty_field_63_0 : fieldTy Tryz.prog 63 0 = some (0, 1, 26) := by kernel_rfl
@[go_sem] theorem ty_field_63_1 : fieldTy Tryz.prog 63 1 = some (1, 1, 26) := by kernel_rfl
@[go_sem] theorem ty_places_63 : placesTy Tryz.prog 63 = some [(0, 1), (1, 1)] := by kernel_rfl
@[go_sem] theorem ty_str_64 : strTy Tryz.prog 64 = false := by kernel_rfl
@[go_sem] theorem ty_bool_64 : boolTy Tryz.prog 64 = false := by kernel_rfl
@[go_sem] theorem ty_int_64 : intTy Tryz.prog 64 = none := by kernel_rfl
@[go_sem] theorem ty_slice_64 : sliceTy Tryz.prog 64 = none := by kernel_rfl
@[go_sem] theorem ty_agg_64 : aggTy Tryz.prog 64 = some true := by kernel_rfl
@[go_sem] theorem ty_size_64 : sizeTy Tryz.prog 64 = some 2 := by kernel_rfl
@[go_sem] theorem ty_zero_64 : zeroTy Tryz.prog 64 = some [.nils, .nils] := by kernel_rfl
@[go_sem] theorem ty_array_64 : arrayTy Tryz.prog 64 = none := by kernel_rfl
@[go_sem] theorem ty_field_64_0 : fieldTy Tryz.prog 64 0 = some (0, 1, 26) := by kernel_rfl
@[go_sem] theorem ty_field_64_1 : fieldTy Tryz.prog 64 1 = some (1, 1, 26) := by kernel_rfl
@[go_sem] theorem ty_places_64 : placesTy Tryz.prog 64 = some [(0, 1), (1, 1)] := by kernel_rfl
@[go_sem] theorem ty_slice_66 : sliceTy Tryz.prog 66 = none := by kernel_rfl
@[go_sem] theorem ty_str_71 : strTy Tryz.prog 71 = false := by kernel_rfl
@[go_sem] theorem ty_bool_71 : boolTy Tryz.prog 71 = false := by kernel_rfl
@[go_sem] theorem ty_int_71 : intTy Tryz.prog 71 = none := by kernel_rfl
@[go_sem] theorem ty_slice_71 : sliceTy Tryz.prog 71 = some (76, 3, 72) := by kernel_rfl
@[go_sem] theorem ty_agg_71 : aggTy Tryz.prog 71 = some false := by kernel_rfl
@[go_sem] theorem ty_size_71 : sizeTy Tryz.prog 71 = some 1 := by kernel_rfl
@[go_sem] theorem ty_zero_71 : zeroTy Tryz.prog 71 = some [.nils] := by kernel_rfl
@[go_sem] theorem ty_array_71 : arrayTy Tryz.prog 71 = none := by kernel_rfl
@[go_sem] theorem ty_slice_72 : sliceTy Tryz.prog 72 = none := by kernel_rfl
@[go_sem] theorem ty_str_75 : strTy Tryz.prog 75 = false := by kernel_rfl
@[go_sem] theorem ty_bool_75 : boolTy Tryz.prog 75 = false := by kernel_rfl
@[go_sem] theorem ty_int_75 : intTy Tryz.prog 75 = none := by kernel_rfl
@[go_sem] theorem ty_slice_75 : sliceTy Tryz.prog 75 = none := by kernel_rfl
@[go_sem] theorem ty_agg_75 : aggTy Tryz.prog 75 = some true := by kernel_rfl
@[go_sem] theorem ty_size_75 : sizeTy Tryz.prog 75 = some 3 := by kernel_rfl
@[go_sem] theorem ty_zero_75 : zeroTy Tryz.prog 75 = some [.nils, .nils, .nils] := by kernel_rfl
@[go_sem] theorem ty_array_75 : arrayTy Tryz.prog 75 = none := by kernel_rfl
@[go_sem] theorem ty_field_75_0 : fieldTy Tryz.prog 75 0 = some (0, 2, 64) := by kernel_rfl
@[go_sem] theorem ty_field_75_1 : fieldTy Tryz.prog 75 1 = some (2, 1, 26) := by kernel_rfl
@[go_sem] theorem ty_places_75 : placesTy Tryz.prog 75 = some [(0, 2), (2, 1)] := by kernel_rfl
@[go_sem] theorem ty_str_76 : strTy Tryz.prog 76 = false := by kernel_rfl
@[go_sem] theorem ty_bool_76 : boolTy Tryz.prog 76 = false := by kernel_rfl
@[go_sem] theorem ty_int_76 : intTy Tryz.prog 76 = none := by kernel_rfl
@[go_sem] theorem ty_slice_76 : sliceTy Tryz.prog 76 = none := by kernel_rfl
@[go_sem] theorem ty_agg_76 : aggTy Tryz.prog 76 = some true := by kernel_rfl
@[go_sem] theorem ty_size_76 : sizeTy Tryz.prog 76 = some 3 := by kernel_rfl
@[go_sem] theorem ty_zero_76 : zeroTy Tryz.prog 76 = some [.nils, .nils, .nils] := by kernel_rfl
@[go_sem] theorem ty_array_76 : arrayTy Tryz.prog 76 = none := by kernel_rfl
@[go_sem] theorem ty_field_76_0 : fieldTy Tryz.prog 76 0 = some (0, 2, 64) := by kernel_rfl
@[go_sem] theorem ty_field_76_1 : fieldTy Tryz.prog 76 1 = some (2, 1, 26) := by kernel_rfl
@[go_sem] theorem ty_places_76 : placesTy Tryz.prog 76 = some [(0, 2), (2, 1)] := by kernel_rfl
@[go_sem] theorem ty_str_85 : strTy Tryz.prog 85 = false := by kernel_rfl
@[go_sem] theorem ty_bool_85 : boolTy Tryz.prog 85 = false := by kernel_rfl
@[go_sem] theorem ty_int_85 : intTy Tryz.prog 85 = none := by kernel_rfl
@[go_sem] theorem ty_slice_85 : sliceTy Tryz.prog 85 = none := by kernel_rfl
@[go_sem] theorem ty_agg_85 : aggTy Tryz.prog 85 = some true := by kernel_rfl
@[go_sem] theorem ty_size_85 : sizeTy Tryz.prog 85 = some 5 := by kernel_rfl
@[go_sem] theorem ty_zero_85 : zeroTy Tryz.prog 85 = some [.lit (.int .i64 0), .lit (.int .i64 0), .lit (.int .i64 0), .lit (.int .i64 0), .lit (.int .i64 0)] := by kernel_rfl
@[go_sem] theorem ty_array_85 : arrayTy Tryz.prog 85 = none := by kernel_rfl
@[go_sem] theorem ty_field_85_0 : fieldTy Tryz.prog 85 0 = some (0, 1, 3) := by kernel_rfl
@[go_sem] theorem ty_field_85_1 : fieldTy Tryz.prog 85 1 = some (1, 2, 23) := by kernel_rfl
@[go_sem] theorem ty_field_85_2 : fieldTy Tryz.prog 85 2 = some (3, 2, 23) := by kernel_rfl
@[go_sem] theorem ty_places_85 : placesTy Tryz.prog 85 = some [(0, 1), (1, 2), (3, 2)] := by kernel_rfl
@[go_sem] theorem ty_str_86 : strTy Tryz.prog 86 = false := by kernel_rfl
@[go_sem] theorem ty_bool_86 : boolTy Tryz.prog 86 = false := by kernel_rfl
@[go_sem] theorem ty_int_86 : intTy Tryz.prog 86 = none := by kernel_rfl
@[go_sem] theorem ty_slice_86 : sliceTy Tryz.prog 86 = none := by kernel_rfl
@[go_sem] theorem ty_agg_86 : aggTy Tryz.prog 86 = some true := by kernel_rfl
@[go_sem] theorem ty_size_86 : sizeTy Tryz.prog 86 = some 5 := by kernel_rfl
@[go_sem] theorem ty_zero_86 : zeroTy Tryz.prog 86 = some [.lit (.int .i64 0), .lit (.int .i64 0), .lit (.int .i64 0), .lit (.int .i64 0), .lit (.int .i64 0)] := by kernel_rfl
@[go_sem] theorem ty_array_86 : arrayTy Tryz.prog 86 = none := by kernel_rfl
@[go_sem] theorem ty_field_86_0 : fieldTy Tryz.prog 86 0 = some (0, 1, 3) := by kernel_rfl
@[go_sem] theorem ty_field_86_1 : fieldTy Tryz.prog 86 1 = some (1, 2, 23) := by kernel_rfl
@[go_sem] theorem ty_field_86_2 : fieldTy Tryz.prog 86 2 = some (3, 2, 23) := by kernel_rfl
@[go_sem] theorem ty_places_86 : placesTy Tryz.prog 86 = some [(0, 1), (1, 2), (3, 2)] := by kernel_rfl
@[go_sem] theorem ty_str_90 : strTy Tryz.prog 90 = false := by kernel_rfl
@[go_sem] theorem ty_bool_90 : boolTy Tryz.prog 90 = false := by kernel_rfl
@[go_sem] theorem ty_int_90 : intTy Tryz.prog 90 = none := by kernel_rfl
@[go_sem] theorem ty_slice_90 : sliceTy Tryz.prog 90 = some (95, 4, 56) := by kernel_rfl
@[go_sem] theorem ty_agg_90 : aggTy Tryz.prog 90 = some false := by kernel_rfl
@[go_sem] theorem ty_size_90 : sizeTy Tryz.prog 90 = some 1 := by kernel_rfl
@[go_sem] theorem ty_zero_90 : zeroTy Tryz.prog 90 = some [.nils] := by kernel_rfl
@[go_sem] theorem ty_array_90 : arrayTy Tryz.prog 90 = none := by kernel_rfl
@[go_sem] theorem ty_str_91 : strTy Tryz.prog 91 = false := by kernel_rfl
@[go_sem] theorem ty_bool_91 : boolTy Tryz.prog 91 = false := by kernel_rfl
@[go_sem] theorem ty_int_91 : intTy Tryz.prog 91 = none := by kernel_rfl
@[go_sem] theorem ty_slice_91 : sliceTy Tryz.prog 91 = none := by kernel_rfl
@[go_sem] theorem ty_agg_91 : aggTy Tryz.prog 91 = some true := by kernel_rfl
@[go_sem] theorem ty_size_91 : sizeTy Tryz.prog 91 = some 4 := by kernel_rfl
@[go_sem] theorem ty_zero_91 : zeroTy Tryz.prog 91 = some [.lit (.string ⟨⟨[]⟩⟩), .lit (.int .i64 0), .lit (.bool false), .nils] := by kernel_rfl
@[go_sem] theorem ty_array_91 : arrayTy Tryz.prog 91 = none := by kernel_rfl
@[go_sem] theorem ty_field_91_0 : fieldTy Tryz.prog 91 0 = some (0, 1, 9) := by kernel_rfl
@[go_sem] theorem ty_field_91_1 : fieldTy Tryz.prog 91 1 = some (1, 1, 3) := by kernel_rfl
@[go_sem] theorem ty_field_91_2 : fieldTy Tryz.prog 91 2 = some (2, 1, 4) := by kernel_rfl
@[go_sem] theorem ty_field_91_3 : fieldTy Tryz.prog 91 3 = some (3, 1, 90) := by kernel_rfl
@[go_sem] theorem ty_places_91 : placesTy Tryz.prog 91 = some [(0, 1), (1, 1), (2, 1), (3, 1)] := by kernel_rfl
@[go_sem] theorem ty_str_92 : strTy Tryz.prog 92 = false := by kernel_rfl
@[go_sem] theorem ty_bool_92 : boolTy Tryz.prog 92 = false := by kernel_rfl
@[go_sem] theorem ty_int_92 : intTy Tryz.prog 92 = none := by kernel_rfl
@[go_sem] theorem ty_slice_92 : sliceTy Tryz.prog 92 = none := by kernel_rfl
@[go_sem] theorem ty_agg_92 : aggTy Tryz.prog 92 = some true := by kernel_rfl
@[go_sem] theorem ty_size_92 : sizeTy Tryz.prog 92 = some 4 := by kernel_rfl
@[go_sem] theorem ty_zero_92 : zeroTy Tryz.prog 92 = some [.lit (.string ⟨⟨[]⟩⟩), .lit (.int .i64 0), .lit (.bool false), .nils] := by kernel_rfl
@[go_sem] theorem ty_array_92 : arrayTy Tryz.prog 92 = none := by kernel_rfl
@[go_sem] theorem ty_field_92_0 : fieldTy Tryz.prog 92 0 = some (0, 1, 9) := by kernel_rfl
@[go_sem] theorem ty_field_92_1 : fieldTy Tryz.prog 92 1 = some (1, 1, 3) := by kernel_rfl
@[go_sem] theorem ty_field_92_2 : fieldTy Tryz.prog 92 2 = some (2, 1, 4) := by kernel_rfl
@[go_sem] theorem ty_field_92_3 : fieldTy Tryz.prog 92 3 = some (3, 1, 90) := by kernel_rfl
@[go_sem] theorem ty_places_92 : placesTy Tryz.prog 92 = some [(0, 1), (1, 1), (2, 1), (3, 1)] := by kernel_rfl
@[go_sem] theorem ty_str_93 : strTy Tryz.prog 93 = false := by kernel_rfl
@[go_sem] theorem ty_bool_93 : boolTy Tryz.prog 93 = false := by kernel_rfl
@[go_sem] theorem ty_int_93 : intTy Tryz.prog 93 = none := by kernel_rfl
@[go_sem] theorem ty_slice_93 : sliceTy Tryz.prog 93 = some (9, 1, 16) := by kernel_rfl
@[go_sem] theorem ty_agg_93 : aggTy Tryz.prog 93 = some false := by kernel_rfl
@[go_sem] theorem ty_size_93 : sizeTy Tryz.prog 93 = some 1 := by kernel_rfl
@[go_sem] theorem ty_zero_93 : zeroTy Tryz.prog 93 = some [.nils] := by kernel_rfl
@[go_sem] theorem ty_array_93 : arrayTy Tryz.prog 93 = none := by kernel_rfl
@[go_sem] theorem ty_str_94 : strTy Tryz.prog 94 = false := by kernel_rfl
@[go_sem] theorem ty_bool_94 : boolTy Tryz.prog 94 = false := by kernel_rfl
@[go_sem] theorem ty_int_94 : intTy Tryz.prog 94 = none := by kernel_rfl
@[go_sem] theorem ty_slice_94 : sliceTy Tryz.prog 94 = none := by kernel_rfl
@[go_sem] theorem ty_agg_94 : aggTy Tryz.prog 94 = some true := by kernel_rfl
@[go_sem] theorem ty_size_94 : sizeTy Tryz.prog 94 = some 4 := by kernel_rfl
@[go_sem] theorem ty_zero_94 : zeroTy Tryz.prog 94 = some [.lit (.string ⟨⟨[]⟩⟩), .lit (.int .i64 0), .lit (.int .i64 0), .nils] := by kernel_rfl
@[go_sem] theorem ty_array_94 : arrayTy Tryz.prog 94 = none := by kernel_rfl
@[go_sem] theorem ty_field_94_0 : fieldTy Tryz.prog 94 0 = some (0, 1, 9) := by kernel_rfl
@[go_sem] theorem ty_field_94_1 : fieldTy Tryz.prog 94 1 = some (1, 1, 3) := by kernel_rfl
@[go_sem] theorem ty_field_94_2 : fieldTy Tryz.prog 94 2 = some (2, 1, 3) := by kernel_rfl
@[go_sem] theorem ty_field_94_3 : fieldTy Tryz.prog 94 3 = some (3, 1, 93) := by kernel_rfl
@[go_sem] theorem ty_places_94 : placesTy Tryz.prog 94 = some [(0, 1), (1, 1), (2, 1), (3, 1)] := by kernel_rfl
@[go_sem] theorem ty_str_95 : strTy Tryz.prog 95 = false := by kernel_rfl
@[go_sem] theorem ty_bool_95 : boolTy Tryz.prog 95 = false := by kernel_rfl
@[go_sem] theorem ty_int_95 : intTy Tryz.prog 95 = none := by kernel_rfl
@[go_sem] theorem ty_slice_95 : sliceTy Tryz.prog 95 = none := by kernel_rfl
@[go_sem] theorem ty_agg_95 : aggTy Tryz.prog 95 = some true := by kernel_rfl
@[go_sem] theorem ty_size_95 : sizeTy Tryz.prog 95 = some 4 := by kernel_rfl
@[go_sem] theorem ty_zero_95 : zeroTy Tryz.prog 95 = some [.lit (.string ⟨⟨[]⟩⟩), .lit (.int .i64 0), .lit (.int .i64 0), .nils] := by kernel_rfl
@[go_sem] theorem ty_array_95 : arrayTy Tryz.prog 95 = none := by kernel_rfl
@[go_sem] theorem ty_field_95_0 : fieldTy Tryz.prog 95 0 = some (0, 1, 9) := by kernel_rfl
@[go_sem] theorem ty_field_95_1 : fieldTy Tryz.prog 95 1 = some (1, 1, 3) := by kernel_rfl
@[go_sem] theorem ty_field_95_2 : fieldTy Tryz.prog 95 2 = some (2, 1, 3) := by kernel_rfl
@[go_sem] theorem ty_field_95_3 : fieldTy Tryz.prog 95 3 = some (3, 1, 93) := by kernel_rfl
@[go_sem] theorem ty_places_95 : placesTy Tryz.prog 95 = some [(0, 1), (1, 1), (2, 1), (3, 1)] := by kernel_rfl
@[go_sem] theorem ty_str_96 : strTy Tryz.prog 96 = false := by kernel_rfl
@[go_sem] theorem ty_bool_96 : boolTy Tryz.prog 96 = false := by kernel_rfl
@[go_sem] theorem ty_int_96 : intTy Tryz.prog 96 = none := by kernel_rfl
@[go_sem] theorem ty_slice_96 : sliceTy Tryz.prog 96 = none := by kernel_rfl
@[go_sem] theorem ty_agg_96 : aggTy Tryz.prog 96 = some true := by kernel_rfl
@[go_sem] theorem ty_size_96 : sizeTy Tryz.prog 96 = some 7 := by kernel_rfl
@[go_sem] theorem ty_zero_96 : zeroTy Tryz.prog 96 = some [.lit (.string ⟨⟨[]⟩⟩), .lit (.int .i64 0), .lit (.int .i64 0), .lit (.int .i64 0), .lit (.int .i64 0), .lit (.int .i64 0), .lit (.int .i64 0)] := by kernel_rfl
@[go_sem] theorem ty_array_96 : arrayTy Tryz.prog 96 = none := by kernel_rfl
@[go_sem] theorem ty_field_96_0 : fieldTy Tryz.prog 96 0 = some (0, 1, 9) := by kernel_rfl
@[go_sem] theorem ty_field_96_1 : fieldTy Tryz.prog 96 1 = some (1, 1, 3) := by kernel_rfl
@[go_sem] theorem ty_field_96_2 : fieldTy Tryz.prog 96 2 = some (2, 1, 3) := by kernel_rfl
@[go_sem] theorem ty_field_96_3 : fieldTy Tryz.prog 96 3 = some (3, 1, 3) := by kernel_rfl
@[go_sem] theorem ty_field_96_4 : fieldTy Tryz.prog 96 4 = some (4, 1, 3) := by kernel_rfl
@[go_sem] theorem ty_field_96_5 : fieldTy Tryz.prog 96 5 = some (5, 1, 3) := by kernel_rfl
@[go_sem] theorem ty_field_96_6 : fieldTy Tryz.prog 96 6 = some (6, 1, 3) := by kernel_rfl
@[go_sem] theorem ty_places_96 : placesTy Tryz.prog 96 = some [(0, 1), (1, 1), (2, 1), (3, 1), (4, 1), (5, 1), (6, 1)] := by kernel_rfl
@[go_sem] theorem ty_str_97 : strTy Tryz.prog 97 = false := by kernel_rfl
@[go_sem] theorem ty_bool_97 : boolTy Tryz.prog 97 = false := by kernel_rfl
@[go_sem] theorem ty_int_97 : intTy Tryz.prog 97 = none := by kernel_rfl
@[go_sem] theorem ty_slice_97 : sliceTy Tryz.prog 97 = none := by kernel_rfl
@[go_sem] theorem ty_agg_97 : aggTy Tryz.prog 97 = some true := by kernel_rfl
@[go_sem] theorem ty_size_97 : sizeTy Tryz.prog 97 = some 7 := by kernel_rfl
@[go_sem] theorem ty_zero_97 : zeroTy Tryz.prog 97 = some [.lit (.string ⟨⟨[]⟩⟩), .lit (.int .i64 0), .lit (.int .i64 0), .lit (.int .i64 0), .lit (.int .i64 0), .lit (.int .i64 0), .lit (.int .i64 0)] := by kernel_rfl
@[go_sem] theorem ty_array_97 : arrayTy Tryz.prog 97 = none := by kernel_rfl
@[go_sem] theorem ty_field_97_0 : fieldTy Tryz.prog 97 0 = some (0, 1, 9) := by kernel_rfl
@[go_sem] theorem ty_field_97_1 : fieldTy Tryz.prog 97 1 = some (1, 1, 3) := by kernel_rfl
@[go_sem] theorem ty_field_97_2 : fieldTy Tryz.prog 97 2 = some (2, 1, 3) := by kernel_rfl
@[go_sem] theorem ty_field_97_3 : fieldTy Tryz.prog 97 3 = some (3, 1, 3) := by kernel_rfl
@[go_sem] theorem ty_field_97_4 : fieldTy Tryz.prog 97 4 = some (4, 1, 3) := by kernel_rfl
@[go_sem] theorem ty_field_97_5 : fieldTy Tryz.prog 97 5 = some (5, 1, 3) := by kernel_rfl
@[go_sem] theorem ty_field_97_6 : fieldTy Tryz.prog 97 6 = some (6, 1, 3) := by kernel_rfl
@[go_sem] theorem ty_places_97 : placesTy Tryz.prog 97 = some [(0, 1), (1, 1), (2, 1), (3, 1), (4, 1), (5, 1), (6, 1)] := by kernel_rfl
@[go_sem] theorem ty_plain_97 : plainTy Tryz.prog 97 = some [9, 3, 3, 3, 3, 3, 3] := by kernel_rfl
@[go_sem] theorem ty_slice_102 : sliceTy Tryz.prog 102 = none := by kernel_rfl
@[go_sem] theorem ty_slice_106 : sliceTy Tryz.prog 106 = none := by kernel_rfl
@[go_sem] theorem ty_str_108 : strTy Tryz.prog 108 = false := by kernel_rfl
@[go_sem] theorem ty_bool_108 : boolTy Tryz.prog 108 = false := by kernel_rfl
@[go_sem] theorem ty_int_108 : intTy Tryz.prog 108 = none := by kernel_rfl
@[go_sem] theorem ty_slice_108 : sliceTy Tryz.prog 108 = none := by kernel_rfl
@[go_sem] theorem ty_agg_108 : aggTy Tryz.prog 108 = some true := by kernel_rfl
@[go_sem] theorem ty_size_108 : sizeTy Tryz.prog 108 = some 3 := by kernel_rfl
@[go_sem] theorem ty_zero_108 : zeroTy Tryz.prog 108 = some [.lit (.int .i64 0), .lit (.int .i64 0), .lit (.int .i64 0)] := by kernel_rfl
@[go_sem] theorem ty_array_108 : arrayTy Tryz.prog 108 = none := by kernel_rfl
@[go_sem] theorem ty_field_108_0 : fieldTy Tryz.prog 108 0 = some (0, 1, 3) := by kernel_rfl
@[go_sem] theorem ty_field_108_1 : fieldTy Tryz.prog 108 1 = some (1, 1, 3) := by kernel_rfl
@[go_sem] theorem ty_field_108_2 : fieldTy Tryz.prog 108 2 = some (2, 1, 3) := by kernel_rfl
@[go_sem] theorem ty_places_108 : placesTy Tryz.prog 108 = some [(0, 1), (1, 1), (2, 1)] := by kernel_rfl
@[go_sem] theorem ty_str_109 : strTy Tryz.prog 109 = false := by kernel_rfl
@[go_sem] theorem ty_bool_109 : boolTy Tryz.prog 109 = false := by kernel_rfl
@[go_sem] theorem ty_int_109 : intTy Tryz.prog 109 = none := by kernel_rfl
@[go_sem] theorem ty_slice_109 : sliceTy Tryz.prog 109 = none := by kernel_rfl
@[go_sem] theorem ty_agg_109 : aggTy Tryz.prog 109 = some true := by kernel_rfl
@[go_sem] theorem ty_size_109 : sizeTy Tryz.prog 109 = some 3 := by kernel_rfl
@[go_sem] theorem ty_zero_109 : zeroTy Tryz.prog 109 = some [.lit (.int .i64 0), .lit (.int .i64 0), .lit (.int .i64 0)] := by kernel_rfl
@[go_sem] theorem ty_array_109 : arrayTy Tryz.prog 109 = none := by kernel_rfl
@[go_sem] theorem ty_field_109_0 : fieldTy Tryz.prog 109 0 = some (0, 1, 3) := by kernel_rfl
@[go_sem] theorem ty_field_109_1 : fieldTy Tryz.prog 109 1 = some (1, 1, 3) := by kernel_rfl
@[go_sem] theorem ty_field_109_2 : fieldTy Tryz.prog 109 2 = some (2, 1, 3) := by kernel_rfl
@[go_sem] theorem ty_places_109 : placesTy Tryz.prog 109 = some [(0, 1), (1, 1), (2, 1)] := by kernel_rfl
@[go_sem] theorem ty_plain_109 : plainTy Tryz.prog 109 = some [3, 3, 3] := by kernel_rfl
@[go_sem] theorem ty_slice_110 : sliceTy Tryz.prog 110 = none := by kernel_rfl
@[go_sem] theorem ty_str_111 : strTy Tryz.prog 111 = false := by kernel_rfl
@[go_sem] theorem ty_bool_111 : boolTy Tryz.prog 111 = false := by kernel_rfl
@[go_sem] theorem ty_int_111 : intTy Tryz.prog 111 = none := by kernel_rfl
@[go_sem] theorem ty_slice_111 : sliceTy Tryz.prog 111 = some (4, 1, 1) := by kernel_rfl
@[go_sem] theorem ty_agg_111 : aggTy Tryz.prog 111 = some false := by kernel_rfl
@[go_sem] theorem ty_size_111 : sizeTy Tryz.prog 111 = some 1 := by kernel_rfl
@[go_sem] theorem ty_zero_111 : zeroTy Tryz.prog 111 = some [.nils] := by kernel_rfl
@[go_sem] theorem ty_array_111 : arrayTy Tryz.prog 111 = none := by kernel_rfl
@[go_sem] theorem ty_str_112 : strTy Tryz.prog 112 = false := by kernel_rfl
@[go_sem] theorem ty_bool_112 : boolTy Tryz.prog 112 = false := by kernel_rfl
@[go_sem] theorem ty_int_112 : intTy Tryz.prog 112 = none := by kernel_rfl
@[go_sem] theorem ty_slice_112 : sliceTy Tryz.prog 112 = none := by kernel_rfl
@[go_sem] theorem ty_agg_112 : aggTy Tryz.prog 112 = some true := by kernel_rfl
@[go_sem] theorem ty_size_112 : sizeTy Tryz.prog 112 = some 4 := by kernel_rfl
@[go_sem] theorem ty_zero_112 : zeroTy Tryz.prog 112 = some [.lit (.int .i64 0), .lit (.int .i64 0), .lit (.int .i64 0), .lit (.int .i64 0)] := by kernel_rfl
@[go_sem] theorem ty_array_112 : arrayTy Tryz.prog 112 = none := by kernel_rfl
@[go_sem] theorem ty_field_112_0 : fieldTy Tryz.prog 112 0 = some (0, 1, 3) := by kernel_rfl
@[go_sem] theorem ty_field_112_1 : fieldTy Tryz.prog 112 1 = some (1, 1, 3) := by kernel_rfl
@[go_sem] theorem ty_field_112_2 : fieldTy Tryz.prog 112 2 = some (2, 2, 23) := by kernel_rfl
@[go_sem] theorem ty_places_112 : placesTy Tryz.prog 112 = some [(0, 1), (1, 1), (2, 2)] := by kernel_rfl
@[go_sem] theorem ty_str_113 : strTy Tryz.prog 113 = false := by kernel_rfl
@[go_sem] theorem ty_bool_113 : boolTy Tryz.prog 113 = false := by kernel_rfl
@[go_sem] theorem ty_int_113 : intTy Tryz.prog 113 = none := by kernel_rfl
@[go_sem] theorem ty_slice_113 : sliceTy Tryz.prog 113 = none := by kernel_rfl
@[go_sem] theorem ty_agg_113 : aggTy Tryz.prog 113 = some true := by kernel_rfl
@[go_sem] theorem ty_size_113 : sizeTy Tryz.prog 113 = some 4 := by kernel_rfl
@[go_sem] theorem ty_zero_113 : zeroTy Tryz.prog 113 = some [.lit (.int .i64 0), .lit (.int .i64 0), .lit (.int .i64 0), .lit (.int .i64 0)] := by kernel_rfl
@[go_sem] theorem ty_array_113 : arrayTy Tryz.prog 113 = none := by kernel_rfl
@[go_sem] theorem ty_field_113_0 : fieldTy Tryz.prog 113 0 = some (0, 1, 3) := by kernel_rfl
@[go_sem] theorem ty_field_113_1 : fieldTy Tryz.prog 113 1 = some (1, 1, 3) := by kernel_rfl
@[go_sem] theorem ty_field_113_2 : fieldTy Tryz.prog 113 2 = some (2, 2, 23) := by kernel_rfl
@[go_sem] theorem ty_places_113 : placesTy Tryz.prog 113 = some [(0, 1), (1, 1), (2, 2)] := by kernel_rfl
@[go_sem] theorem ty_slice_114 : sliceTy Tryz.prog 114 = none := by kernel_rfl
@[go_sem] theorem ty_str_133 : strTy Tryz.prog 133 = false := by kernel_rfl
@[go_sem] theorem ty_bool_133 : boolTy Tryz.prog 133 = false := by kernel_rfl
@[go_sem] theorem ty_int_133 : intTy Tryz.prog 133 = none := by kernel_rfl
@[go_sem] theorem ty_slice_133 : sliceTy Tryz.prog 133 = some (64, 2, 48) := by kernel_rfl
@[go_sem] theorem ty_agg_133 : aggTy Tryz.prog 133 = some false := by kernel_rfl
@[go_sem] theorem ty_size_133 : sizeTy Tryz.prog 133 = some 1 := by kernel_rfl
@[go_sem] theorem ty_zero_133 : zeroTy Tryz.prog 133 = some [.nils] := by kernel_rfl
@[go_sem] theorem ty_array_133 : arrayTy Tryz.prog 133 = none := by kernel_rfl
@[go_sem] theorem ty_slice_134 : sliceTy Tryz.prog 134 = none := by kernel_rfl
@[go_sem] theorem ty_slice_138 : sliceTy Tryz.prog 138 = none := by kernel_rfl
@[go_sem] theorem ty_slice_141 : sliceTy Tryz.prog 141 = none := by kernel_rfl
@[go_sem] theorem ty_str_146 : strTy Tryz.prog 146 = false := by kernel_rfl
@[go_sem] theorem ty_bool_146 : boolTy Tryz.prog 146 = false := by kernel_rfl
@[go_sem] theorem ty_int_146 : intTy Tryz.prog 146 = none := by kernel_rfl
@[go_sem] theorem ty_slice_146 : sliceTy Tryz.prog 146 = some (155, 5, 40) := by kernel_rfl
@[go_sem] theorem ty_agg_146 : aggTy Tryz.prog 146 = some false := by kernel_rfl
@[go_sem] theorem ty_size_146 : sizeTy Tryz.prog 146 = some 1 := by kernel_rfl
@[go_sem] theorem ty_zero_146 : zeroTy Tryz.prog 146 = some [.nils] := by kernel_rfl
@[go_sem] theorem ty_array_146 : arrayTy Tryz.prog 146 = none := by kernel_rfl
@[go_sem] theorem ty_str_149 : strTy Tryz.prog 149 = false := by kernel_rfl
@[go_sem] theorem ty_bool_149 : boolTy Tryz.prog 149 = false := by kernel_rfl
@[go_sem] theorem ty_int_149 : intTy Tryz.prog 149 = none := by kernel_rfl
@[go_sem] theorem ty_slice_149 : sliceTy Tryz.prog 149 = some (26, 1, 24) := by kernel_rfl
@[go_sem] theorem ty_agg_149 : aggTy Tryz.prog 149 = some false := by kernel_rfl
@[go_sem] theorem ty_size_149 : sizeTy Tryz.prog 149 = some 1 := by kernel_rfl
@[go_sem] theorem ty_zero_149 : zeroTy Tryz.prog 149 = some [.nils] := by kernel_rfl
@[go_sem] theorem ty_array_149 : arrayTy Tryz.prog 149 = none := by kernel_rfl
@[go_sem] theorem ty_str_151 : strTy Tryz.prog 151 = false := by kernel_rfl
@[go_sem] theorem ty_bool_151 : boolTy Tryz.prog 151 = false := by kernel_rfl
@[go_sem] theorem ty_int_151 : intTy Tryz.prog 151 = none := by kernel_rfl
@[go_sem] theorem ty_slice_151 : sliceTy Tryz.prog 151 = some (149, 1, 24) := by kernel_rfl
@[go_sem] theorem ty_agg_151 : aggTy Tryz.prog 151 = some false := by kernel_rfl
@[go_sem] theorem ty_size_151 : sizeTy Tryz.prog 151 = some 1 := by kernel_rfl
@[go_sem] theorem ty_zero_151 : zeroTy Tryz.prog 151 = some [.nils] := by kernel_rfl
@[go_sem] theorem ty_array_151 : arrayTy Tryz.prog 151 = none := by kernel_rfl
@[go_sem] theorem ty_str_154 : strTy Tryz.prog 154 = false := by kernel_rfl
@[go_sem] theorem ty_bool_154 : boolTy Tryz.prog 154 = false := by kernel_rfl
@[go_sem] theorem ty_int_154 : intTy Tryz.prog 154 = none := by kernel_rfl
@[go_sem] theorem ty_slice_154 : sliceTy Tryz.prog 154 = none := by kernel_rfl
@[go_sem] theorem ty_agg_154 : aggTy Tryz.prog 154 = some true := by kernel_rfl
@[go_sem] theorem ty_size_154 : sizeTy Tryz.prog 154 = some 5 := by kernel_rfl
@[go_sem] theorem ty_zero_154 : zeroTy Tryz.prog 154 = some [.lit (.int .i64 0), .lit (.int .i64 0), .lit (.int .i64 0), .lit (.int .i64 0), .lit (.int .i64 0)] := by kernel_rfl
@[go_sem] theorem ty_array_154 : arrayTy Tryz.prog 154 = none := by kernel_rfl
@[go_sem] theorem ty_field_154_0 : fieldTy Tryz.prog 154 0 = some (0, 2, 52) := by kernel_rfl
@[go_sem] theorem ty_field_154_1 : fieldTy Tryz.prog 154 1 = some (2, 1, 3) := by kernel_rfl
@[go_sem] theorem ty_field_154_2 : fieldTy Tryz.prog 154 2 = some (3, 1, 3) := by kernel_rfl
@[go_sem] theorem ty_field_154_3 : fieldTy Tryz.prog 154 3 = some (4, 1, 3) := by kernel_rfl
@[go_sem] theorem ty_places_154 : placesTy Tryz.prog 154 = some [(0, 2), (2, 1), (3, 1), (4, 1)] := by kernel_rfl
@[go_sem] theorem ty_str_155 : strTy Tryz.prog 155 = false := by kernel_rfl
@[go_sem] theorem ty_bool_155 : boolTy Tryz.prog 155 = false := by kernel_rfl
@[go_sem] theorem ty_int_155 : intTy Tryz.prog 155 = none := by kernel_rfl
@[go_sem] theorem ty_slice_155 : sliceTy Tryz.prog 155 = none := by kernel_rfl
@[go_sem] theorem ty_agg_155 : aggTy Tryz.prog 155 = some true := by kernel_rfl
@[go_sem] theorem ty_size_155 : sizeTy Tryz.prog 155 = some 5 := by kernel_rfl
@[go_sem] theorem ty_zero_155 : zeroTy Tryz.prog 155 = some [.lit (.int .i64 0), .lit (.int .i64 0), .lit (.int .i64 0), .lit (.int .i64 0), .lit (.int .i64 0)] := by kernel_rfl
@[go_sem] theorem ty_array_155 : arrayTy Tryz.prog 155 = none := by kernel_rfl
@[go_sem] theorem ty_field_155_0 : fieldTy Tryz.prog 155 0 = some (0, 2, 52) := by kernel_rfl
@[go_sem] theorem ty_field_155_1 : fieldTy Tryz.prog 155 1 = some (2, 1, 3) := by kernel_rfl
@[go_sem] theorem ty_field_155_2 : fieldTy Tryz.prog 155 2 = some (3, 1, 3) := by kernel_rfl
@[go_sem] theorem ty_field_155_3 : fieldTy Tryz.prog 155 3 = some (4, 1, 3) := by kernel_rfl
@[go_sem] theorem ty_places_155 : placesTy Tryz.prog 155 = some [(0, 2), (2, 1), (3, 1), (4, 1)] := by kernel_rfl
@[go_sem] theorem ty_slice_157 : sliceTy Tryz.prog 157 = none := by kernel_rfl
@[go_sem] theorem ty_slice_192 : sliceTy Tryz.prog 192 = none := by kernel_rfl
@[go_sem] theorem ty_slice_195 : sliceTy Tryz.prog 195 = none := by kernel_rfl
@[go_sem] theorem ty_str_199 : strTy Tryz.prog 199 = false := by kernel_rfl
@[go_sem] theorem ty_bool_199 : boolTy Tryz.prog 199 = false := by kernel_rfl
@[go_sem] theorem ty_int_199 : intTy Tryz.prog 199 = none := by kernel_rfl
@[go_sem] theorem ty_slice_199 : sliceTy Tryz.prog 199 = some (38, 2, 48) := by kernel_rfl
@[go_sem] theorem ty_agg_199 : aggTy Tryz.prog 199 = some false := by kernel_rfl
@[go_sem] theorem ty_size_199 : sizeTy Tryz.prog 199 = some 1 := by kernel_rfl
@[go_sem] theorem ty_zero_199 : zeroTy Tryz.prog 199 = some [.nils] := by kernel_rfl
@[go_sem] theorem ty_array_199 : arrayTy Tryz.prog 199 = none := by kernel_rfl
@[go_sem] theorem ty_str_200 : strTy Tryz.prog 200 = false := by kernel_rfl
@[go_sem] theorem ty_bool_200 : boolTy Tryz.prog 200 = false := by kernel_rfl
@[go_sem] theorem ty_int_200 : intTy Tryz.prog 200 = none := by kernel_rfl
@[go_sem] theorem ty_slice_200 : sliceTy Tryz.prog 200 = some (111, 1, 24) := by kernel_rfl
@[go_sem] theorem ty_agg_200 : aggTy Tryz.prog 200 = some false := by kernel_rfl
@[go_sem] theorem ty_size_200 : sizeTy Tryz.prog 200 = some 1 := by kernel_rfl
@[go_sem] theorem ty_zero_200 : zeroTy Tryz.prog 200 = some [.nils] := by kernel_rfl
@[go_sem] theorem ty_array_200 : arrayTy Tryz.prog 200 = none := by kernel_rfl
@[go_sem] theorem ty_str_206 : strTy Tryz.prog 206 = false := by kernel_rfl
@[go_sem] theorem ty_bool_206 : boolTy Tryz.prog 206 = false := by kernel_rfl
@[go_sem] theorem ty_int_206 : intTy Tryz.prog 206 = some .u64 := by kernel_rfl
@[go_sem] theorem ty_slice_206 : sliceTy Tryz.prog 206 = none := by kernel_rfl
@[go_sem] theorem ty_agg_206 : aggTy Tryz.prog 206 = some false := by kernel_rfl
@[go_sem] theorem ty_size_206 : sizeTy Tryz.prog 206 = some 1 := by kernel_rfl
@[go_sem] theorem ty_zero_206 : zeroTy Tryz.prog 206 = some [.lit (.int .u64 0)] := by kernel_rfl
@[go_sem] theorem ty_array_206 : arrayTy Tryz.prog 206 = none := by kernel_rfl
@[go_sem] theorem ty_slice_207 : sliceTy Tryz.prog 207 = none := by kernel_rfl
@[go_sem] theorem ty_slice_209 : sliceTy Tryz.prog 209 = none := by kernel_rfl
@[go_sem] theorem ty_slice_210 : sliceTy Tryz.prog 210 = none := by kernel_rfl
@[go_sem] theorem ty_str_220 : strTy Tryz.prog 220 = false := by kernel_rfl
@[go_sem] theorem ty_bool_220 : boolTy Tryz.prog 220 = false := by kernel_rfl
@[go_sem] theorem ty_int_220 : intTy Tryz.prog 220 = some .u64 := by kernel_rfl
@[go_sem] theorem ty_slice_220 : sliceTy Tryz.prog 220 = none := by kernel_rfl
@[go_sem] theorem ty_agg_220 : aggTy Tryz.prog 220 = some false := by kernel_rfl
@[go_sem] theorem ty_size_220 : sizeTy Tryz.prog 220 = some 1 := by kernel_rfl
@[go_sem] theorem ty_zero_220 : zeroTy Tryz.prog 220 = some [.lit (.int .u64 0)] := by kernel_rfl
@[go_sem] theorem ty_array_220 : arrayTy Tryz.prog 220 = none := by kernel_rfl
@[go_sem] theorem ty_slice_221 : sliceTy Tryz.prog 221 = none := by kernel_rfl
@[go_sem] theorem ty_slice_223 : sliceTy Tryz.prog 223 = none := by kernel_rfl
@[go_sem] theorem ty_str_225 : strTy Tryz.prog 225 = false := by kernel_rfl
@[go_sem] theorem ty_bool_225 : boolTy Tryz.prog 225 = false := by kernel_rfl
@[go_sem] theorem ty_int_225 : intTy Tryz.prog 225 = none := by kernel_rfl
@[go_sem] theorem ty_slice_225 : sliceTy Tryz.prog 225 = none := by kernel_rfl
@[go_sem] theorem ty_agg_225 : aggTy Tryz.prog 225 = some true := by kernel_rfl
@[go_sem] theorem ty_size_225 : sizeTy Tryz.prog 225 = some 3 := by kernel_rfl
@[go_sem] theorem ty_zero_225 : zeroTy Tryz.prog 225 = some [.lit (.int .i64 0), .lit (.string ⟨⟨[]⟩⟩), .lit (.int .i64 0)] := by kernel_rfl
@[go_sem] theorem ty_array_225 : arrayTy Tryz.prog 225 = none := by kernel_rfl
@[go_sem] theorem ty_field_225_0 : fieldTy Tryz.prog 225 0 = some (0, 1, 3) := by kernel_rfl
@[go_sem] theorem ty_field_225_1 : fieldTy Tryz.prog 225 1 = some (1, 1, 9) := by kernel_rfl
@[go_sem] theorem ty_field_225_2 : fieldTy Tryz.prog 225 2 = some (2, 1, 3) := by kernel_rfl
@[go_sem] theorem ty_places_225 : placesTy Tryz.prog 225 = some [(0, 1), (1, 1), (2, 1)] := by kernel_rfl
@[go_sem] theorem ty_str_226 : strTy Tryz.prog 226 = false := by kernel_rfl
@[go_sem] theorem ty_bool_226 : boolTy Tryz.prog 226 = false := by kernel_rfl
@[go_sem] theorem ty_int_226 : intTy Tryz.prog 226 = none := by kernel_rfl
@[go_sem] theorem ty_slice_226 : sliceTy Tryz.prog 226 = none := by kernel_rfl
@[go_sem] theorem ty_agg_226 : aggTy Tryz.prog 226 = some true := by kernel_rfl
@[go_sem] theorem ty_size_226 : sizeTy Tryz.prog 226 = some 3 := by kernel_rfl
@[go_sem] theorem ty_zero_226 : zeroTy Tryz.prog 226 = some [.lit (.int .i64 0), .lit (.string ⟨⟨[]⟩⟩), .lit (.int .i64 0)] := by kernel_rfl
@[go_sem] theorem ty_array_226 : arrayTy Tryz.prog 226 = none := by kernel_rfl
@[go_sem] theorem ty_field_226_0 : fieldTy Tryz.prog 226 0 = some (0, 1, 3) := by kernel_rfl
@[go_sem] theorem ty_field_226_1 : fieldTy Tryz.prog 226 1 = some (1, 1, 9) := by kernel_rfl
@[go_sem] theorem ty_field_226_2 : fieldTy Tryz.prog 226 2 = some (2, 1, 3) := by kernel_rfl
@[go_sem] theorem ty_places_226 : placesTy Tryz.prog 226 = some [(0, 1), (1, 1), (2, 1)] := by kernel_rfl
@[go_sem] theorem ty_plain_226 : plainTy Tryz.prog 226 = some [3, 9, 3] := by kernel_rfl
@[go_sem] theorem ty_slice_229 : sliceTy Tryz.prog 229 = none := by kernel_rfl
@[go_sem] theorem ty_slice_233 : sliceTy Tryz.prog 233 = none := by kernel_rfl
@[go_sem] theorem ty_str_236 : strTy Tryz.prog 236 = false := by kernel_rfl
@[go_sem] theorem ty_bool_236 : boolTy Tryz.prog 236 = false := by kernel_rfl
@[go_sem] theorem ty_int_236 : intTy Tryz.prog 236 = none := by kernel_rfl
@[go_sem] theorem ty_slice_236 : sliceTy Tryz.prog 236 = none := by kernel_rfl
@[go_sem] theorem ty_agg_236 : aggTy Tryz.prog 236 = some false := by kernel_rfl
@[go_sem] theorem ty_size_236 : sizeTy Tryz.prog 236 = some 1 := by kernel_rfl
@[go_sem] theorem ty_zero_236 : zeroTy Tryz.prog 236 = some [.lit (.pointer none)] := by kernel_rfl
@[go_sem] theorem ty_array_236 : arrayTy Tryz.prog 236 = none := by kernel_rfl
@[go_sem] theorem ty_str_237 : strTy Tryz.prog 237 = false := by kernel_rfl
@[go_sem] theorem ty_bool_237 : boolTy Tryz.prog 237 = false := by kernel_rfl
@[go_sem] theorem ty_int_237 : intTy Tryz.prog 237 = none := by kernel_rfl
@[go_sem] theorem ty_slice_237 : sliceTy Tryz.prog 237 = none := by kernel_rfl
@[go_sem] theorem ty_agg_237 : aggTy Tryz.prog 237 = some true := by kernel_rfl
@[go_sem] theorem ty_size_237 : sizeTy Tryz.prog 237 = some 12 := by kernel_rfl
@[go_sem] theorem ty_zero_237 : zeroTy Tryz.prog 237 = some [.nils, .nils, .nils, .nils, .nils, .nils, .nils, .lit (.bool false), .lit (.int .i64 0), .nils, .nils, .nils] := by kernel_rfl
@[go_sem] theorem ty_array_237 : arrayTy Tryz.prog 237 = none := by kernel_rfl
@[go_sem] theorem ty_field_237_0 : fieldTy Tryz.prog 237 0 = some (0, 2, 38) := by kernel_rfl
@[go_sem] theorem ty_field_237_1 : fieldTy Tryz.prog 237 1 = some (2, 2, 38) := by kernel_rfl
@[go_sem] theorem ty_field_237_2 : fieldTy Tryz.prog 237 2 = some (4, 1, 200) := by kernel_rfl
@[go_sem] theorem ty_field_237_3 : fieldTy Tryz.prog 237 3 = some (5, 2, 64) := by kernel_rfl
@[go_sem] theorem ty_field_237_4 : fieldTy Tryz.prog 237 4 = some (7, 1, 4) := by kernel_rfl
@[go_sem] theorem ty_field_237_5 : fieldTy Tryz.prog 237 5 = some (8, 1, 3) := by kernel_rfl
@[go_sem] theorem ty_field_237_6 : fieldTy Tryz.prog 237 6 = some (9, 1, 26) := by kernel_rfl
@[go_sem] theorem ty_field_237_7 : fieldTy Tryz.prog 237 7 = some (10, 1, 26) := by kernel_rfl
@[go_sem] theorem ty_field_237_8 : fieldTy Tryz.prog 237 8 = some (11, 1, 133) := by kernel_rfl
@[go_sem] theorem ty_places_237 : placesTy Tryz.prog 237 = some [(0, 2), (2, 2), (4, 1), (5, 2), (7, 1), (8, 1), (9, 1), (10, 1), (11, 1)] := by kernel_rfl
@[go_sem] theorem ty_str_238 : strTy Tryz.prog 238 = false := by kernel_rfl
@[go_sem] theorem ty_bool_238 : boolTy Tryz.prog 238 = false := by kernel_rfl
@[go_sem] theorem ty_int_238 : intTy Tryz.prog 238 = none := by kernel_rfl
@[go_sem] theorem ty_slice_238 : sliceTy Tryz.prog 238 = none := by kernel_rfl
@[go_sem] theorem ty_agg_238 : aggTy Tryz.prog 238 = some true := by kernel_rfl
@[go_sem] theorem ty_size_238 : sizeTy Tryz.prog 238 = some 12 := by kernel_rfl
@[go_sem] theorem ty_zero_238 : zeroTy Tryz.prog 238 = some [.nils, .nils, .nils, .nils, .nils, .nils, .nils, .lit (.bool false), .lit (.int .i64 0), .nils, .nils, .nils] := by kernel_rfl
@[go_sem] theorem ty_array_238 : arrayTy Tryz.prog 238 = none := by kernel_rfl
@[go_sem] theorem ty_field_238_0 : fieldTy Tryz.prog 238 0 = some (0, 2, 38) := by kernel_rfl
@[go_sem] theorem ty_field_238_1 : fieldTy Tryz.prog 238 1 = some (2, 2, 38) := by kernel_rfl
@[go_sem] theorem ty_field_238_2 : fieldTy Tryz.prog 238 2 = some (4, 1, 200) := by kernel_rfl
@[go_sem] theorem ty_field_238_3 : fieldTy Tryz.prog 238 3 = some (5, 2, 64) := by kernel_rfl
@[go_sem] theorem ty_field_238_4 : fieldTy Tryz.prog 238 4 = some (7, 1, 4) := by kernel_rfl
@[go_sem] theorem ty_field_238_5 : fieldTy Tryz.prog 238 5 = some (8, 1, 3) := by kernel_rfl
@[go_sem] theorem ty_field_238_6 : fieldTy Tryz.prog 238 6 = some (9, 1, 26) := by kernel_rfl
@[go_sem] theorem ty_field_238_7 : fieldTy Tryz.prog 238 7 = some (10, 1, 26) := by kernel_rfl
@[go_sem] theorem ty_field_238_8 : fieldTy Tryz.prog 238 8 = some (11, 1, 133) := by kernel_rfl
@[go_sem] theorem ty_places_238 : placesTy Tryz.prog 238 = some [(0, 2), (2, 2), (4, 1), (5, 2), (7, 1), (8, 1), (9, 1), (10, 1), (11, 1)] := by kernel_rfl
@[go_sem] theorem ty_str_242 : strTy Tryz.prog 242 = false := by kernel_rfl
@[go_sem] theorem ty_bool_242 : boolTy Tryz.prog 242 = false := by kernel_rfl
@[go_sem] theorem ty_int_242 : intTy Tryz.prog 242 = some .u32 := by kernel_rfl
@[go_sem] theorem ty_slice_242 : sliceTy Tryz.prog 242 = none := by kernel_rfl
@[go_sem] theorem ty_agg_242 : aggTy Tryz.prog 242 = some false := by kernel_rfl
@[go_sem] theorem ty_size_242 : sizeTy Tryz.prog 242 = some 1 := by kernel_rfl
@[go_sem] theorem ty_zero_242 : zeroTy Tryz.prog 242 = some [.lit (.int .u32 0)] := by kernel_rfl
@[go_sem] theorem ty_array_242 : arrayTy Tryz.prog 242 = none := by kernel_rfl
@[go_sem] theorem ty_slice_243 : sliceTy Tryz.prog 243 = none := by kernel_rfl
@[go_sem] theorem ty_slice_246 : sliceTy Tryz.prog 246 = none := by kernel_rfl
@[go_sem] theorem ty_slice_257 : sliceTy Tryz.prog 257 = none := by kernel_rfl
end Go.Proofs.YtippinddoldhkaaGreat
