/-
  The types of this seat's translation, as closed facts. By a program of ours (tyfacts.py).
-/
import Derived.Test.YtdacgjleiloooaaGreatB1
import Derived.Test.YtdacgjleiloooaaGreatProg
import Derived.KernelRfl
set_option linter.unusedSimpArgs false
set_option linter.unusedVariables false
namespace Go.Proofs.YtdacgjleiloooaaGreat
open Go Go.Ew Go.Proofs
@[go_sem] theorem ty_slice_0 : sliceTy Tryz.prog 0 = none := by kernel_rfl
@[go_sem] theorem ty_str_3 : strTy Tryz.prog 3 = false := by kernel_rfl
@[go_sem] theorem ty_bool_3 : boolTy Tryz.prog 3 = false := by kernel_rfl
@[go_sem] theorem ty_int_3 : intTy Tryz.prog 3 = some .i64 := by kernel_rfl
@[go_sem] theorem ty_slice_3 : sliceTy Tryz.prog 3 = none := by kernel_rfl
@[go_sem] theorem ty_agg_3 : aggTy Tryz.prog 3 = some false := by kernel_rfl
@[go_sem] theorem ty_size_3 : sizeTy Tryz.prog 3 = some 1 := by kernel_rfl
@[go_sem] theorem ty_zero_3 : zeroTy Tryz.prog 3 = some [.lit (.int .i64 0)] := by kernel_rfl
@[go_sem] theorem ty_array_3 : arrayTy Tryz.prog 3 = none := by kernel_rfl
@[go_sem] theorem ty_str_4 : strTy Tryz.prog 4 = false := by kernel_rfl
@[go_sem] theorem ty_bool_4 : boolTy Tryz.prog 4 = true := by kernel_rfl
@[go_sem] theorem ty_int_4 : intTy Tryz.prog 4 = none := by kernel_rfl
@[go_sem] theorem ty_slice_4 : sliceTy Tryz.prog 4 = none := by kernel_rfl
@[go_sem] theorem ty_agg_4 : aggTy Tryz.prog 4 = some false := by kernel_rfl
@[go_sem] theorem ty_size_4 : sizeTy Tryz.prog 4 = some 1 := by kernel_rfl
@[go_sem] theorem ty_zero_4 : zeroTy Tryz.prog 4 = some [.lit (.bool false)] := by kernel_rfl
@[go_sem] theorem ty_array_4 : arrayTy Tryz.prog 4 = none := by kernel_rfl
@[go_sem] theorem ty_str_5 : strTy Tryz.prog 5 = false := by kernel_rfl
@[go_sem] theorem ty_bool_5 : boolTy Tryz.prog 5 = false := by kernel_rfl
@[go_sem] theorem ty_int_5 : intTy Tryz.prog 5 = some .u8 := by kernel_rfl
@[go_sem] theorem ty_slice_5 : sliceTy Tryz.prog 5 = none := by kernel_rfl
@[go_sem] theorem ty_agg_5 : aggTy Tryz.prog 5 = some false := by kernel_rfl
@[go_sem] theorem ty_size_5 : sizeTy Tryz.prog 5 = some 1 := by kernel_rfl
@[go_sem] theorem ty_zero_5 : zeroTy Tryz.prog 5 = some [.lit (.int .u8 0)] := by kernel_rfl
@[go_sem] theorem ty_array_5 : arrayTy Tryz.prog 5 = none := by kernel_rfl
@[go_sem] theorem ty_str_9 : strTy Tryz.prog 9 = true := by kernel_rfl
@[go_sem] theorem ty_bool_9 : boolTy Tryz.prog 9 = false := by kernel_rfl
@[go_sem] theorem ty_int_9 : intTy Tryz.prog 9 = none := by kernel_rfl
@[go_sem] theorem ty_slice_9 : sliceTy Tryz.prog 9 = none := by kernel_rfl
@[go_sem] theorem ty_agg_9 : aggTy Tryz.prog 9 = some false := by kernel_rfl
@[go_sem] theorem ty_size_9 : sizeTy Tryz.prog 9 = some 1 := by kernel_rfl
@[go_sem] theorem ty_zero_9 : zeroTy Tryz.prog 9 = some [.lit (.string ⟨⟨[]⟩⟩)] := by kernel_rfl
@[go_sem] theorem ty_array_9 : arrayTy Tryz.prog 9 = none := by kernel_rfl
@[go_sem] theorem ty_str_22 : strTy Tryz.prog 22 = false := by kernel_rfl
@[go_sem] theorem ty_bool_22 : boolTy Tryz.prog 22 = false := by kernel_rfl
@[go_sem] theorem ty_int_22 : intTy Tryz.prog 22 = none := by kernel_rfl
@[go_sem] theorem ty_slice_22 : sliceTy Tryz.prog 22 = some (94, 4, 56) := by kernel_rfl
@[go_sem] theorem ty_agg_22 : aggTy Tryz.prog 22 = some false := by kernel_rfl
@[go_sem] theorem ty_size_22 : sizeTy Tryz.prog 22 = some 1 := by kernel_rfl
@[go_sem] theorem ty_zero_22 : zeroTy Tryz.prog 22 = some [.nils] := by kernel_rfl
@[go_sem] theorem ty_array_22 : arrayTy Tryz.prog 22 = none := by kernel_rfl
@[go_sem] theorem ty_str_23 : strTy Tryz.prog 23 = false := by kernel_rfl
@[go_sem] theorem ty_bool_23 : boolTy Tryz.prog 23 = false := by kernel_rfl
@[go_sem] theorem ty_int_23 : intTy Tryz.prog 23 = none := by kernel_rfl
@[go_sem] theorem ty_slice_23 : sliceTy Tryz.prog 23 = some (96, 7, 64) := by kernel_rfl
@[go_sem] theorem ty_agg_23 : aggTy Tryz.prog 23 = some false := by kernel_rfl
@[go_sem] theorem ty_size_23 : sizeTy Tryz.prog 23 = some 1 := by kernel_rfl
@[go_sem] theorem ty_zero_23 : zeroTy Tryz.prog 23 = some [.nils] := by kernel_rfl
@[go_sem] theorem ty_array_23 : arrayTy Tryz.prog 23 = none := by kernel_rfl
@[go_sem] theorem ty_str_24 : strTy Tryz.prog 24 = false := by kernel_rfl
@[go_sem] theorem ty_bool_24 : boolTy Tryz.prog 24 = false := by kernel_rfl
@[go_sem] theorem ty_int_24 : intTy Tryz.prog 24 = none := by kernel_rfl
@[go_sem] theorem ty_slice_24 : sliceTy Tryz.prog 24 = none := by kernel_rfl
@[go_sem] theorem ty_agg_24 : aggTy Tryz.prog 24 = some true := by kernel_rfl
@[go_sem] theorem ty_size_24 : sizeTy Tryz.prog 24 = some 2 := by kernel_rfl
@[go_sem] theorem ty_zero_24 : zeroTy Tryz.prog 24 = some [.nils, .nils] := by kernel_rfl
@[go_sem] theorem ty_array_24 : arrayTy Tryz.prog 24 = none := by kernel_rfl
@[go_sem] theorem ty_field_24_0 : fieldTy Tryz.prog 24 0 = some (0, 1, 22) := by kernel_rfl
@[go_sem] theorem ty_field_24_1 : fieldTy Tryz.prog 24 1 = some (1, 1, 23) := by kernel_rfl
@[go_sem] theorem ty_places_24 : placesTy Tryz.prog 24 = some [(0, 1), (1, 1)] := by kernel_rfl
@[go_sem] theorem ty_str_25 : strTy Tryz.prog 25 = false := by kernel_rfl
@[go_sem] theorem ty_bool_25 : boolTy Tryz.prog 25 = false := by kernel_rfl
@[go_sem] theorem ty_int_25 : intTy Tryz.prog 25 = none := by kernel_rfl
@[go_sem] theorem ty_slice_25 : sliceTy Tryz.prog 25 = none := by kernel_rfl
@[go_sem] theorem ty_agg_25 : aggTy Tryz.prog 25 = some true := by kernel_rfl
@[go_sem] theorem ty_size_25 : sizeTy Tryz.prog 25 = some 2 := by kernel_rfl
@[go_sem] theorem ty_zero_25 : zeroTy Tryz.prog 25 = some [.nils, .nils] := by kernel_rfl
@[go_sem] theorem ty_array_25 : arrayTy Tryz.prog 25 = none := by kernel_rfl
@[go_sem] theorem ty_field_25_0 : fieldTy Tryz.prog 25 0 = some (0, 1, 22) := by kernel_rfl
@[go_sem] theorem ty_field_25_1 : fieldTy Tryz.prog 25 1 = some (1, 1, 23) := by kernel_rfl
@[go_sem] theorem ty_places_25 : placesTy Tryz.prog 25 = some [(0, 1), (1, 1)] := by kernel_rfl
@[go_sem] theorem ty_str_26 : strTy Tryz.prog 26 = false := by kernel_rfl
@[go_sem] theorem ty_bool_26 : boolTy Tryz.prog 26 = false := by kernel_rfl
@[go_sem] theorem ty_int_26 : intTy Tryz.prog 26 = none := by kernel_rfl
@[go_sem] theorem ty_slice_26 : sliceTy Tryz.prog 26 = some (3, 1, 8) := by kernel_rfl
@[go_sem] theorem ty_agg_26 : aggTy Tryz.prog 26 = some false := by kernel_rfl
@[go_sem] theorem ty_size_26 : sizeTy Tryz.prog 26 = some 1 := by kernel_rfl
@[go_sem] theorem ty_zero_26 : zeroTy Tryz.prog 26 = some [.nils] := by kernel_rfl
@[go_sem] theorem ty_array_26 : arrayTy Tryz.prog 26 = none := by kernel_rfl
@[go_sem] theorem ty_str_27 : strTy Tryz.prog 27 = false := by kernel_rfl
@[go_sem] theorem ty_bool_27 : boolTy Tryz.prog 27 = false := by kernel_rfl
@[go_sem] theorem ty_int_27 : intTy Tryz.prog 27 = none := by kernel_rfl
@[go_sem] theorem ty_slice_27 : sliceTy Tryz.prog 27 = some (77, 3, 24) := by kernel_rfl
@[go_sem] theorem ty_agg_27 : aggTy Tryz.prog 27 = some false := by kernel_rfl
@[go_sem] theorem ty_size_27 : sizeTy Tryz.prog 27 = some 1 := by kernel_rfl
@[go_sem] theorem ty_zero_27 : zeroTy Tryz.prog 27 = some [.nils] := by kernel_rfl
@[go_sem] theorem ty_array_27 : arrayTy Tryz.prog 27 = none := by kernel_rfl
@[go_sem] theorem ty_str_28 : strTy Tryz.prog 28 = false := by kernel_rfl
@[go_sem] theorem ty_bool_28 : boolTy Tryz.prog 28 = false := by kernel_rfl
@[go_sem] theorem ty_int_28 : intTy Tryz.prog 28 = none := by kernel_rfl
@[go_sem] theorem ty_slice_28 : sliceTy Tryz.prog 28 = none := by kernel_rfl
@[go_sem] theorem ty_agg_28 : aggTy Tryz.prog 28 = some true := by kernel_rfl
@[go_sem] theorem ty_size_28 : sizeTy Tryz.prog 28 = some 2 := by kernel_rfl
@[go_sem] theorem ty_zero_28 : zeroTy Tryz.prog 28 = some [.nils, .nils] := by kernel_rfl
@[go_sem] theorem ty_array_28 : arrayTy Tryz.prog 28 = none := by kernel_rfl
@[go_sem] theorem ty_field_28_0 : fieldTy Tryz.prog 28 0 = some (0, 1, 26) := by kernel_rfl
@[go_sem] theorem ty_field_28_1 : fieldTy Tryz.prog 28 1 = some (1, 1, 27) := by kernel_rfl
@[go_sem] theorem ty_places_28 : placesTy Tryz.prog 28 = some [(0, 1), (1, 1)] := by kernel_rfl
@[go_sem] theorem ty_str_29 : strTy Tryz.prog 29 = false := by kernel_rfl
@[go_sem] theorem ty_bool_29 : boolTy Tryz.prog 29 = false := by kernel_rfl
@[go_sem] theorem ty_int_29 : intTy Tryz.prog 29 = none := by kernel_rfl
@[go_sem] theorem ty_slice_29 : sliceTy Tryz.prog 29 = none := by kernel_rfl
@[go_sem] theorem ty_agg_29 : aggTy Tryz.prog 29 = some true := by kernel_rfl
@[go_sem] theorem ty_size_29 : sizeTy Tryz.prog 29 = some 2 := by kernel_rfl
@[go_sem] theorem ty_zero_29 : zeroTy Tryz.prog 29 = some [.nils, .nils] := by kernel_rfl
@[go_sem] theorem ty_array_29 : arrayTy Tryz.prog 29 = none := by kernel_rfl
@[go_sem] theorem ty_field_29_0 : fieldTy Tryz.prog 29 0 = some (0, 1, 26) := by kernel_rfl
@[go_sem] theorem ty_field_29_1 : fieldTy Tryz.prog 29 1 = some (1, 1, 27) := by kernel_rfl
@[go_sem] theorem ty_places_29 : placesTy Tryz.prog 29 = some [(0, 1), (1, 1)] := by kernel_rfl
@[go_sem] theorem ty_str_30 : strTy Tryz.prog 30 = false := by kernel_rfl
@[go_sem] theorem ty_bool_30 : boolTy Tryz.prog 30 = false := by kernel_rfl
@[go_sem] theorem ty_int_30 : intTy Tryz.prog 30 = none := by kernel_rfl
@[go_sem] theorem ty_slice_30 : sliceTy Tryz.prog 30 = none := by kernel_rfl
@[go_sem] theorem ty_agg_30 : aggTy Tryz.prog 30 = some true := by kernel_rfl
@[go_sem] theorem ty_size_30 : sizeTy Tryz.prog 30 = some 6 := by kernel_rfl
@[go_sem] theorem ty_zero_30 : zeroTy Tryz.prog 30 = some [.nils, .nils, .nils, .nils, .nils, .nils] := by kernel_rfl
@[go_sem] theorem ty_array_30 : arrayTy Tryz.prog 30 = none := by kernel_rfl
@[go_sem] theorem ty_field_30_0 : fieldTy Tryz.prog 30 0 = some (0, 2, 25) := by kernel_rfl
@[go_sem] theorem ty_field_30_1 : fieldTy Tryz.prog 30 1 = some (2, 2, 29) := by kernel_rfl
@[go_sem] theorem ty_field_30_2 : fieldTy Tryz.prog 30 2 = some (4, 2, 29) := by kernel_rfl
@[go_sem] theorem ty_places_30 : placesTy Tryz.prog 30 = some [(0, 2), (2, 2), (4, 2)] := by kernel_rfl
@[go_sem] theorem ty_str_31 : strTy Tryz.prog 31 = false := by kernel_rfl
@[go_sem] theorem ty_bool_31 : boolTy Tryz.prog 31 = false := by kernel_rfl
@[go_sem] theorem ty_int_31 : intTy Tryz.prog 31 = none := by kernel_rfl
@[go_sem] theorem ty_slice_31 : sliceTy Tryz.prog 31 = none := by kernel_rfl
@[go_sem] theorem ty_agg_31 : aggTy Tryz.prog 31 = some true := by kernel_rfl
@[go_sem] theorem ty_size_31 : sizeTy Tryz.prog 31 = some 6 := by kernel_rfl
@[go_sem] theorem ty_zero_31 : zeroTy Tryz.prog 31 = some [.nils, .nils, .nils, .nils, .nils, .nils] := by kernel_rfl
@[go_sem] theorem ty_array_31 : arrayTy Tryz.prog 31 = none := by kernel_rfl
@[go_sem] theorem ty_field_31_0 : fieldTy Tryz.prog 31 0 = some (0, 2, 25) := by kernel_rfl
@[go_sem] theorem ty_field_31_1 : fieldTy Tryz.prog 31 1 = some (2, 2, 29) := by kernel_rfl
@[go_sem] theorem ty_field_31_2 : fieldTy Tryz.prog 31 2 = some (4, 2, 29) := by kernel_rfl
@[go_sem] theorem ty_places_31 : placesTy Tryz.prog 31 = some [(0, 2), (2, 2), (4, 2)] := by kernel_rfl
@[go_sem] theorem ty_str_32 : strTy Tryz.prog 32 = false := by kernel_rfl
@[go_sem] theorem ty_bool_32 : boolTy Tryz.prog 32 = false := by kernel_rfl
@[go_sem] theorem ty_int_32 : intTy Tryz.prog 32 = none := by kernel_rfl
@[go_sem] theorem ty_slice_32 : sliceTy Tryz.prog 32 = none := by kernel_rfl
@[go_sem] theorem ty_agg_32 : aggTy Tryz.prog 32 = some true := by kernel_rfl
@[go_sem] theorem ty_size_32 : sizeTy Tryz.prog 32 = some 2 := by kernel_rfl
@[go_sem] theorem ty_zero_32 : zeroTy Tryz.prog 32 = some [.nils, .nils] := by kernel_rfl
@[go_sem] theorem ty_array_32 : arrayTy Tryz.prog 32 = none := by kernel_rfl
@[go_sem] theorem ty_field_32_0 : fieldTy Tryz.prog 32 0 = some (0, 1, 26) := by kernel_rfl
@[go_sem] theorem ty_field_32_1 : fieldTy Tryz.prog 32 1 = some (1, 1, 26) := by kernel_rfl
@[go_sem] theorem ty_places_32 : placesTy Tryz.prog 32 = some [(0, 1), (1, 1)] := by kernel_rfl
@[go_sem] theorem ty_str_33 : strTy Tryz.prog 33 = false := by kernel_rfl
@[go_sem] theorem ty_bool_33 : boolTy Tryz.prog 33 = false := by kernel_rfl
@[go_sem] theorem ty_int_33 : intTy Tryz.prog 33 = none := by kernel_rfl
@[go_sem] theorem ty_slice_33 : sliceTy Tryz.prog 33 = none := by kernel_rfl
@[go_sem] theorem ty_agg_33 : aggTy Tryz.prog 33 = some true := by kernel_rfl
@[go_sem] theorem ty_size_33 : sizeTy Tryz.prog 33 = some 2 := by kernel_rfl
@[go_sem] theorem ty_zero_33 : zeroTy Tryz.prog 33 = some [.nils, .nils] := by kernel_rfl
@[go_sem] theorem ty_array_33 : arrayTy Tryz.prog 33 = none := by kernel_rfl
@[go_sem] theorem ty_field_33_0 : fieldTy Tryz.prog 33 0 = some (0, 1, 26) := by kernel_rfl
@[go_sem] theorem ty_field_33_1 : fieldTy Tryz.prog 33 1 = some (1, 1, 26) := by kernel_rfl
@[go_sem] theorem ty_places_33 : placesTy Tryz.prog 33 = some [(0, 1), (1, 1)] := by kernel_rfl
@[go_sem] theorem ty_str_36 : strTy Tryz.prog 36 = false := by kernel_rfl
@[go_sem] theorem ty_bool_36 : boolTy Tryz.prog 36 = false := by kernel_rfl
@[go_sem] theorem ty_int_36 : intTy Tryz.prog 36 = some .i64 := by kernel_rfl
@[go_sem] theorem ty_slice_36 : sliceTy Tryz.prog 36 = none := by kernel_rfl
@[go_sem] theorem ty_agg_36 : aggTy Tryz.prog 36 = some false := by kernel_rfl
@[go_sem] theorem ty_size_36 : sizeTy Tryz.prog 36 = some 1 := by kernel_rfl
@[go_sem] theorem ty_zero_36 : zeroTy Tryz.prog 36 = some [.lit (.int .i64 0)] := by kernel_rfl
@[go_sem] theorem ty_array_36 : arrayTy Tryz.prog 36 = none := by kernel_rfl
@[go_sem] theorem ty_slice_37 : sliceTy Tryz.prog 37 = none := by kernel_rfl
@[go_sem] theorem ty_str_46 : strTy Tryz.prog 46 = false := by kernel_rfl
@[go_sem] theorem ty_bool_46 : boolTy Tryz.prog 46 = false := by kernel_rfl
@[go_sem] theorem ty_int_46 : intTy Tryz.prog 46 = none := by kernel_rfl
@[go_sem] theorem ty_slice_46 : sliceTy Tryz.prog 46 = some (33, 2, 48) := by kernel_rfl
@[go_sem] theorem ty_agg_46 : aggTy Tryz.prog 46 = some false := by kernel_rfl
@[go_sem] theorem ty_size_46 : sizeTy Tryz.prog 46 = some 1 := by kernel_rfl
@[go_sem] theorem ty_zero_46 : zeroTy Tryz.prog 46 = some [.nils] := by kernel_rfl
@[go_sem] theorem ty_array_46 : arrayTy Tryz.prog 46 = none := by kernel_rfl
@[go_sem] theorem ty_slice_47 : sliceTy Tryz.prog 47 = none := by kernel_rfl
@[go_sem] theorem ty_str_52 : strTy Tryz.prog 52 = false := by kernel_rfl
@[go_sem] theorem ty_bool_52 : boolTy Tryz.prog 52 = false := by kernel_rfl
@[go_sem] theorem ty_int_52 : intTy Tryz.prog 52 = none := by kernel_rfl
@[go_sem] theorem ty_slice_52 : sliceTy Tryz.prog 52 = some (120, 2, 2) := by kernel_rfl
@[go_sem] theorem ty_agg_52 : aggTy Tryz.prog 52 = some false := by kernel_rfl
@[go_sem] theorem ty_size_52 : sizeTy Tryz.prog 52 = some 1 := by kernel_rfl
@[go_sem] theorem ty_zero_52 : zeroTy Tryz.prog 52 = some [.nils] := by kernel_rfl
@[go_sem] theorem ty_array_52 : arrayTy Tryz.prog 52 = none := by kernel_rfl
@[go_sem] theorem ty_str_53 : strTy Tryz.prog 53 = false := by kernel_rfl
@[go_sem] theorem ty_bool_53 : boolTy Tryz.prog 53 = false := by kernel_rfl
@[go_sem] theorem ty_int_53 : intTy Tryz.prog 53 = none := by kernel_rfl
@[go_sem] theorem ty_slice_53 : sliceTy Tryz.prog 53 = some (5, 1, 1) := by kernel_rfl
@[go_sem] theorem ty_agg_53 : aggTy Tryz.prog 53 = some false := by kernel_rfl
@[go_sem] theorem ty_size_53 : sizeTy Tryz.prog 53 = some 1 := by kernel_rfl
@[go_sem] theorem ty_zero_53 : zeroTy Tryz.prog 53 = some [.nils] := by kernel_rfl
@[go_sem] theorem ty_array_53 : arrayTy Tryz.prog 53 = none := by kernel_rfl
@[go_sem] theorem ty_str_54 : strTy Tryz.prog 54 = false := by kernel_rfl
@[go_sem] theorem ty_bool_54 : boolTy Tryz.prog 54 = false := by kernel_rfl
@[go_sem] theorem ty_int_54 : intTy Tryz.prog 54 = none := by kernel_rfl
@[go_sem] theorem ty_slice_54 : sliceTy Tryz.prog 54 = some (121, 3, 3) := by kernel_rfl
@[go_sem] theorem ty_agg_54 : aggTy Tryz.prog 54 = some false := by kernel_rfl
@[go_sem] theorem ty_size_54 : sizeTy Tryz.prog 54 = some 1 := by kernel_rfl
@[go_sem] theorem ty_zero_54 : zeroTy Tryz.prog 54 = some [.nils] := by kernel_rfl
@[go_sem] theorem ty_array_54 : arrayTy Tryz.prog 54 = none := by kernel_rfl
@[go_sem] theorem ty_str_55 : strTy Tryz.prog 55 = false := by kernel_rfl
@[go_sem] theorem ty_bool_55 : boolTy Tryz.prog 55 = false := by kernel_rfl
@[go_sem] theorem ty_int_55 : intTy Tryz.prog 55 = none := by kernel_rfl
@[go_sem] theorem ty_slice_55 : sliceTy Tryz.prog 55 = none := by kernel_rfl
@[go_sem] theorem ty_agg_55 : aggTy Tryz.prog 55 = some true := by kernel_rfl
@[go_sem] theorem ty_size_55 : sizeTy Tryz.prog 55 = some 2 := by kernel_rfl
@[go_sem] theorem ty_zero_55 : zeroTy Tryz.prog 55 = some [.nils, .nils] := by kernel_rfl
@[go_sem] theorem ty_array_55 : arrayTy Tryz.prog 55 = none := by kernel_rfl
@[go_sem] theorem ty_field_55_0 : fieldTy Tryz.prog 55 0 = some (0, 1, 53) := by kernel_rfl
@[go_sem] theorem ty_field_55_1 : fieldTy Tryz.prog 55 1 = some (1, 1, 54) := by kernel_rfl
@[go_sem] theorem ty_places_55 : placesTy Tryz.prog 55 = some [(0, 1), (1, 1)] := by kernel_rfl
@[go_sem] theorem ty_str_56 : strTy Tryz.prog 56 = false := by kernel_rfl
@[go_sem] theorem ty_bool_56 : boolTy Tryz.prog 56 = false := by kernel_rfl
@[go_sem] theorem ty_int_56 : intTy Tryz.prog 56 = none := by kernel_rfl
@[go_sem] theorem ty_slice_56 : sliceTy Tryz.prog 56 = none := by kernel_rfl
@[go_sem] theorem ty_agg_56 : aggTy Tryz.prog 56 = some true := by kernel_rfl
@[go_sem] theorem ty_size_56 : sizeTy Tryz.prog 56 = some 2 := by kernel_rfl
@[go_sem] theorem ty_zero_56 : zeroTy Tryz.prog 56 = some [.nils, .nils] := by kernel_rfl
@[go_sem] theorem ty_array_56 : arrayTy Tryz.prog 56 = none := by kernel_rfl
@[go_sem] theorem ty_field_56_0 : fieldTy Tryz.prog 56 0 = some (0, 1, 53) := by kernel_rfl
@[go_sem] theorem ty_field_56_1 : fieldTy Tryz.prog 56 1 = some (1, 1, 54) := by kernel_rfl
@[go_sem] theorem ty_places_56 : placesTy Tryz.prog 56 = some [(0, 1), (1, 1)] := by kernel_rfl
@[go_sem] theorem ty_str_57 : strTy Tryz.prog 57 = false := by kernel_rfl
@[go_sem] theorem ty_bool_57 : boolTy Tryz.prog 57 = false := by kernel_rfl
@[go_sem] theorem ty_int_57 : intTy Tryz.prog 57 = none := by kernel_rfl
@[go_sem] theorem ty_slice_57 : sliceTy Tryz.prog 57 = none := by kernel_rfl
@[go_sem] theorem ty_agg_57 : aggTy Tryz.prog 57 = some true := by kernel_rfl
@[go_sem] theorem ty_size_57 : sizeTy Tryz.prog 57 = some 6 := by kernel_rfl
@[go_sem] theorem ty_zero_57 : zeroTy Tryz.prog 57 = some [.nils, .nils, .nils, .nils, .nils, .nils] := by kernel_rfl
@[go_sem] theorem ty_array_57 : arrayTy Tryz.prog 57 = none := by kernel_rfl
@[go_sem] theorem ty_field_57_0 : fieldTy Tryz.prog 57 0 = some (0, 1, 52) := by kernel_rfl
@[go_sem] theorem ty_field_57_1 : fieldTy Tryz.prog 57 1 = some (1, 1, 52) := by kernel_rfl
@[go_sem] theorem ty_field_57_2 : fieldTy Tryz.prog 57 2 = some (2, 2, 56) := by kernel_rfl
@[go_sem] theorem ty_field_57_3 : fieldTy Tryz.prog 57 3 = some (4, 2, 56) := by kernel_rfl
@[go_sem] theorem ty_places_57 : placesTy Tryz.prog 57 = some [(0, 1), (1, 1), (2, 2), (4, 2)] := by kernel_rfl
@[go_sem] theorem ty_str_58 : strTy Tryz.prog 58 = false := by kernel_rfl
@[go_sem] theorem ty_bool_58 : boolTy Tryz.prog 58 = false := by kernel_rfl
@[go_sem] theorem ty_int_58 : intTy Tryz.prog 58 = none := by kernel_rfl
@[go_sem] theorem ty_slice_58 : sliceTy Tryz.prog 58 = none := by kernel_rfl
@[go_sem] theorem ty_agg_58 : aggTy Tryz.prog 58 = some true := by kernel_rfl
@[go_sem] theorem ty_size_58 : sizeTy Tryz.prog 58 = some 6 := by kernel_rfl
@[go_sem] theorem ty_zero_58 : zeroTy Tryz.prog 58 = some [.nils, .nils, .nils, .nils, .nils, .nils] := by kernel_rfl
@[go_sem] theorem ty_array_58 : arrayTy Tryz.prog 58 = none := by kernel_rfl
@[go_sem] theorem ty_field_58_0 : fieldTy Tryz.prog 58 0 = some (0, 1, 52) := by kernel_rfl
@[go_sem] theorem ty_field_58_1 : fieldTy Tryz.prog 58 1 = some (1, 1, 52) := by kernel_rfl
@[go_sem] theorem ty_field_58_2 : fieldTy Tryz.prog 58 2 = some (2, 2, 56) := by kernel_rfl
@[go_sem] theorem ty_field_58_3 : fieldTy Tryz.prog 58 3 = some (4, 2, 56) := by kernel_rfl
@[go_sem] theorem ty_places_58 : placesTy Tryz.prog 58 = some [(0, 1), (1, 1), (2, 2), (4, 2)] := by kernel_rfl
@[go_sem] theorem ty_slice_59 : sliceTy Tryz.prog 59 = none := by kernel_rfl
@[go_sem] theorem ty_slice_63 : sliceTy Tryz.prog 63 = none := by kernel_rfl
@[go_sem] theorem ty_slice_65 : sliceTy Tryz.prog 65 = none := by kernel_rfl
@[go_sem] theorem ty_str_76 : strTy Tryz.prog 76 = false := by kernel_rfl
@[go_sem] theorem ty_bool_76 : boolTy Tryz.prog 76 = false := by kernel_rfl
@[go_sem] theorem ty_int_76 : intTy Tryz.prog 76 = none := by kernel_rfl
@[go_sem] theorem ty_slice_76 : sliceTy Tryz.prog 76 = none := by kernel_rfl
@[go_sem] theorem ty_agg_76 : aggTy Tryz.prog 76 = some true := by kernel_rfl
@[go_sem] theorem ty_size_76 : sizeTy Tryz.prog 76 = some 3 := by kernel_rfl
@[go_sem] theorem ty_zero_76 : zeroTy Tryz.prog 76 = some [.lit (.int .i64 0), .lit (.int .i64 0), .lit (.int .i64 0)] := by kernel_rfl
@[go_sem] theorem ty_array_76 : arrayTy Tryz.prog 76 = none := by kernel_rfl
@[go_sem] theorem ty_field_76_0 : fieldTy Tryz.prog 76 0 = some (0, 1, 3) := by kernel_rfl
@[go_sem] theorem ty_field_76_1 : fieldTy Tryz.prog 76 1 = some (1, 1, 3) := by kernel_rfl
@[go_sem] theorem ty_field_76_2 : fieldTy Tryz.prog 76 2 = some (2, 1, 3) := by kernel_rfl
@[go_sem] theorem ty_places_76 : placesTy Tryz.prog 76 = some [(0, 1), (1, 1), (2, 1)] := by kernel_rfl
@[go_sem] theorem ty_str_77 : strTy Tryz.prog 77 = false := by kernel_rfl
@[go_sem] theorem ty_bool_77 : boolTy Tryz.prog 77 = false := by kernel_rfl
@[go_sem] theorem ty_int_77 : intTy Tryz.prog 77 = none := by kernel_rfl
@[go_sem] theorem ty_slice_77 : sliceTy Tryz.prog 77 = none := by kernel_rfl
@[go_sem] theorem ty_agg_77 : aggTy Tryz.prog 77 = some true := by kernel_rfl
@[go_sem] theorem ty_size_77 : sizeTy Tryz.prog 77 = some 3 := by kernel_rfl
@[go_sem] theorem ty_zero_77 : zeroTy Tryz.prog 77 = some [.lit (.int .i64 0), .lit (.int .i64 0), .lit (.int .i64 0)] := by kernel_rfl
@[go_sem] theorem ty_array_77 : arrayTy Tryz.prog 77 = none := by kernel_rfl
@[go_sem] theorem ty_field_77_0 : fieldTy Tryz.prog 77 0 = some (0, 1, 3) := by kernel_rfl
@[go_sem] theorem ty_field_77_1 : fieldTy Tryz.prog 77 1 = some (1, 1, 3) := by kernel_rfl
@[go_sem] theorem ty_field_77_2 : fieldTy Tryz.prog 77 2 = some (2, 1, 3) := by kernel_rfl
@[go_sem] theorem ty_places_77 : placesTy Tryz.prog 77 = some [(0, 1), (1, 1), (2, 1)] := by kernel_rfl
@[go_sem] theorem ty_plain_77 : plainTy Tryz.prog 77 = some [3, 3, 3] := by kernel_rfl
@[go_sem] theorem ty_str_89 : strTy Tryz.prog 89 = false := by kernel_rfl
@[go_sem] theorem ty_bool_89 : boolTy Tryz.prog 89 = false := by kernel_rfl
@[go_sem] theorem ty_int_89 : intTy Tryz.prog 89 = none := by kernel_rfl
@[go_sem] theorem ty_slice_89 : sliceTy Tryz.prog 89 = some (9, 1, 16) := by kernel_rfl
@[go_sem] theorem ty_agg_89 : aggTy Tryz.prog 89 = some false := by kernel_rfl
@[go_sem] theorem ty_size_89 : sizeTy Tryz.prog 89 = some 1 := by kernel_rfl
@[go_sem] theorem ty_zero_89 : zeroTy Tryz.prog 89 = some [.nils] := by kernel_rfl
@[go_sem] theorem ty_array_89 : arrayTy Tryz.prog 89 = none := by kernel_rfl
@[go_sem] theorem ty_str_90 : strTy Tryz.prog 90 = false := by kernel_rfl
@[go_sem] theorem ty_bool_90 : boolTy Tryz.prog 90 = false := by kernel_rfl
@[go_sem] theorem ty_int_90 : intTy Tryz.prog 90 = none := by kernel_rfl
@[go_sem] theorem ty_slice_90 : sliceTy Tryz.prog 90 = none := by kernel_rfl
@[go_sem] theorem ty_agg_90 : aggTy Tryz.prog 90 = some true := by kernel_rfl
@[go_sem] theorem ty_size_90 : sizeTy Tryz.prog 90 = some 4 := by kernel_rfl
@[go_sem] theorem ty_zero_90 : zeroTy Tryz.prog 90 = some [.lit (.string ⟨⟨[]⟩⟩), .lit (.int .i64 0), .lit (.int .i64 0), .nils] := by kernel_rfl
@[go_sem] theorem ty_array_90 : arrayTy Tryz.prog 90 = none := by kernel_rfl
@[go_sem] theorem ty_field_90_0 : fieldTy Tryz.prog 90 0 = some (0, 1, 9) := by kernel_rfl
@[go_sem] theorem ty_field_90_1 : fieldTy Tryz.prog 90 1 = some (1, 1, 3) := by kernel_rfl
@[go_sem] theorem ty_field_90_2 : fieldTy Tryz.prog 90 2 = some (2, 1, 3) := by kernel_rfl
@[go_sem] theorem ty_field_90_3 : fieldTy Tryz.prog 90 3 = some (3, 1, 89) := by kernel_rfl
@[go_sem] theorem ty_places_90 : placesTy Tryz.prog 90 = some [(0, 1), (1, 1), (2, 1), (3, 1)] := by kernel_rfl
@[go_sem] theorem ty_str_91 : strTy Tryz.prog 91 = false := by kernel_rfl
@[go_sem] theorem ty_bool_91 : boolTy Tryz.prog 91 = false := by kernel_rfl
@[go_sem] theorem ty_int_91 : intTy Tryz.prog 91 = none := by kernel_rfl
@[go_sem] theorem ty_slice_91 : sliceTy Tryz.prog 91 = none := by kernel_rfl
@[go_sem] theorem ty_agg_91 : aggTy Tryz.prog 91 = some true := by kernel_rfl
@[go_sem] theorem ty_size_91 : sizeTy Tryz.prog 91 = some 4 := by kernel_rfl
@[go_sem] theorem ty_zero_91 : zeroTy Tryz.prog 91 = some [.lit (.string ⟨⟨[]⟩⟩), .lit (.int .i64 0), .lit (.int .i64 0), .nils] := by kernel_rfl
@[go_sem] theorem ty_array_91 : arrayTy Tryz.prog 91 = none := by kernel_rfl
@[go_sem] theorem ty_field_91_0 : fieldTy Tryz.prog 91 0 = some (0, 1, 9) := by kernel_rfl
@[go_sem] theorem ty_field_91_1 : fieldTy Tryz.prog 91 1 = some (1, 1, 3) := by kernel_rfl
@[go_sem] theorem ty_field_91_2 : fieldTy Tryz.prog 91 2 = some (2, 1, 3) := by kernel_rfl
@[go_sem] theorem ty_field_91_3 : fieldTy Tryz.prog 91 3 = some (3, 1, 89) := by kernel_rfl
@[go_sem] theorem ty_places_91 : placesTy Tryz.prog 91 = some [(0, 1), (1, 1), (2, 1), (3, 1)] := by kernel_rfl
@[go_sem] theorem ty_str_92 : strTy Tryz.prog 92 = false := by kernel_rfl
@[go_sem] theorem ty_bool_92 : boolTy Tryz.prog 92 = false := by kernel_rfl
@[go_sem] theorem ty_int_92 : intTy Tryz.prog 92 = none := by kernel_rfl
@[go_sem] theorem ty_slice_92 : sliceTy Tryz.prog 92 = some (91, 4, 56) := by kernel_rfl
@[go_sem] theorem ty_agg_92 : aggTy Tryz.prog 92 = some false := by kernel_rfl
@[go_sem] theorem ty_size_92 : sizeTy Tryz.prog 92 = some 1 := by kernel_rfl
@[go_sem] theorem ty_zero_92 : zeroTy Tryz.prog 92 = some [.nils] := by kernel_rfl
@[go_sem] theorem ty_array_92 : arrayTy Tryz.prog 92 = none := by kernel_rfl
@[go_sem] theorem ty_str_93 : strTy Tryz.prog 93 = false := by kernel_rfl
@[go_sem] theorem ty_bool_93 : boolTy Tryz.prog 93 = false := by kernel_rfl
@[go_sem] theorem ty_int_93 : intTy Tryz.prog 93 = none := by kernel_rfl
@[go_sem] theorem ty_slice_93 : sliceTy Tryz.prog 93 = none := by kernel_rfl
@[go_sem] theorem ty_agg_93 : aggTy Tryz.prog 93 = some true := by kernel_rfl
@[go_sem] theorem ty_size_93 : sizeTy Tryz.prog 93 = some 4 := by kernel_rfl
@[go_sem] theorem ty_zero_93 : zeroTy Tryz.prog 93 = some [.lit (.string ⟨⟨[]⟩⟩), .lit (.int .i64 0), .lit (.bool false), .nils] := by kernel_rfl
@[go_sem] theorem ty_array_93 : arrayTy Tryz.prog 93 = none := by kernel_rfl
@[go_sem] theorem ty_field_93_0 : fieldTy Tryz.prog 93 0 = some (0, 1, 9) := by kernel_rfl
@[go_sem] theorem ty_field_93_1 : fieldTy Tryz.prog 93 1 = some (1, 1, 3) := by kernel_rfl
@[go_sem] theorem ty_field_93_2 : fieldTy Tryz.prog 93 2 = some (2, 1, 4) := by kernel_rfl
@[go_sem] theorem ty_field_93_3 : fieldTy Tryz.prog 93 3 = some (3, 1, 92) := by kernel_rfl
@[go_sem] theorem ty_places_93 : placesTy Tryz.prog 93 = some [(0, 1), (1, 1), (2, 1), (3, 1)] := by kernel_rfl
@[go_sem] theorem ty_str_94 : strTy Tryz.prog 94 = false := by kernel_rfl
@[go_sem] theorem ty_bool_94 : boolTy Tryz.prog 94 = false := by kernel_rfl
@[go_sem] theorem ty_int_94 : intTy Tryz.prog 94 = none := by kernel_rfl
@[go_sem] theorem ty_slice_94 : sliceTy Tryz.prog 94 = none := by kernel_rfl
@[go_sem] theorem ty_agg_94 : aggTy Tryz.prog 94 = some true := by kernel_rfl
@[go_sem] theorem ty_size_94 : sizeTy Tryz.prog 94 = some 4 := by kernel_rfl
@[go_sem] theorem ty_zero_94 : zeroTy Tryz.prog 94 = some [.lit (.string ⟨⟨[]⟩⟩), .lit (.int .i64 0), .lit (.bool false), .nils] := by kernel_rfl
@[go_sem] theorem ty_array_94 : arrayTy Tryz.prog 94 = none := by kernel_rfl
@[go_sem] theorem ty_field_94_0 : fieldTy Tryz.prog 94 0 = some (0, 1, 9) := by kernel_rfl
@[go_sem] theorem ty_field_94_1 : fieldTy Tryz.prog 94 1 = some (1, 1, 3) := by kernel_rfl
@[go_sem] theorem ty_field_94_2 : fieldTy Tryz.prog 94 2 = some (2, 1, 4) := by kernel_rfl
@[go_sem] theorem ty_field_94_3 : fieldTy Tryz.prog 94 3 = some (3, 1, 92) := by kernel_rfl
@[go_sem] theorem ty_places_94 : placesTy Tryz.prog 94 = some [(0, 1), (1, 1), (2, 1), (3, 1)] := by kernel_rfl
@[go_sem] theorem ty_str_95 : strTy Tryz.prog 95 = false := by kernel_rfl
@[go_sem] theorem ty_bool_95 : boolTy Tryz.prog 95 = false := by kernel_rfl
@[go_sem] theorem ty_int_95 : intTy Tryz.prog 95 = none := by kernel_rfl
@[go_sem] theorem ty_slice_95 : sliceTy Tryz.prog 95 = none := by kernel_rfl
@[go_sem] theorem ty_agg_95 : aggTy Tryz.prog 95 = some true := by kernel_rfl
@[go_sem] theorem ty_size_95 : sizeTy Tryz.prog 95 = some 7 := by kernel_rfl
@[go_sem] theorem ty_zero_95 : zeroTy Tryz.prog 95 = some [.lit (.string ⟨⟨[]⟩⟩), .lit (.int .i64 0), .lit (.int .i64 0), .lit (.int .i64 0), .lit (.int .i64 0), .lit (.int .i64 0), .lit (.int .i64 0)] := by kernel_rfl
@[go_sem] theorem ty_array_95 : arrayTy Tryz.prog 95 = none := by kernel_rfl
@[go_sem] theorem ty_field_95_0 : fieldTy Tryz.prog 95 0 = some (0, 1, 9) := by kernel_rfl
@[go_sem] theorem ty_field_95_1 : fieldTy Tryz.prog 95 1 = some (1, 1, 3) := by kernel_rfl
@[go_sem] theorem ty_field_95_2 : fieldTy Tryz.prog 95 2 = some (2, 1, 3) := by kernel_rfl
@[go_sem] theorem ty_field_95_3 : fieldTy Tryz.prog 95 3 = some (3, 1, 3) := by kernel_rfl
@[go_sem] theorem ty_field_95_4 : fieldTy Tryz.prog 95 4 = some (4, 1, 3) := by kernel_rfl
@[go_sem] theorem ty_field_95_5 : fieldTy Tryz.prog 95 5 = some (5, 1, 3) := by kernel_rfl
@[go_sem] theorem ty_field_95_6 : fieldTy Tryz.prog 95 6 = some (6, 1, 3) := by kernel_rfl
@[go_sem] theorem ty_places_95 : placesTy Tryz.prog 95 = some [(0, 1), (1, 1), (2, 1), (3, 1), (4, 1), (5, 1), (6, 1)] := by kernel_rfl
@[go_sem] theorem ty_str_96 : strTy Tryz.prog 96 = false := by kernel_rfl
@[go_sem] theorem ty_bool_96 : boolTy Tryz.prog 96 = false := by kernel_rfl
@[go_sem] theorem ty_int_96 : intTy Tryz.prog 96 = none := by kernel_rfl
@[go_sem] theorem ty_slice_96 : sliceTy Tryz.prog 96 = none := by kernel_rfl
@[go_sem] theorem ty_agg_96 : aggTy Tryz.prog 96 = some true := by kernel_rfl
@[go_sem] theorem ty_size_96 : sizeTy Tryz.prog 96 = some 7 := by kernel_rfl
@[go_sem] theorem ty_zero_96 : zeroTy Tryz.prog 96 = some [.lit (.string ⟨⟨[]⟩⟩), .lit (.int .i64 0), .lit (.int .i64 0), .lit (.int .i64 0), .lit (.int .i64 0), .lit (.int .i64 0), .lit (.int .i64 0)] := by kernel_rfl
@[go_sem] theorem ty_array_96 : arrayTy Tryz.prog 96 = none := by kernel_rfl
@[go_sem] theorem ty_field_96_0 : fieldTy Tryz.prog 96 0 = some (0, 1, 9) := by kernel_rfl
@[go_sem] theorem ty_field_96_1 : fieldTy Tryz.prog 96 1 = some (1, 1, 3) := by kernel_rfl
@[go_sem] theorem ty_field_96_2 : fieldTy Tryz.prog 96 2 = some (2, 1, 3) := by kernel_rfl
@[go_sem] theorem ty_field_96_3 : fieldTy Tryz.prog 96 3 = some (3, 1, 3) := by kernel_rfl
@[go_sem] theorem ty_field_96_4 : fieldTy Tryz.prog 96 4 = some (4, 1, 3) := by kernel_rfl
@[go_sem] theorem ty_field_96_5 : fieldTy Tryz.prog 96 5 = some (5, 1, 3) := by kernel_rfl
@[go_sem] theorem ty_field_96_6 : fieldTy Tryz.prog 96 6 = some (6, 1, 3) := by kernel_rfl
@[go_sem] theorem ty_places_96 : placesTy Tryz.prog 96 = some [(0, 1), (1, 1), (2, 1), (3, 1), (4, 1), (5, 1), (6, 1)] := by kernel_rfl
@[go_sem] theorem ty_plain_96 : plainTy Tryz.prog 96 = some [9, 3, 3, 3, 3, 3, 3] := by kernel_rfl
@[go_sem] theorem ty_slice_97 : sliceTy Tryz.prog 97 = none := by kernel_rfl
@[go_sem] theorem ty_str_100 : strTy Tryz.prog 100 = false := by kernel_rfl
@[go_sem] theorem ty_bool_100 : boolTy Tryz.prog 100 = false := by kernel_rfl
@[go_sem] theorem ty_int_100 : intTy Tryz.prog 100 = none := by kernel_rfl
@[go_sem] theorem ty_slice_100 : sliceTy Tryz.prog 100 = some (29, 2, 48) := by kernel_rfl
@[go_sem] theorem ty_agg_100 : aggTy Tryz.prog 100 = some false := by kernel_rfl
@[go_sem] theorem ty_size_100 : sizeTy Tryz.prog 100 = some 1 := by kernel_rfl
@[go_sem] theorem ty_zero_100 : zeroTy Tryz.prog 100 = some [.nils] := by kernel_rfl
@[go_sem] theorem ty_array_100 : arrayTy Tryz.prog 100 = none := by kernel_rfl
@[go_sem] theorem ty_str_101 : strTy Tryz.prog 101 = false := by kernel_rfl
@[go_sem] theorem ty_bool_101 : boolTy Tryz.prog 101 = false := by kernel_rfl
@[go_sem] theorem ty_int_101 : intTy Tryz.prog 101 = none := by kernel_rfl
@[go_sem] theorem ty_slice_101 : sliceTy Tryz.prog 101 = some (103, 1, 24) := by kernel_rfl
@[go_sem] theorem ty_agg_101 : aggTy Tryz.prog 101 = some false := by kernel_rfl
@[go_sem] theorem ty_size_101 : sizeTy Tryz.prog 101 = some 1 := by kernel_rfl
@[go_sem] theorem ty_zero_101 : zeroTy Tryz.prog 101 = some [.nils] := by kernel_rfl
@[go_sem] theorem ty_array_101 : arrayTy Tryz.prog 101 = none := by kernel_rfl
@[go_sem] theorem ty_str_103 : strTy Tryz.prog 103 = false := by kernel_rfl
@[go_sem] theorem ty_bool_103 : boolTy Tryz.prog 103 = false := by kernel_rfl
@[go_sem] theorem ty_int_103 : intTy Tryz.prog 103 = none := by kernel_rfl
@[go_sem] theorem ty_slice_103 : sliceTy Tryz.prog 103 = some (4, 1, 1) := by kernel_rfl
@[go_sem] theorem ty_agg_103 : aggTy Tryz.prog 103 = some false := by kernel_rfl
@[go_sem] theorem ty_size_103 : sizeTy Tryz.prog 103 = some 1 := by kernel_rfl
@[go_sem] theorem ty_zero_103 : zeroTy Tryz.prog 103 = some [.nils] := by kernel_rfl
@[go_sem] theorem ty_array_103 : arrayTy Tryz.prog 103 = none := by kernel_rfl
@[go_sem] theorem ty_slice_104 : sliceTy Tryz.prog 104 = none := by kernel_rfl
@[go_sem] theorem ty_str_106 : strTy Tryz.prog 106 = false := by kernel_rfl
@[go_sem] theorem ty_bool_106 : boolTy Tryz.prog 106 = false := by kernel_rfl
@[go_sem] theorem ty_int_106 : intTy Tryz.prog 106 = none := by kernel_rfl
@[go_sem] theorem ty_slice_106 : sliceTy Tryz.prog 106 = none := by kernel_rfl
@[go_sem] theorem ty_agg_106 : aggTy Tryz.prog 106 = some false := by kernel_rfl
@[go_sem] theorem ty_size_106 : sizeTy Tryz.prog 106 = some 1 := by kernel_rfl
@[go_sem] theorem ty_zero_106 : zeroTy Tryz.prog 106 = some [.lit (.pointer none)] := by kernel_rfl
@[go_sem] theorem ty_array_106 : arrayTy Tryz.prog 106 = none := by kernel_rfl
@[go_sem] theorem ty_str_107 : strTy Tryz.prog 107 = false := by kernel_rfl
@[go_sem] theorem ty_bool_107 : boolTy Tryz.prog 107 = false := by kernel_rfl
@[go_sem] theorem ty_int_107 : intTy Tryz.prog 107 = none := by kernel_rfl
@[go_sem] theorem ty_slice_107 : sliceTy Tryz.prog 107 = none := by kernel_rfl
@[go_sem] theorem ty_agg_107 : aggTy Tryz.prog 107 = some true := by kernel_rfl
@[go_sem] theorem ty_size_107 : sizeTy Tryz.prog 107 = some 12 := by kernel_rfl
@[go_sem] theorem ty_zero_107 : zeroTy Tryz.prog 107 = some [.nils, .nils, .nils, .nils, .nils, .nils, .nils, .lit (.bool false), .lit (.int .i64 0), .nils, .nils, .nils] := by kernel_rfl
@[go_sem] theorem ty_array_107 : arrayTy Tryz.prog 107 = none := by kernel_rfl
@[go_sem] theorem ty_field_107_0 : fieldTy Tryz.prog 107 0 = some (0, 2, 29) := by kernel_rfl
@[go_sem] theorem ty_field_107_1 : fieldTy Tryz.prog 107 1 = some (2, 2, 29) := by kernel_rfl
@[go_sem] theorem ty_field_107_2 : fieldTy Tryz.prog 107 2 = some (4, 1, 101) := by kernel_rfl
@[go_sem] theorem ty_field_107_3 : fieldTy Tryz.prog 107 3 = some (5, 2, 33) := by kernel_rfl
@[go_sem] theorem ty_field_107_4 : fieldTy Tryz.prog 107 4 = some (7, 1, 4) := by kernel_rfl
@[go_sem] theorem ty_field_107_5 : fieldTy Tryz.prog 107 5 = some (8, 1, 3) := by kernel_rfl
@[go_sem] theorem ty_field_107_6 : fieldTy Tryz.prog 107 6 = some (9, 1, 26) := by kernel_rfl
@[go_sem] theorem ty_field_107_7 : fieldTy Tryz.prog 107 7 = some (10, 1, 26) := by kernel_rfl
@[go_sem] theorem ty_field_107_8 : fieldTy Tryz.prog 107 8 = some (11, 1, 46) := by kernel_rfl
@[go_sem] theorem ty_places_107 : placesTy Tryz.prog 107 = some [(0, 2), (2, 2), (4, 1), (5, 2), (7, 1), (8, 1), (9, 1), (10, 1), (11, 1)] := by kernel_rfl
@[go_sem] theorem ty_str_108 : strTy Tryz.prog 108 = false := by kernel_rfl
@[go_sem] theorem ty_bool_108 : boolTy Tryz.prog 108 = false := by kernel_rfl
@[go_sem] theorem ty_int_108 : intTy Tryz.prog 108 = none := by kernel_rfl
@[go_sem] theorem ty_slice_108 : sliceTy Tryz.prog 108 = none := by kernel_rfl
@[go_sem] theorem ty_agg_108 : aggTy Tryz.prog 108 = some true := by kernel_rfl
@[go_sem] theorem ty_size_108 : sizeTy Tryz.prog 108 = some 12 := by kernel_rfl
@[go_sem] theorem ty_zero_108 : zeroTy Tryz.prog 108 = some [.nils, .nils, .nils, .nils, .nils, .nils, .nils, .lit (.bool false), .lit (.int .i64 0), .nils, .nils, .nils] := by kernel_rfl
@[go_sem] theorem ty_array_108 : arrayTy Tryz.prog 108 = none := by kernel_rfl
@[go_sem] theorem ty_field_108_0 : fieldTy Tryz.prog 108 0 = some (0, 2, 29) := by kernel_rfl
@[go_sem] theorem ty_field_108_1 : fieldTy Tryz.prog 108 1 = some (2, 2, 29) := by kernel_rfl
@[go_sem] theorem ty_field_108_2 : fieldTy Tryz.prog 108 2 = some (4, 1, 101) := by kernel_rfl
@[go_sem] theorem ty_field_108_3 : fieldTy Tryz.prog 108 3 = some (5, 2, 33) := by kernel_rfl
@[go_sem] theorem ty_field_108_4 : fieldTy Tryz.prog 108 4 = some (7, 1, 4) := by kernel_rfl
@[go_sem] theorem ty_field_108_5 : fieldTy Tryz.prog 108 5 = some (8, 1, 3) := by kernel_rfl
@[go_sem] theorem ty_field_108_6 : fieldTy Tryz.prog 108 6 = some (9, 1, 26) := by kernel_rfl
@[go_sem] theorem ty_field_108_7 : fieldTy Tryz.prog 108 7 = some (10, 1, 26) := by kernel_rfl
@[go_sem] theorem ty_field_108_8 : fieldTy Tryz.prog 108 8 = some (11, 1, 46) := by kernel_rfl
@[go_sem] theorem ty_places_108 : placesTy Tryz.prog 108 = some [(0, 2), (2, 2), (4, 1), (5, 2), (7, 1), (8, 1), (9, 1), (10, 1), (11, 1)] := by kernel_rfl
@[go_sem] theorem ty_str_109 : strTy Tryz.prog 109 = false := by kernel_rfl
@[go_sem] theorem ty_bool_109 : boolTy Tryz.prog 109 = false := by kernel_rfl
@[go_sem] theorem ty_int_109 : intTy Tryz.prog 109 = none := by kernel_rfl
@[go_sem] theorem ty_slice_109 : sliceTy Tryz.prog 109 = none := by kernel_rfl
@[go_sem] theorem ty_agg_109 : aggTy Tryz.prog 109 = some false := by kernel_rfl
@[go_sem] theorem ty_size_109 : sizeTy Tryz.prog 109 = some 1 := by kernel_rfl
@[go_sem] theorem ty_zero_109 : zeroTy Tryz.prog 109 = some [.lit (.pointer none)] := by kernel_rfl
@[go_sem] theorem ty_array_109 : arrayTy Tryz.prog 109 = none := by kernel_rfl
@[go_sem] theorem ty_str_110 : strTy Tryz.prog 110 = false := by kernel_rfl
@[go_sem] theorem ty_bool_110 : boolTy Tryz.prog 110 = false := by kernel_rfl
@[go_sem] theorem ty_int_110 : intTy Tryz.prog 110 = none := by kernel_rfl
@[go_sem] theorem ty_slice_110 : sliceTy Tryz.prog 110 = none := by kernel_rfl
@[go_sem] theorem ty_agg_110 : aggTy Tryz.prog 110 = some true := by kernel_rfl
@[go_sem] theorem ty_size_110 : sizeTy Tryz.prog 110 = some 11 := by kernel_rfl
@[go_sem] theorem ty_zero_110 : zeroTy Tryz.prog 110 = some [.nils, .nils, .nils, .nils, .nils, .nils, .nils, .nils, .lit (.bool false), .lit (.int .i64 0), .nils] := by kernel_rfl
@[go_sem] theorem ty_array_110 : arrayTy Tryz.prog 110 = none := by kernel_rfl
@[go_sem] theorem ty_field_110_0 : fieldTy Tryz.prog 110 0 = some (0, 2, 25) := by kernel_rfl
@[go_sem] theorem ty_field_110_1 : fieldTy Tryz.prog 110 1 = some (2, 2, 29) := by kernel_rfl
@[go_sem] theorem ty_field_110_2 : fieldTy Tryz.prog 110 2 = some (4, 2, 29) := by kernel_rfl
@[go_sem] theorem ty_field_110_3 : fieldTy Tryz.prog 110 3 = some (6, 2, 33) := by kernel_rfl
@[go_sem] theorem ty_field_110_4 : fieldTy Tryz.prog 110 4 = some (8, 1, 4) := by kernel_rfl
@[go_sem] theorem ty_field_110_5 : fieldTy Tryz.prog 110 5 = some (9, 1, 3) := by kernel_rfl
@[go_sem] theorem ty_field_110_6 : fieldTy Tryz.prog 110 6 = some (10, 1, 46) := by kernel_rfl
@[go_sem] theorem ty_places_110 : placesTy Tryz.prog 110 = some [(0, 2), (2, 2), (4, 2), (6, 2), (8, 1), (9, 1), (10, 1)] := by kernel_rfl
@[go_sem] theorem ty_str_111 : strTy Tryz.prog 111 = false := by kernel_rfl
@[go_sem] theorem ty_bool_111 : boolTy Tryz.prog 111 = false := by kernel_rfl
@[go_sem] theorem ty_int_111 : intTy Tryz.prog 111 = none := by kernel_rfl
@[go_sem] theorem ty_slice_111 : sliceTy Tryz.prog 111 = none := by kernel_rfl
@[go_sem] theorem ty_agg_111 : aggTy Tryz.prog 111 = some true := by kernel_rfl
@[go_sem] theorem ty_size_111 : sizeTy Tryz.prog 111 = some 11 := by kernel_rfl
@[go_sem] theorem ty_zero_111 : zeroTy Tryz.prog 111 = some [.nils, .nils, .nils, .nils, .nils, .nils, .nils, .nils, .lit (.bool false), .lit (.int .i64 0), .nils] := by kernel_rfl
@[go_sem] theorem ty_array_111 : arrayTy Tryz.prog 111 = none := by kernel_rfl
@[go_sem] theorem ty_field_111_0 : fieldTy Tryz.prog 111 0 = some (0, 2, 25) := by kernel_rfl
@[go_sem] theorem ty_field_111_1 : fieldTy Tryz.prog 111 1 = some (2, 2, 29) := by kernel_rfl
@[go_sem] theorem ty_field_111_2 : fieldTy Tryz.prog 111 2 = some (4, 2, 29) := by kernel_rfl
@[go_sem] theorem ty_field_111_3 : fieldTy Tryz.prog 111 3 = some (6, 2, 33) := by kernel_rfl
@[go_sem] theorem ty_field_111_4 : fieldTy Tryz.prog 111 4 = some (8, 1, 4) := by kernel_rfl
@[go_sem] theorem ty_field_111_5 : fieldTy Tryz.prog 111 5 = some (9, 1, 3) := by kernel_rfl
@[go_sem] theorem ty_field_111_6 : fieldTy Tryz.prog 111 6 = some (10, 1, 46) := by kernel_rfl
@[go_sem] theorem ty_places_111 : placesTy Tryz.prog 111 = some [(0, 2), (2, 2), (4, 2), (6, 2), (8, 1), (9, 1), (10, 1)] := by kernel_rfl
@[go_sem] theorem ty_slice_116 : sliceTy Tryz.prog 116 = none := by kernel_rfl
@[go_sem] theorem ty_slice_117 : sliceTy Tryz.prog 117 = none := by kernel_rfl
@[go_sem] theorem ty_str_120 : strTy Tryz.prog 120 = false := by kernel_rfl
@[go_sem] theorem ty_bool_120 : boolTy Tryz.prog 120 = false := by kernel_rfl
@[go_sem] theorem ty_int_120 : intTy Tryz.prog 120 = none := by kernel_rfl
@[go_sem] theorem ty_slice_120 : sliceTy Tryz.prog 120 = none := by kernel_rfl
@[go_sem] theorem ty_agg_120 : aggTy Tryz.prog 120 = some true := by kernel_rfl
@[go_sem] theorem ty_size_120 : sizeTy Tryz.prog 120 = some 2 := by kernel_rfl
@[go_sem] theorem ty_zero_120 : zeroTy Tryz.prog 120 = some [.lit (.int .u8 0), .lit (.int .u8 0)] := by kernel_rfl
@[go_sem] theorem ty_array_120 : arrayTy Tryz.prog 120 = some (2, 5, 1) := by kernel_rfl
@[go_sem] theorem ty_places_120 : placesTy Tryz.prog 120 = some [(0, 1), (1, 1)] := by kernel_rfl
@[go_sem] theorem ty_str_121 : strTy Tryz.prog 121 = false := by kernel_rfl
@[go_sem] theorem ty_bool_121 : boolTy Tryz.prog 121 = false := by kernel_rfl
@[go_sem] theorem ty_int_121 : intTy Tryz.prog 121 = none := by kernel_rfl
@[go_sem] theorem ty_slice_121 : sliceTy Tryz.prog 121 = none := by kernel_rfl
@[go_sem] theorem ty_agg_121 : aggTy Tryz.prog 121 = some true := by kernel_rfl
@[go_sem] theorem ty_size_121 : sizeTy Tryz.prog 121 = some 3 := by kernel_rfl
@[go_sem] theorem ty_zero_121 : zeroTy Tryz.prog 121 = some [.lit (.int .u8 0), .lit (.int .u8 0), .lit (.int .u8 0)] := by kernel_rfl
@[go_sem] theorem ty_array_121 : arrayTy Tryz.prog 121 = some (3, 5, 1) := by kernel_rfl
@[go_sem] theorem ty_places_121 : placesTy Tryz.prog 121 = some [(0, 1), (1, 1), (2, 1)] := by kernel_rfl
@[go_sem] theorem ty_slice_126 : sliceTy Tryz.prog 126 = none := by kernel_rfl
@[go_sem] theorem ty_slice_127 : sliceTy Tryz.prog 127 = none := by kernel_rfl
@[go_sem] theorem ty_slice_138 : sliceTy Tryz.prog 138 = none := by kernel_rfl
@[go_sem] theorem ty_slice_141 : sliceTy Tryz.prog 141 = none := by kernel_rfl
@[go_sem] theorem ty_str_147 : strTy Tryz.prog 147 = false := by kernel_rfl
@[go_sem] theorem ty_bool_147 : boolTy Tryz.prog 147 = false := by kernel_rfl
@[go_sem] theorem ty_int_147 : intTy Tryz.prog 147 = some .u64 := by kernel_rfl
@[go_sem] theorem ty_slice_147 : sliceTy Tryz.prog 147 = none := by kernel_rfl
@[go_sem] theorem ty_agg_147 : aggTy Tryz.prog 147 = some false := by kernel_rfl
@[go_sem] theorem ty_size_147 : sizeTy Tryz.prog 147 = some 1 := by kernel_rfl
@[go_sem] theorem ty_zero_147 : zeroTy Tryz.prog 147 = some [.lit (.int .u64 0)] := by kernel_rfl
@[go_sem] theorem ty_array_147 : arrayTy Tryz.prog 147 = none := by kernel_rfl
@[go_sem] theorem ty_str_149 : strTy Tryz.prog 149 = false := by kernel_rfl
@[go_sem] theorem ty_bool_149 : boolTy Tryz.prog 149 = false := by kernel_rfl
@[go_sem] theorem ty_int_149 : intTy Tryz.prog 149 = none := by kernel_rfl
@[go_sem] theorem ty_slice_149 : sliceTy Tryz.prog 149 = none := by kernel_rfl
@[go_sem] theorem ty_agg_149 : aggTy Tryz.prog 149 = some true := by kernel_rfl
@[go_sem] theorem ty_size_149 : sizeTy Tryz.prog 149 = some 3 := by kernel_rfl
@[go_sem] theorem ty_zero_149 : zeroTy Tryz.prog 149 = some [.lit (.int .i64 0), .lit (.string ⟨⟨[]⟩⟩), .lit (.int .i64 0)] := by kernel_rfl
@[go_sem] theorem ty_array_149 : arrayTy Tryz.prog 149 = none := by kernel_rfl
@[go_sem] theorem ty_field_149_0 : fieldTy Tryz.prog 149 0 = some (0, 1, 3) := by kernel_rfl
@[go_sem] theorem ty_field_149_1 : fieldTy Tryz.prog 149 1 = some (1, 1, 9) := by kernel_rfl
@[go_sem] theorem ty_field_149_2 : fieldTy Tryz.prog 149 2 = some (2, 1, 3) := by kernel_rfl
@[go_sem] theorem ty_places_149 : placesTy Tryz.prog 149 = some [(0, 1), (1, 1), (2, 1)] := by kernel_rfl
@[go_sem] theorem ty_str_150 : strTy Tryz.prog 150 = false := by kernel_rfl
@[go_sem] theorem ty_bool_150 : boolTy Tryz.prog 150 = false := by kernel_rfl
@[go_sem] theorem ty_int_150 : intTy Tryz.prog 150 = none := by kernel_rfl
@[go_sem] theorem ty_slice_150 : sliceTy Tryz.prog 150 = none := by kernel_rfl
@[go_sem] theorem ty_agg_150 : aggTy Tryz.prog 150 = some true := by kernel_rfl
@[go_sem] theorem ty_size_150 : sizeTy Tryz.prog 150 = some 3 := by kernel_rfl
@[go_sem] theorem ty_zero_150 : zeroTy Tryz.prog 150 = some [.lit (.int .i64 0), .lit (.string ⟨⟨[]⟩⟩), .lit (.int .i64 0)] := by kernel_rfl
@[go_sem] theorem ty_array_150 : arrayTy Tryz.prog 150 = none := by kernel_rfl
@[go_sem] theorem ty_field_150_0 : fieldTy Tryz.prog 150 0 = some (0, 1, 3) := by kernel_rfl
@[go_sem] theorem ty_field_150_1 : fieldTy Tryz.prog 150 1 = some (1, 1, 9) := by kernel_rfl
@[go_sem] theorem ty_field_150_2 : fieldTy Tryz.prog 150 2 = some (2, 1, 3) := by kernel_rfl
@[go_sem] theorem ty_places_150 : placesTy Tryz.prog 150 = some [(0, 1), (1, 1), (2, 1)] := by kernel_rfl
@[go_sem] theorem ty_plain_150 : plainTy Tryz.prog 150 = some [3, 9, 3] := by kernel_rfl
@[go_sem] theorem ty_slice_152 : sliceTy Tryz.prog 152 = none := by kernel_rfl
@[go_sem] theorem ty_slice_156 : sliceTy Tryz.prog 156 = none := by kernel_rfl
@[go_sem] theorem ty_str_160 : strTy Tryz.prog 160 = false := by kernel_rfl
@[go_sem] theorem ty_bool_160 : boolTy Tryz.prog 160 = false := by kernel_rfl
@[go_sem] theorem ty_int_160 : intTy Tryz.prog 160 = some .i64 := by kernel_rfl
@[go_sem] theorem ty_slice_160 : sliceTy Tryz.prog 160 = none := by kernel_rfl
@[go_sem] theorem ty_agg_160 : aggTy Tryz.prog 160 = some false := by kernel_rfl
@[go_sem] theorem ty_size_160 : sizeTy Tryz.prog 160 = some 1 := by kernel_rfl
@[go_sem] theorem ty_zero_160 : zeroTy Tryz.prog 160 = some [.lit (.int .i64 0)] := by kernel_rfl
@[go_sem] theorem ty_array_160 : arrayTy Tryz.prog 160 = none := by kernel_rfl
@[go_sem] theorem ty_slice_161 : sliceTy Tryz.prog 161 = none := by kernel_rfl
@[go_sem] theorem ty_slice_165 : sliceTy Tryz.prog 165 = none := by kernel_rfl
@[go_sem] theorem ty_str_168 : strTy Tryz.prog 168 = false := by kernel_rfl
@[go_sem] theorem ty_bool_168 : boolTy Tryz.prog 168 = false := by kernel_rfl
@[go_sem] theorem ty_int_168 : intTy Tryz.prog 168 = some .u32 := by kernel_rfl
@[go_sem] theorem ty_slice_168 : sliceTy Tryz.prog 168 = none := by kernel_rfl
@[go_sem] theorem ty_agg_168 : aggTy Tryz.prog 168 = some false := by kernel_rfl
@[go_sem] theorem ty_size_168 : sizeTy Tryz.prog 168 = some 1 := by kernel_rfl
@[go_sem] theorem ty_zero_168 : zeroTy Tryz.prog 168 = some [.lit (.int .u32 0)] := by kernel_rfl
@[go_sem] theorem ty_array_168 : arrayTy Tryz.prog 168 = none := by kernel_rfl
@[go_sem] theorem ty_str_170 : strTy Tryz.prog 170 = false := by kernel_rfl
@[go_sem] theorem ty_bool_170 : boolTy Tryz.prog 170 = false := by kernel_rfl
@[go_sem] theorem ty_int_170 : intTy Tryz.prog 170 = some .u64 := by kernel_rfl
@[go_sem] theorem ty_slice_170 : sliceTy Tryz.prog 170 = none := by kernel_rfl
@[go_sem] theorem ty_agg_170 : aggTy Tryz.prog 170 = some false := by kernel_rfl
@[go_sem] theorem ty_size_170 : sizeTy Tryz.prog 170 = some 1 := by kernel_rfl
@[go_sem] theorem ty_zero_170 : zeroTy Tryz.prog 170 = some [.lit (.int .u64 0)] := by kernel_rfl
@[go_sem] theorem ty_array_170 : arrayTy Tryz.prog 170 = none := by kernel_rfl
@[go_sem] theorem ty_slice_172 : sliceTy Tryz.prog 172 = none := by kernel_rfl
@[go_sem] theorem ty_slice_174 : sliceTy Tryz.prog 174 = none := by kernel_rfl
@[go_sem] theorem ty_str_178 : strTy Tryz.prog 178 = false := by kernel_rfl
@[go_sem] theorem ty_bool_178 : boolTy Tryz.prog 178 = false := by kernel_rfl
@[go_sem] theorem ty_int_178 : intTy Tryz.prog 178 = some .u64 := by kernel_rfl
@[go_sem] theorem ty_slice_178 : sliceTy Tryz.prog 178 = none := by kernel_rfl
@[go_sem] theorem ty_agg_178 : aggTy Tryz.prog 178 = some false := by kernel_rfl
@[go_sem] theorem ty_size_178 : sizeTy Tryz.prog 178 = some 1 := by kernel_rfl
@[go_sem] theorem ty_zero_178 : zeroTy Tryz.prog 178 = some [.lit (.int .u64 0)] := by kernel_rfl
@[go_sem] theorem ty_array_178 : arrayTy Tryz.prog 178 = none := by kernel_rfl
@[go_sem] theorem ty_str_182 : strTy Tryz.prog 182 = false := by kernel_rfl
@[go_sem] theorem ty_bool_182 : boolTy Tryz.prog 182 = false := by kernel_rfl
@[go_sem] theorem ty_int_182 : intTy Tryz.prog 182 = none := by kernel_rfl
@[go_sem] theorem ty_slice_182 : sliceTy Tryz.prog 182 = none := by kernel_rfl
@[go_sem] theorem ty_agg_182 : aggTy Tryz.prog 182 = some false := by kernel_rfl
@[go_sem] theorem ty_size_182 : sizeTy Tryz.prog 182 = some 1 := by kernel_rfl
@[go_sem] theorem ty_zero_182 : zeroTy Tryz.prog 182 = some [.lit (.pointer none)] := by kernel_rfl
@[go_sem] theorem ty_array_182 : arrayTy Tryz.prog 182 = none := by kernel_rfl
@[go_sem] theorem ty_slice_184 : sliceTy Tryz.prog 184 = none := by kernel_rfl
@[go_sem] theorem ty_str_192 : strTy Tryz.prog 192 = false := by kernel_rfl
@[go_sem] theorem ty_bool_192 : boolTy Tryz.prog 192 = false := by kernel_rfl
@[go_sem] theorem ty_int_192 : intTy Tryz.prog 192 = none := by kernel_rfl
@[go_sem] theorem ty_slice_192 : sliceTy Tryz.prog 192 = none := by kernel_rfl
@[go_sem] theorem ty_agg_192 : aggTy Tryz.prog 192 = some false := by kernel_rfl
@[go_sem] theorem ty_size_192 : sizeTy Tryz.prog 192 = some 1 := by kernel_rfl
@[go_sem] theorem ty_zero_192 : zeroTy Tryz.prog 192 = some [.lit (.pointer none)] := by kernel_rfl
@[go_sem] theorem ty_array_192 : arrayTy Tryz.prog 192 = none := by kernel_rfl
@[go_sem] theorem ty_slice_193 : sliceTy Tryz.prog 193 = none := by kernel_rfl
end Go.Proofs.YtdacgjleiloooaaGreat
