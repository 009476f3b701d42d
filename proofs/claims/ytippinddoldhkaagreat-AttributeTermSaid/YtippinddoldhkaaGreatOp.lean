/-
  The laws' argument types, opened to data, by a program of ours (fr2.py).
-/
import Derived.Test.YtippinddoldhkaaGreatB5
import Derived.Test.YtippinddoldhkaaGreatGT
set_option linter.unusedSimpArgs false
set_option linter.unusedVariables false
namespace Go.Proofs.YtippinddoldhkaaGreat
open Go Go.Ew Go.Proofs Go.RowKit
def wf_GTerm (x : GTerm) : Prop := ((Lit.int .i64 x.var).wf = true) ∧ ((Lit.int .i64 x.add).wf = true) ∧ True
theorem op_GTerm : Opens Tryz.prog 23 GTermC wf_GTerm (fun _ => 0) := (opens_struct Tryz.underlying23 (by kernel_rfl) (opensFs_cons (sz := 1) rfl (by kernel_rfl) (opens_int Tryz.underlying3) (opensFs_cons (sz := 1) rfl (by kernel_rfl) (opens_int Tryz.underlying3) (opensFs_nil _)))).map fun a ha => ⟨⟨a.1, a.2.1⟩, ha, by first | rfl | (simp [GTermC, fm_map, boolsA, boolssA, intsA, e3sA, strsA, attrsA, nodesA, edgesA, morphsA, sl_GMatch, sl_GSlot, sl_GTest, sl_GUse, sl_Gdifference_arc, sl_Int_i32, sl_List_Int]; done) | (simp [GTermC, fm_map, boolsA, boolssA, intsA, e3sA, strsA, attrsA, nodesA, edgesA, morphsA, sl_GMatch, sl_GSlot, sl_GTest, sl_GUse, sl_Gdifference_arc, sl_Int_i32, sl_List_Int]; rfl), Nat.zero_le _⟩
end Go.Proofs.YtippinddoldhkaaGreat
