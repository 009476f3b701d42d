/-
  The frame of the statement AttributeTerm: the given row, out of the walk of the law. Conditions: none.
-/
import Derived.Test.YtippinddoldhkaaGreatB5
import Derived.Test.YtippinddoldhkaaGreatOp
import Derived.Test.YtippinddoldhkaaGreatRows
import Derived.WalkKit
import Derived.ProofKit
set_option linter.unusedSimpArgs false
set_option linter.unusedVariables false
namespace Go.Proofs.YtippinddoldhkaaGreat
open Go Go.Ew Go.ChangeShapes Go.WideShapes Go.ChangeAt Go.RowKit
theorem ownAttributeTerm : ownKnob Tryz.prog.godebug = none := by kernel_rfl
def WalkAttributeTerm : Prop := ∀ (a0 : GTerm) (a1 : List Int), (wf_GTerm a0) → (a1.length * 4 ≤ reachBytes ∧ ∀ a ∈ a1, (Lit.int .i32 a).wf = true) → PureA Tryz.prog 3 [.agg (GTermC a0), .imm (a1 : List Int).length (a1.flatMap (fun n => [(fun n => AV.lit (.int .i32 n)) n]))] (.bool true)
set_option maxRecDepth 100000 in
theorem attributeTerm_lifted (walk : WalkAttributeTerm) (os : Os) (started : os.Started) (H : Type) (enc : TypeId × Value → H) :
  ReturnsInHanded {} Tryz.checked os 3 .any (Rows.attributeTermSpec.pre6 enc Tryz.prog Tryz.f3 Rows.attributeTermRow.domain false) (Rows.attributeTermSpec.post enc Tryz.prog Tryz.f3 false true false false) := by
 refine returnsInHanded_of_change_sized (C := Tryz.checked) ownAttributeTerm started (by kernel_rfl) Tryz.func3
  (ChangeSpec.witness6 (enc := enc) (C := Tryz.checked) false ⟨#[], #[.agg #[.int .i64 0, .int .i64 0], .slice none 0 0], []⟩ 8 (by kernel_rfl) (by kernel_rfl) (by kernel_rfl) (by kernel_rfl)) ?_
 intro W base args ds gs before hval0 hW _ hz _
 have hval : ∀ (j : Nat) t v, Tryz.f3.params[j]? = some t → args[j]? = some v → Value.okWide Tryz.prog W .any base t v := hval0
 have hW0 := hW
 obtain ⟨p, q, hA, hV, _⟩ := hW
 rw [Tryz.params3] at hA hval
 obtain ⟨v0, vs0, d0, ds0, p0, q0, hargs, rfl, _, h0, r0⟩ := trodAll_cons hA
 obtain ⟨v1, vs1, d1, ds1, p1, q1, rfl, rfl, _, h1, r1⟩ := trodAll_cons r0
 obtain ⟨rfl, rfl, _⟩ := trodAll_nil r1
 obtain rfl : args = #[v0, v1] := by cases args; simp_all
 obtain ⟨a0, w0, e0, z0⟩ := Opens.argS (f := fun x => (GTermC x)) op_GTerm Tryz.underlying23 (hval 0 23 v0 rfl rfl) h0 (fun n hn => by have := List.all_eq_true.1 hz n (DataW.weights_mem_each (j := 0) rfl rfl n hn); simpa using this)
 obtain ⟨a1, w1, e1, z1⟩ := Opens.arg (f := fun x => .imm (x : List Int).length (x.flatMap (fun n => [(fun n => AV.lit (.int .i32 n)) n]))) ((opens_slice (sz := 1) (B := 4) Tryz.underlying24 (by kernel_rfl) (by kernel_rfl) (by decide) (fun _ => rfl) (opens_int Tryz.underlying21))) (by kernel_rfl) (hval 1 24 v1 rfl rfl) h1 (fun n hn => by have := List.all_eq_true.1 hz n (DataW.weights_mem_each (j := 1) rfl rfl n hn); simpa using this)
 refine (calls_of_law (vs := [v0, v1]) ((walk a0 a1 w0 w1 Mem.empty).mono fun x _ hx => hx.1) (rvL_cons e0 (rvL_cons e1 (rvL_nil)))).mono fun e W' ⟨he, hb⟩ => ?_
 subst he
 exact ⟨_, rfl, post_law 8 hW0 rfl (by kernel_rfl) (by kernel_rfl) Tryz.underlying4 rfl rfl hb⟩

theorem attributeTerm_of (walk : WalkAttributeTerm) : Rows.attributeTermRow.holds Tryz.pinned (OpenSpec.ofChange Rows.attributeTermSpec) :=
 OpenClaim.holds_of_wide 3 Tryz.f3 rfl rfl rfl rfl rfl rfl rfl ⟨rfl, rfl, rfl, rfl, rfl⟩ rfl rfl rfl rfl rfl (by kernel_rfl) Tryz.func3 (by kernel_rfl)
  (of_decide_eq_true (by kernel_rfl)) (by unfold Func.isWrapper; first | (rw [if_pos (by decide +kernel)]; kernel_rfl) | (rw [if_neg (by decide +kernel)]; exact ⟨rfl, rfl⟩))
  (fun os started H enc _ => attributeTerm_lifted walk os started H enc)
end Go.Proofs.YtippinddoldhkaaGreat
