/-
  The frame of the statement SearchAll: the given row, out of the walk of the law. Conditions: none.
-/
import Derived.Test.YtdacgjleiloooaaGreatB5
import Derived.Test.YtdacgjleiloooaaGreatOp
import Derived.Test.YtdacgjleiloooaaGreatRows
import Derived.WalkKit
import Derived.ProofKit
set_option linter.unusedSimpArgs false
set_option linter.unusedVariables false
namespace Go.Proofs.YtdacgjleiloooaaGreat
open Go Go.Ew Go.ChangeShapes Go.WideShapes Go.ChangeAt Go.RowKit
theorem ownSearchAll : ownKnob Tryz.prog.godebug = none := by kernel_rfl
def WalkSearchAll : Prop := ∀ (a0 : Gscarfjointlaw17_Case) (a1 : Bool), (wf_Gscarfjointlaw17_Case a0) → (True) → PureA Tryz.prog 8 [.agg (Gscarfjointlaw17_CaseC a0), .bool a1] (.bool true)
set_option maxRecDepth 100000 in
theorem searchAll_lifted (walk : WalkSearchAll) (os : Os) (started : os.Started) (H : Type) (enc : TypeId × Value → H) :
  ReturnsInHanded {} Tryz.checked os 8 .any (Rows.searchAllSpec.pre6 enc Tryz.prog Tryz.f8 Rows.searchAllRow.domain false) (Rows.searchAllSpec.post enc Tryz.prog Tryz.f8 false true false false) := by
 refine returnsInHanded_of_change_sized (C := Tryz.checked) ownSearchAll started (by kernel_rfl) Tryz.func8
  (ChangeSpec.witness6 (enc := enc) (C := Tryz.checked) false ⟨#[], #[.agg #[.slice none 0 0, .slice none 0 0, .slice none 0 0, .slice none 0 0, .slice none 0 0, .slice none 0 0], .bool false], []⟩ 8 (by kernel_rfl) (by kernel_rfl) (by kernel_rfl) (by kernel_rfl)) ?_
 intro W base args ds gs before hval0 hW _ hz _
 have hval : ∀ (j : Nat) t v, Tryz.f8.params[j]? = some t → args[j]? = some v → Value.okWide Tryz.prog W .any base t v := hval0
 have hW0 := hW
 obtain ⟨p, q, hA, hV, _⟩ := hW
 rw [Tryz.params8] at hA hval
 obtain ⟨v0, vs0, d0, ds0, p0, q0, hargs, rfl, _, h0, r0⟩ := trodAll_cons hA
 obtain ⟨v1, vs1, d1, ds1, p1, q1, rfl, rfl, _, h1, r1⟩ := trodAll_cons r0
 obtain ⟨rfl, rfl, _⟩ := trodAll_nil r1
 obtain rfl : args = #[v0, v1] := by cases args; simp_all
 obtain ⟨a0, w0, e0, z0⟩ := Opens.argS (f := fun x => (Gscarfjointlaw17_CaseC x)) op_Gscarfjointlaw17_Case Tryz.underlying31 (hval 0 31 v0 rfl rfl) h0 (fun n hn => by have := List.all_eq_true.1 hz n (DataW.weights_mem_each (j := 0) rfl rfl n hn); simpa using this)
 obtain ⟨a1, w1, e1, z1⟩ := Opens.arg (f := fun x => .bool x) ((opens_bool Tryz.underlying4)) (by kernel_rfl) (hval 1 4 v1 rfl rfl) h1 (fun n hn => by have := List.all_eq_true.1 hz n (DataW.weights_mem_each (j := 1) rfl rfl n hn); simpa using this)
 refine (calls_of_law (vs := [v0, v1]) ((walk a0 a1 w0 w1 Mem.empty).mono fun x _ hx => hx.1) (rvL_cons e0 (rvL_cons e1 (rvL_nil)))).mono fun e W' ⟨he, hb⟩ => ?_
 subst he
 exact ⟨_, rfl, post_law 8 hW0 rfl (by kernel_rfl) (by kernel_rfl) Tryz.underlying4 rfl rfl hb⟩

theorem searchAll_of (walk : WalkSearchAll) : Rows.searchAllRow.holds Tryz.pinned (OpenSpec.ofChange Rows.searchAllSpec) :=
 OpenClaim.holds_of_wide 8 Tryz.f8 rfl rfl rfl rfl rfl rfl rfl ⟨rfl, rfl, rfl, rfl, rfl⟩ rfl rfl rfl rfl rfl (by kernel_rfl) Tryz.func8 (by kernel_rfl)
  (of_decide_eq_true (by kernel_rfl)) (by unfold Func.isWrapper; first | (rw [if_pos (by decide +kernel)]; kernel_rfl) | (rw [if_neg (by decide +kernel)]; exact ⟨rfl, rfl⟩))
  (fun os started H enc _ => searchAll_lifted walk os started H enc)
end Go.Proofs.YtdacgjleiloooaaGreat
