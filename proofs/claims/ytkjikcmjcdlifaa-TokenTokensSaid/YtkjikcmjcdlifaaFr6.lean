/-
  The frame of the statement TokenTokens: the given row, out of the walk of the law. Conditions: none.
-/
import Derived.Test.YtkjikcmjcdlifaaEwM
import Derived.Test.YtkjikcmjcdlifaaRows
import Derived.WalkKit
import Derived.ProofKit
namespace Go.Proofs.Ytkjikcmjcdlifaa
open Go Go.Ew Go.ChangeShapes Go.WideShapes Go.ChangeAt Go.RowKit
theorem ownTokenTokens : ownKnob Try.prog.godebug = none := by kernel_rfl
def WalkTokenTokens : Prop := ∀ (a0 : List UInt8), (a0.length ≤ maxLen) → PureA Try.prog 6 [.str a0] (.bool true)
set_option maxRecDepth 100000 in
theorem tokenTokens_lifted (walk : WalkTokenTokens) (os : Os) (started : os.Started) (H : Type) (enc : TypeId × Value → H) :
    ReturnsInHanded {} Try.checked os 6 .any (Rows.tokenTokensSpec.pre6 enc Try.prog Try.f6 Rows.tokenTokensRow.domain false) (Rows.tokenTokensSpec.post enc Try.prog Try.f6 false true false false) := by
  refine returnsInHanded_of_change (C := Try.checked) ownTokenTokens started (by kernel_rfl) Try.func6
    (ChangeSpec.witness6 (enc := enc) (C := Try.checked) false ⟨#[], #[.string .empty], []⟩ 8 (by kernel_rfl) (by kernel_rfl) (by kernel_rfl) (by kernel_rfl)) ?_
  intro W base args ds gs before hval0 hW _ _
  have hval : ∀ (j : Nat) t v, Try.f6.params[j]? = some t → args[j]? = some v → Value.okWide Try.prog W .any base t v := hval0
  have hW0 := hW
  obtain ⟨p, q, hA, hV, _⟩ := hW
  rw [Try.params6] at hA hval
  obtain ⟨v0, vs0, d0, ds0, p0, q0, hargs, rfl, _, h0, r0⟩ := trodAll_cons hA
  obtain ⟨rfl, rfl, _⟩ := trodAll_nil r0
  obtain rfl : args = #[v0] := by cases args; simp_all
  obtain ⟨a0, w0, e0, z0⟩ := Opens.arg (f := fun x => .str x) (opens_string Try.underlying9) (by kernel_rfl) (hval 0 9 v0 rfl rfl) h0
  refine (calls_of_law (vs := [v0]) ((walk a0 w0 Mem.empty).mono fun x _ hx => hx.1) (rvL_cons e0 (rvL_nil))).mono fun e W' ⟨he, hb⟩ => ?_
  subst he
  exact ⟨_, rfl, post_law 8 hW0 rfl (by kernel_rfl) (by kernel_rfl) Try.underlying4 rfl rfl hb⟩

theorem tokenTokens_of (walk : WalkTokenTokens) : Rows.tokenTokensRow.holds Try.pinned (OpenSpec.ofChange Rows.tokenTokensSpec) :=
  OpenClaim.holds_of_wide 6 Try.f6 rfl rfl rfl rfl rfl rfl rfl ⟨rfl, rfl, rfl, rfl, rfl⟩ rfl rfl rfl rfl rfl (by kernel_rfl) Try.func6 (by kernel_rfl)
    (of_decide_eq_true (by kernel_rfl)) (by unfold Func.isWrapper; first | (rw [if_pos (by decide +kernel)]; kernel_rfl) | (rw [if_neg (by decide +kernel)]; exact ⟨rfl, rfl⟩))
    (fun os started H enc _ => tokenTokens_lifted walk os started H enc)
end Go.Proofs.Ytkjikcmjcdlifaa
