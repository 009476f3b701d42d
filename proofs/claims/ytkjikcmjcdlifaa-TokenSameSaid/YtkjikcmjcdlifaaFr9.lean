/-
  The frame of the statement TokenSame: the given row, out of the walk of the law. Conditions: none.
-/
import Derived.Test.YtkjikcmjcdlifaaT23
import Derived.Test.YtkjikcmjcdlifaaRows
import Derived.WalkKit
import Derived.ProofKit
namespace Go.Proofs.Ytkjikcmjcdlifaa
open Go Go.Ew Go.ChangeShapes Go.WideShapes Go.ChangeAt Go.RowKit
theorem ownTokenSame : ownKnob Try.prog.godebug = none := by kernel_rfl
def WalkTokenSame : Prop := ∀ (a0 : List Tk) (a1 : List Tk), (a0.length ≤ maxLen ∧ ∀ t ∈ a0, wfTk t) → (a1.length ≤ maxLen ∧ ∀ t ∈ a1, wfTk t) → PureA Try.prog 9 [.imm (a0 : List Tk).length (tksC a0), .imm (a1 : List Tk).length (tksC a1)] (.bool true)
set_option maxRecDepth 100000 in
theorem tokenSame_lifted (walk : WalkTokenSame) (os : Os) (started : os.Started) (H : Type) (enc : TypeId × Value → H) :
    ReturnsInHanded {} Try.checked os 9 .any (Rows.tokenSameSpec.pre6 enc Try.prog Try.f9 Rows.tokenSameRow.domain false) (Rows.tokenSameSpec.post enc Try.prog Try.f9 false true false false) := by
  refine returnsInHanded_of_change (C := Try.checked) ownTokenSame started (by kernel_rfl) Try.func9
    (ChangeSpec.witness6 (enc := enc) (C := Try.checked) false ⟨#[], #[.slice none 0 0, .slice none 0 0], []⟩ 8 (by kernel_rfl) (by kernel_rfl) (by kernel_rfl) (by kernel_rfl)) ?_
  intro W base args ds gs before hval0 hW _ _
  have hval : ∀ (j : Nat) t v, Try.f9.params[j]? = some t → args[j]? = some v → Value.okWide Try.prog W .any base t v := hval0
  have hW0 := hW
  obtain ⟨p, q, hA, hV, _⟩ := hW
  rw [Try.params9] at hA hval
  obtain ⟨v0, vs0, d0, ds0, p0, q0, hargs, rfl, _, h0, r0⟩ := trodAll_cons hA
  obtain ⟨v1, vs1, d1, ds1, p1, q1, rfl, rfl, _, h1, r1⟩ := trodAll_cons r0
  obtain ⟨rfl, rfl, _⟩ := trodAll_nil r1
  obtain rfl : args = #[v0, v1] := by cases args; simp_all
  obtain ⟨a0, w0, e0, z0⟩ := Opens.arg (f := fun x => .imm (x : List Tk).length (tksC x)) (opens_tokens) (by kernel_rfl) (hval 0 36 v0 rfl rfl) h0
  obtain ⟨a1, w1, e1, z1⟩ := Opens.arg (f := fun x => .imm (x : List Tk).length (tksC x)) (opens_tokens) (by kernel_rfl) (hval 1 36 v1 rfl rfl) h1
  refine (calls_of_law (vs := [v0, v1]) ((walk a0 a1 w0 w1 Mem.empty).mono fun x _ hx => hx.1) (rvL_cons e0 (rvL_cons e1 (rvL_nil)))).mono fun e W' ⟨he, hb⟩ => ?_
  subst he
  exact ⟨_, rfl, post_law 8 hW0 rfl (by kernel_rfl) (by kernel_rfl) Try.underlying4 rfl rfl hb⟩

theorem tokenSame_of (walk : WalkTokenSame) : Rows.tokenSameRow.holds Try.pinned (OpenSpec.ofChange Rows.tokenSameSpec) :=
  OpenClaim.holds_of_wide 9 Try.f9 rfl rfl rfl rfl rfl rfl rfl ⟨rfl, rfl, rfl, rfl, rfl⟩ rfl rfl rfl rfl rfl (by kernel_rfl) Try.func9 (by kernel_rfl)
    (of_decide_eq_true (by kernel_rfl)) (by unfold Func.isWrapper; first | (rw [if_pos (by decide +kernel)]; kernel_rfl) | (rw [if_neg (by decide +kernel)]; exact ⟨rfl, rfl⟩))
    (fun os started H enc _ => tokenSame_lifted walk os started H enc)
end Go.Proofs.Ytkjikcmjcdlifaa
