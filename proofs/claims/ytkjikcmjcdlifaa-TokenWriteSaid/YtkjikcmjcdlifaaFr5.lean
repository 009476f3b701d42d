/-
  The frame of the statement TokenWrite: the given row, out of the walk of the law. Conditions: none.
-/
import Derived.Test.YtkjikcmjcdlifaaT23
import Derived.Test.YtkjikcmjcdlifaaRows
import Derived.WalkKit
import Derived.ProofKit
namespace Go.Proofs.Ytkjikcmjcdlifaa
open Go Go.Ew Go.ChangeShapes Go.WideShapes Go.ChangeAt Go.RowKit
theorem ownTokenWrite : ownKnob Try.prog.godebug = none := by kernel_rfl
def WalkTokenWrite : Prop := ∀ (a0 : List Tk), (a0.length * 32 ≤ reachBytes ∧ ∀ t ∈ a0, wfTk t) → PureA Try.prog 5 [.imm (a0 : List Tk).length (tksC a0)] (.bool true)
set_option maxRecDepth 100000 in
theorem tokenWrite_lifted (walk : WalkTokenWrite) (os : Os) (started : os.Started) (H : Type) (enc : TypeId × Value → H) :
    ReturnsInHanded {} Try.checked os 5 .any (Rows.tokenWriteSpec.pre6 enc Try.prog Try.f5 Rows.tokenWriteRow.domain false) (Rows.tokenWriteSpec.post enc Try.prog Try.f5 false true false false) := by
  refine returnsInHanded_of_change_sized (C := Try.checked) ownTokenWrite started (by kernel_rfl) Try.func5
    (ChangeSpec.witness6 (enc := enc) (C := Try.checked) false ⟨#[], #[.slice none 0 0], []⟩ 8 (by kernel_rfl) (by kernel_rfl) (by kernel_rfl) (by kernel_rfl)) ?_
  intro W base args ds gs before hval0 hW _ hz _
  have hval : ∀ (j : Nat) t v, Try.f5.params[j]? = some t → args[j]? = some v → Value.okWide Try.prog W .any base t v := hval0
  have hW0 := hW
  obtain ⟨p, q, hA, hV, _⟩ := hW
  rw [Try.params5] at hA hval
  obtain ⟨v0, vs0, d0, ds0, p0, q0, hargs, rfl, _, h0, r0⟩ := trodAll_cons hA
  obtain ⟨rfl, rfl, _⟩ := trodAll_nil r0
  obtain rfl : args = #[v0] := by cases args; simp_all
  obtain ⟨a0, w0, e0, z0⟩ := Opens.arg (f := fun x => .imm (x : List Tk).length (tksC x)) (opens_tokens) (by kernel_rfl) (hval 0 36 v0 rfl rfl) h0 (fun n hn => by have := List.all_eq_true.1 hz n (DataW.weights_mem_each (j := 0) rfl rfl n hn); simpa using this)
  refine (calls_of_law (vs := [v0]) ((walk a0 w0 Mem.empty).mono fun x _ hx => hx.1) (rvL_cons e0 (rvL_nil))).mono fun e W' ⟨he, hb⟩ => ?_
  subst he
  exact ⟨_, rfl, post_law 8 hW0 rfl (by kernel_rfl) (by kernel_rfl) Try.underlying4 rfl rfl hb⟩

theorem tokenWrite_of (walk : WalkTokenWrite) : Rows.tokenWriteRow.holds Try.pinned (OpenSpec.ofChange Rows.tokenWriteSpec) :=
  OpenClaim.holds_of_wide 5 Try.f5 rfl rfl rfl rfl rfl rfl rfl ⟨rfl, rfl, rfl, rfl, rfl⟩ rfl rfl rfl rfl rfl (by kernel_rfl) Try.func5 (by kernel_rfl)
    (of_decide_eq_true (by kernel_rfl)) (by unfold Func.isWrapper; first | (rw [if_pos (by decide +kernel)]; kernel_rfl) | (rw [if_neg (by decide +kernel)]; exact ⟨rfl, rfl⟩))
    (fun os started H enc _ => tokenWrite_lifted walk os started H enc)
end Go.Proofs.Ytkjikcmjcdlifaa
