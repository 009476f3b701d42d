/-
  The frame of the statement TokenSpaced: the given row, out of the walk of the law. Conditions: none.
-/
import Derived.Test.YtkjikcmjcdlifaaT23
import Derived.Test.YtkjikcmjcdlifaaRows
import Derived.WalkKit
import Derived.ProofKit
namespace Go.Proofs.Ytkjikcmjcdlifaa
open Go Go.Ew Go.ChangeShapes Go.WideShapes Go.ChangeAt Go.RowKit
theorem ownTokenSpaced : ownKnob Try.prog.godebug = none := by kernel_rfl
def WalkTokenSpaced : Prop := ∀ (a0 : List Tk) (a1 : List Int), (a0.length * 32 ≤ reachBytes ∧ ∀ t ∈ a0, wfTk t) → (a1.length * 1 ≤ reachBytes ∧ ∀ n ∈ a1, (Lit.int .u8 n).wf = true) → PureA Try.prog 10 [.imm (a0 : List Tk).length (tksC a0), .imm (a1 : List Int).length (a1.flatMap fun n => [.lit (.int .u8 n)])] (.bool true)
set_option maxRecDepth 100000 in
theorem tokenSpaced_lifted (walk : WalkTokenSpaced) (os : Os) (started : os.Started) (H : Type) (enc : TypeId × Value → H) :
    ReturnsInHanded {} Try.checked os 10 .any (Rows.tokenSpacedSpec.pre6 enc Try.prog Try.f10 Rows.tokenSpacedRow.domain false) (Rows.tokenSpacedSpec.post enc Try.prog Try.f10 false true false false) := by
  refine returnsInHanded_of_change_sized (C := Try.checked) ownTokenSpaced started (by kernel_rfl) Try.func10
    (ChangeSpec.witness6 (enc := enc) (C := Try.checked) false ⟨#[], #[.slice none 0 0, .slice none 0 0], []⟩ 8 (by kernel_rfl) (by kernel_rfl) (by kernel_rfl) (by kernel_rfl)) ?_
  intro W base args ds gs before hval0 hW _ hz _
  have hval : ∀ (j : Nat) t v, Try.f10.params[j]? = some t → args[j]? = some v → Value.okWide Try.prog W .any base t v := hval0
  have hW0 := hW
  obtain ⟨p, q, hA, hV, _⟩ := hW
  rw [Try.params10] at hA hval
  obtain ⟨v0, vs0, d0, ds0, p0, q0, hargs, rfl, _, h0, r0⟩ := trodAll_cons hA
  obtain ⟨v1, vs1, d1, ds1, p1, q1, rfl, rfl, _, h1, r1⟩ := trodAll_cons r0
  obtain ⟨rfl, rfl, _⟩ := trodAll_nil r1
  obtain rfl : args = #[v0, v1] := by cases args; simp_all
  obtain ⟨a0, w0, e0, z0⟩ := Opens.arg (f := fun x => .imm (x : List Tk).length (tksC x)) (opens_tokens) (by kernel_rfl) (hval 0 36 v0 rfl rfl) h0 (fun n hn => by have := List.all_eq_true.1 hz n (DataW.weights_mem_each (j := 0) rfl rfl n hn); simpa using this)
  obtain ⟨a1, w1, e1, z1⟩ := Opens.arg (f := fun x => .imm (x : List Int).length (x.flatMap fun n => [.lit (.int .u8 n)])) (opens_bytes) (by kernel_rfl) (hval 1 29 v1 rfl rfl) h1 (fun n hn => by have := List.all_eq_true.1 hz n (DataW.weights_mem_each (j := 1) rfl rfl n hn); simpa using this)
  refine (calls_of_law (vs := [v0, v1]) ((walk a0 a1 w0 w1 Mem.empty).mono fun x _ hx => hx.1) (rvL_cons e0 (rvL_cons e1 (rvL_nil)))).mono fun e W' ⟨he, hb⟩ => ?_
  subst he
  exact ⟨_, rfl, post_law 8 hW0 rfl (by kernel_rfl) (by kernel_rfl) Try.underlying4 rfl rfl hb⟩

theorem tokenSpaced_of (walk : WalkTokenSpaced) : Rows.tokenSpacedRow.holds Try.pinned (OpenSpec.ofChange Rows.tokenSpacedSpec) :=
  OpenClaim.holds_of_wide 10 Try.f10 rfl rfl rfl rfl rfl rfl rfl ⟨rfl, rfl, rfl, rfl, rfl⟩ rfl rfl rfl rfl rfl (by kernel_rfl) Try.func10 (by kernel_rfl)
    (of_decide_eq_true (by kernel_rfl)) (by unfold Func.isWrapper; first | (rw [if_pos (by decide +kernel)]; kernel_rfl) | (rw [if_neg (by decide +kernel)]; exact ⟨rfl, rfl⟩))
    (fun os started H enc _ => tokenSpaced_lifted walk os started H enc)
end Go.Proofs.Ytkjikcmjcdlifaa
