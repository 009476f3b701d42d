/-
  The frame of the statement SearchBrute: the given row, out of the walk of the law. Conditions: none.
-/
import Derived.Test.YtdacgjleiloooaaGreatB5
import Derived.Test.YtdacgjleiloooaaGreatOp
import Derived.Test.YtdacgjleiloooaaGreatRows
import Derived.WalkKit
import Derived.ProofKit
set_option linter.unusedSimpArgs false
set_option linter.unusedVariables false
namespace Go.Proofs.YtdacgjleiloooaaGreat
open Go Go.Ew Go.ChangeShapes Go.WideShapes Go.ChangeAt Go.RowKit
theorem ownSearchBrute : ownKnob Tryz.prog.godebug = none := by kernel_rfl
def WalkSearchBrute : Prop := ∀ (a0 : Gscarfjointlaw17_Drafts) (a1 : List Int) (a2 : Bool), (wf_Gscarfjointlaw17_Drafts a0) → (a1.length * 1 ≤ reachBytes ∧ ∀ a ∈ a1, (Lit.int .u8 a).wf = true) → (True) → PureA Tryz.prog 7 [.agg (Gscarfjointlaw17_DraftsC a0), .imm (a1 : List Int).length (a1.flatMap (fun n => [(fun n => AV.lit (.int .u8 n)) n])), .bool a2] (.bool true)
set_option maxRecDepth 100000 in
theorem searchBrute_lifted (walk : WalkSearchBrute) (os : Os) (started : os.Started) (H : Type) (enc : TypeId × Value → H) :
  ReturnsInHanded {} Tryz.checked os 7 .any (Rows.searchBruteSpec.pre6 enc Tryz.prog Tryz.f7 Rows.searchBruteRow.domain false) (Rows.searchBruteSpec.post enc Tryz.prog Tryz.f7 false true false false) := by
 refine returnsInHanded_of_change_sized (C := Tryz.checked) ownSearchBrute started (by kernel_rfl) Tryz.func7
  (ChangeSpec.witness6 (enc := enc) (C := Tryz.checked) false ⟨#[], #[.agg #[.slice none 0 0, .slice none 0 0, .slice none 0 0, .slice none 0 0, .slice none 0 0, .slice none 0 0], .slice none 0 0, .bool false], []⟩ 8 (by kernel_rfl) (by kernel_rfl) (by kernel_rfl) (by kernel_rfl)) ?_
 intro W base args ds gs before hval0 hW _ hz _
 have hval : ∀ (j : Nat) t v, Tryz.f7.params[j]? = some t → args[j]? = some v → Value.okWide Tryz.prog W .any base t v := hval0
 have hW0 := hW
 obtain ⟨p, q, hA, hV, _⟩ := hW
 rw [Tryz.params7] at hA hval
 obtain ⟨v0, vs0, d0, ds0, p0, q0, hargs, rfl, _, h0, r0⟩ := trodAll_cons hA
 obtain ⟨v1, vs1, d1, ds1, p1, q1, rfl, rfl, _, h1, r1⟩ := trodAll_cons r0
 obtain ⟨v2, vs2, d2, ds2, p2, q2, rfl, rfl, _, h2, r2⟩ := trodAll_cons r1
 obtain ⟨rfl, rfl, _⟩ := trodAll_nil r2
 obtain rfl : args = #[v0, v1, v2] := by cases args; simp_all
 obtain ⟨a0, w0, e0, z0⟩ := Opens.argS (f := fun x => (Gscarfjointlaw17_DraftsC x)) op_Gscarfjointlaw17_Drafts Tryz.underlying58 (hval 0 58 v0 rfl rfl) h0 (fun n hn => by have := List.all_eq_true.1 hz n (DataW.weights_mem_each (j := 0) rfl rfl n hn); simpa using this)
 obtain ⟨a1, w1, e1, z1⟩ := Opens.arg (f := fun x => .imm (x : List Int).length (x.flatMap (fun n => [(fun n => AV.lit (.int .u8 n)) n]))) ((opens_slice (sz := 1) (B := 1) Tryz.underlying53 (by kernel_rfl) (by kernel_rfl) (by decide) (fun _ => rfl) (opens_int Tryz.underlying5))) (by kernel_rfl) (hval 1 53 v1 rfl rfl) h1 (fun n hn => by have := List.all_eq_true.1 hz n (DataW.weights_mem_each (j := 1) rfl rfl n hn); simpa using this)
 obtain ⟨a2, w2, e2, z2⟩ := Opens.arg (f := fun x => .bool x) ((opens_bool Tryz.underlying4)) (by kernel_rfl) (hval 2 4 v2 rfl rfl) h2 (fun n hn => by have := List.all_eq_true.1 hz n (DataW.weights_mem_each (j := 2) rfl rfl n hn); simpa using this)
 refine (calls_of_law (vs := [v0, v1, v2]) ((walk a0 a1 a2 w0 w1 w2 Mem.empty).mono fun x _ hx => hx.1) (rvL_cons e0 (rvL_cons e1 (rvL_cons e2 (rvL_nil))))).mono fun e W' ⟨he, hb⟩ => ?_
 subst he
 exact ⟨_, rfl, post_law 8 hW0 rfl (by kernel_rfl) (by kernel_rfl) Tryz.underlying4 rfl rfl hb⟩

theorem searchBrute_of (walk : WalkSearchBrute) : Rows.searchBruteRow.holds Tryz.pinned (OpenSpec.ofChange Rows.searchBruteSpec) :=
 OpenClaim.holds_of_wide 7 Tryz.f7 rfl rfl rfl rfl rfl rfl rfl ⟨rfl, rfl, rfl, rfl, rfl⟩ rfl rfl rfl rfl rfl (by kernel_rfl) Tryz.func7 (by kernel_rfl)
  (of_decide_eq_true (by kernel_rfl)) (by unfold Func.isWrapper; first | (rw [if_pos (by decide +kernel)]; kernel_rfl) | (rw [if_neg (by decide +kernel)]; exact ⟨rfl, rfl⟩))
  (fun os started H enc _ => searchBrute_lifted walk os started H enc)
end Go.Proofs.YtdacgjleiloooaaGreat
