/-
  SearchLarger returns true for all drafts and either truth value. Conditions: none.
-/
import Derived.Test.YtdacgjleiloooaaPL2
import Derived.Test.YtdacgjleiloooaaFrSearchLarger
import Derived.Test.YtdacgjleiloooaaGa11
set_option linter.unusedSimpArgs false
set_option linter.unusedVariables false
namespace Go.Proofs.Ytdacgjleiloooaa
open Go Go.Ew
theorem byte_of {n : Int} (h : (Lit.int .u8 n).wf = true) : okB n := by
  simp [Lit.wf, IntKind.min, IntKind.max, IntKind.signed, IntKind.bits] at h
  exact ⟨by omega, by omega⟩
theorem a2_of {x : Ar2_Int} (h : wf_Ar2_Int x) : okB x.a0 ∧ okB x.a1 := ⟨byte_of h.1, byte_of h.2.1⟩
theorem draft_of {d : Gscarfjointref05_Draft} (h : wf_Gscarfjointref05_Draft d) : okDraft d := ⟨fun n hn => byte_of (h.1.2 n hn), fun x hx => have k := h.2.1.2 x hx; ⟨byte_of k.1, byte_of k.2.1, byte_of k.2.2.1⟩⟩
theorem searchLarger : Rows.SearchLargerSaid := searchLarger_of fun d o inj w v _ => w_law17_SearchLarger 2000 d o inj true (lawLarger (fun x hx => a2_of (w.1.2 x hx)) (fun x hx => a2_of (w.2.1.2 x hx)) (draft_of w.2.2.1) (draft_of w.2.2.2.1) (draft_of v) inj 2000 (by omega))
end Go.Proofs.Ytdacgjleiloooaa
