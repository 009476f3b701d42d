/-
  SearchBrute returns true for all drafts, all images and either truth value. Conditions: none.
-/
import Derived.Test.YtdacgjleiloooaaGreatB4
import Derived.Test.YtdacgjleiloooaaGreatFrSearchBrute
import Derived.Test.YtdacgjleiloooaaGreatGa26
set_option linter.unusedSimpArgs false
set_option linter.unusedVariables false
namespace Go.Proofs.YtdacgjleiloooaaGreat
open Go Go.Ew
theorem byte_of {n : Int} (h : (Lit.int .u8 n).wf = true) : okB n := by
  simp [Lit.wf, IntKind.min, IntKind.max, IntKind.signed, IntKind.bits] at h
  exact ⟨by omega, by omega⟩
theorem a2_of {x : Ar2_Int} (h : wf_Ar2_Int x) : okB x.a0 ∧ okB x.a1 := ⟨byte_of h.1, byte_of h.2.1⟩
theorem draft_of {d : Gscarfjointref05_Draft} (h : wf_Gscarfjointref05_Draft d) : okDraft d := ⟨fun n hn => byte_of (h.1.2 n hn), fun x hx => have k := h.2.1.2 x hx; ⟨byte_of k.1, byte_of k.2.1, byte_of k.2.2.1⟩⟩
theorem searchBrute : Rows.SearchBruteSaid := searchBrute_of fun d o inj w _ _ => by
  rw [fm_map]
  exact w_law17_SearchBrute 2000 d o inj true (lawBrute (fun x hx => a2_of (w.1.2 x hx)) (fun x hx => a2_of (w.2.1.2 x hx)) (draft_of w.2.2.1) (draft_of w.2.2.2.1) inj 2000 (by omega))
end Go.Proofs.YtdacgjleiloooaaGreat
