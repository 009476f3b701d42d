/-
  What an argument's frame says of type graphs and graphs is what the walks ask.
-/
import Derived.Test.YtdacgjleiloooaaGreatB4
import Derived.Test.YtdacgjleiloooaaGreatOp
set_option linter.unusedSimpArgs false
set_option linter.unusedVariables false
namespace Go.Proofs.YtdacgjleiloooaaGreat
open Go Go.Ew
theorem reach_eq : reachBytes = 140737488351232 := rfl
theorem wfT_of {t : Types} (h : wf_Types t) : wfTypes t := by
  obtain ⟨⟨h1, h2⟩, ⟨h3, h4⟩, _⟩ := h
  rw [reach_eq] at h1 h3
  refine ⟨by omega, by omega, fun n hn => ?_, fun e he => ?_⟩
  · obtain ⟨k1, _, _, ⟨k2, k3⟩, _⟩ := h2 n hn
    rw [reach_eq] at k1 k2
    refine ⟨k1, by omega, fun a ha => ?_⟩
    obtain ⟨m1, _, _, ⟨m2, m3⟩, _⟩ := k3 a ha
    rw [reach_eq] at m1 m2
    exact ⟨m1, by omega, fun s hs => m3 s hs⟩
  · exact (h4 e he).1
theorem wfG_of {g : Graph} (h : wf_Graph g) : wfGraph g := by
  obtain ⟨⟨h1, _⟩, ⟨h3, _⟩, _⟩ := h
  rw [reach_eq] at h1 h3
  exact ⟨by omega, by omega⟩
end Go.Proofs.YtdacgjleiloooaaGreat
