/-
  The plain law of AttributeTerm: Term answers as specified. No program in sight.
-/
import Derived.Test.YtippinddoldhkaaGreatGd
import Derived.Test.YtippinddoldhkaaGreatB2
set_option linter.unusedSimpArgs false
set_option linter.unusedVariables false
namespace Go.Proofs.YtippinddoldhkaaGreat
open Go Go.Ew
set_option maxRecDepth 100000
/-- The chapter's example. -/
theorem awake21 : s_law21_awake 100 = some true := by decide +kernel
theorem getI_isSome {α : Type} {l : List α} {i : Int} (h0 : 0 ≤ i) (h1 : i < l.length) : ∃ x, getI l i = some x := by
  obtain ⟨_, h⟩ := getI_some h0 h1; exact ⟨_, h⟩
theorem wrap64_small {n : Int} (h1 : -9223372036854775808 ≤ n) (h2 : n ≤ 9223372036854775807) : IntKind.i64.wrap n = n := by rw [IntKind.wrap_i64]; omega
theorem term_values (values : List Int) (h : values.length ≤ 100) : ∃ l : List Int, forN (b1_law21_AttributeTerm values) values.length 0 ([] : List Int) = some (.done l) ∧ l.length ≤ 100 := by
  have := forN_fold (body := b1_law21_AttributeTerm values) (R := Bool) (fun i l => l.length = i) (fun i l => l ++ [IntKind.i64.wrap (values.getD i 0)]) values.length 0 [] rfl (fun j s _ hj hs => by
    have hj' : j < values.length := by omega
    refine ⟨?_, by simp [hs]⟩
    unfold b1_law21_AttributeTerm
    rw [getN_some hj', Option.bind_some, catL_of (by simp; omega), Option.bind_some]
    simp [List.getD_eq_getElem?_getD, List.getElem?_eq_getElem hj'])
  exact ⟨_, this.1, by have := this.2; simp at this; omega⟩
theorem value21_eq (x : GTerm) (l : List Int) : s_attribute_value x l = s_ref21_value x l := rfl
theorem lawTerm (x : GTerm) (values : List Int) : s_law21_AttributeTerm 100 x values = some true := by
  unfold s_law21_AttributeTerm
  rw [awake21, Option.bind_some]
  by_cases hg : 100 < ((values.length : Nat) : Int) ∨ x.add < -1099511627776 ∨ 1099511627776 < x.add
  · rw [bif_t (by simp; omega)]; rfl
  · rw [bif_f (by simp; omega)]
    obtain ⟨l, h1, h2⟩ := term_values values (by omega)
    rw [h1, Option.bind_some]
    simp only [Out.on]
    unfold s_slices_CloneO_int
    rw [if_pos (by omega), Option.bind_some]
    unfold s_attribute_Term s_ref21_Term s_attribute_within
    rw [Option.bind_some, wrap64_small (by omega) (by omega), value21_eq]
    by_cases hv : x.var < -1 ∨ ((l.length : Nat) : Int) ≤ x.var
    · rw [bif_t (by simp; omega), bif_t (by simp; omega), Option.bind_some, Option.bind_some]
      simp
    · rw [bif_f (by simp; omega), bif_f (by simp; omega)]
      have hs : ∃ n, s_ref21_value x l = some n := by
        unfold s_ref21_value
        by_cases h0 : x.var < 0
        · rw [bif_t (by simp; omega)]; exact ⟨_, rfl⟩
        · obtain ⟨y, hy⟩ := getI_isSome (l := l) (i := x.var) (by omega) (by omega)
          rw [bif_f (by simp; omega), hy]; exact ⟨_, rfl⟩
      obtain ⟨n, hn⟩ := hs
      rw [hn]
      simp
end Go.Proofs.YtippinddoldhkaaGreat
