import Derived.Test.YtkjikcmjcdlifaaT24
import Derived.Test.YtkjikcmjcdlifaaT26
import Derived.Test.YtkjikcmjcdlifaaT14
import Derived.Test.YtkjikcmjcdlifaaT23
namespace Go.Proofs.Ytkjikcmjcdlifaa
open Go Go.Ew Go.Proofs Go.RowKit
set_option maxRecDepth 10000
/-! ### The reference's Write -/
def rightAll (l : List Tk) : Bool := l.all fun t => rightF t.kind (addQ t.kind t.text)
theorem tkAt_mem (l : List Tk) (i : Nat) (h : i < l.length) : tkAt l i ∈ l := by
  simp only [tkAt, List.getD_eq_getElem?_getD, List.getElem?_eq_getElem h, Option.getD_some]
  exact List.getElem_mem h
def W1Inv (l : List Tk) (σ : Mem) (n : Nat) (fr : Fr) (τ : Mem) : Prop :=
  ∃ i : Nat, i ≤ l.length ∧ n = l.length - i ∧ rightAll (l.drop i) = rightAll l ∧ fr 0 = .imm l.length (tksC l) ∧ fr 4 = .str [] ∧ fr 5 = .int i ∧ τ = σ
def prevT (l : List Tk) (i : Nat) : Option Tk := if i = 0 then none else some (tkAt l (i - 1))
def W2Inv (l : List Tk) (σ : Mem) (n : Nat) (fr : Fr) (τ : Mem) : Prop :=
  ∃ (i : Nat) (acc : List UInt8), i ≤ l.length ∧ n = l.length - i ∧ acc.length ≤ i * 100 ∧ acc ++ gbody (gaps (prevT l i) (l.drop i)) = gbody (gaps none l) ∧ fr 0 = .imm l.length (tksC l) ∧ fr 4 = .str acc ∧ fr 6 = .int i ∧ τ = σ
theorem rwrite_ev (l : List Tk) (hs : ∀ t ∈ l, t.text.length ≤ 9223372036854773000) : PureA Try.prog 20 [.imm l.length (tksC l)] (.tup [.str (writeF l).1, .int (writeF l).2]) := by
  refine pureA_of Try.func20 rfl (by kernel_rfl) (fun σ => ?_)
  simp [go_sem, Try.results20, Try.ntmps20]
  by_cases hbig : 4000 < l.length
  · simp [go_sem, writeF, hbig, show (4000 : Int) < l.length by omega]
  have hF : writeF l = if rightAll l then (if 20000 < (gbody (gaps none l)).length then ([], 3) else (gbody (gaps none l), 0)) else ([], 1) := by
    unfold writeF rightAll
    rw [if_neg hbig, wrF_eq]
    simp
  simp [go_sem, show ¬ (4000 : Int) < l.length by omega]
  refine EW_loop (W1Inv l σ) l.length ?_ ?_
  · exact ⟨0, by omega, by omega, by simp, by simp [go_sem], by simp [go_sem], by simp [go_sem], rfl⟩
  rintro n fr τ ⟨i, hi, rfl, hR, h0, h4, h5, rfl⟩
  simp [go_sem, h0, h5]
  by_cases hlt : i < l.length
  · have hwi : IntKind.i64.wrap ((i : Int) + 1) = ((i + 1 : Nat) : Int) := by rw [wrap64_of _ (by omega) (by omega)]; rfl
    have d1 := tksC_at l i hlt
    rw [drop_tkAt l i hlt] at hR
    simp only [rightAll, List.all_cons] at hR
    simp [go_sem, hlt, h0, h5, d1]
    refine EWcall_pure (rright_ev one_ev _ _ _ (hs _ (tkAt_mem l i hlt))) ?_
    rcases hr : rightF (tkAt l i).kind (addQ (tkAt l i).kind (tkAt l i).text)
    · rw [hr, Bool.false_and] at hR
      rw [hF, show rightAll l = false from hR.symm]
      simp [go_sem]
    · rw [hr, Bool.true_and] at hR
      simp [go_sem, h5]
      exact ⟨l.length - (i + 1), by omega, i + 1, by omega, rfl, hR, by simp [go_sem, h0], by simp [go_sem, h4], by simp [go_sem]; exact hwi, rfl⟩
  · have : i = l.length := by omega
    subst this
    rw [List.drop_length] at hR
    rw [hF, show rightAll l = true from hR.symm]
    have hall : ∀ t ∈ l, rightF t.kind (addQ t.kind t.text) = true := List.all_eq_true.1 (show rightAll l = true from hR.symm)
    simp only [if_true]
    simp [go_sem]
    refine EW_loop (W2Inv l τ) l.length ?_ ?_
    · exact ⟨0, [], by omega, by omega, by simp, by simp [prevT], by simp [go_sem, h0], by simp [go_sem, h4], by simp [go_sem], rfl⟩
    rintro n2 fr2 τ2 ⟨j, acc, hj, rfl, hacc, hA, g0, g4, g6, rfl⟩
    simp [go_sem, g0, g6]
    by_cases hjl : j < l.length
    · have hwj : IntKind.i64.wrap ((j : Int) + 1) = ((j + 1 : Nat) : Int) := by rw [wrap64_of _ (by omega) (by omega)]; rfl
      have e1 := tksC_at l j hjl
      have hq := right_small _ _ (hall _ (tkAt_mem l j hjl))
      rw [drop_tkAt l j hjl] at hA
      simp only [gaps, gbody] at hA
      have hpv : prevT l (j + 1) = some (tkAt l j) := by simp [prevT]
      rw [← hpv] at hA
      simp [go_sem, hjl]
      refine EW_regionD (by kernel_rfl) (by kernel_rfl) ?_
      have fin : ∀ (fr3 : Fr) (acc' : List UInt8), acc' = acc ++ sepF (prevT l j) (tkAt l j) ++ addQ (tkAt l j).kind (tkAt l j).text → fr3 0 = .imm l.length (tksC l) → fr3 4 = .str acc' → fr3 6 = .int ((j + 1 : Nat) : Int) → ∃ m, m < l.length - j ∧ W2Inv l τ2 m fr3 τ2 := by
        rintro fr3 acc' rfl a0 a4 a6
        refine ⟨l.length - (j + 1), by omega, j + 1, _, by omega, rfl, ?_, ?_, a0, a4, a6, rfl⟩
        · have h2 : (sepF (prevT l j) (tkAt l j)).length ≤ 1 := by unfold sepF; split <;> (try split) <;> simp
          simp only [List.length_append]; omega
        · rw [← hA]; simp
      have hrt := rtext_ev (tkAt l j).kind (tkAt l j).text (tkAt l j).line (by have := hs _ (tkAt_mem l j hjl); omega)
      have ha4 : acc.length ≤ 400000 := by omega
      by_cases hj0 : j = 0
      · subst hj0
        rw [Nat.zero_mul, List.drop_zero] at e1
        have hlen := tksC_len l
        simp [go_sem, g0, g4, g6, hjl, e1]
        refine EWcall_pure hrt ?_
        simp [go_sem, show acc.length + (addQ (tkAt l 0).kind (tkAt l 0).text).length ≤ 9223372036854775807 by omega, g6]
        exact fin _ _ rfl (by simp [go_sem, g0]) (by simp [go_sem, prevT, sepF]) (by simp [go_sem]; exact hwj)
      · have hjp : 0 < j := by omega
        obtain ⟨q, hq1⟩ : ∃ q, q = j - 1 := ⟨_, rfl⟩
        have hw : IntKind.i64.wrap ((j : Int) - 1) = (q : Int) := by rw [wrap64_of _ (by omega) (by omega)]; omega
        have e2 := tksC_at l q (by omega)
        have hp2 : prevT l j = some (tkAt l q) := by simp [prevT, hj0, hq1]
        rw [hp2] at fin
        simp [go_sem, g0, g6, hjl, hjp, hw, e1, e2, show q < l.length by omega]
        by_cases hul : (tkAt l j).line = (tkAt l q).line
        · simp [go_sem, hul, hjp, g0, g4, g6, hjl, e1, show acc.length ≤ 9223372036854775806 by omega]
          refine EWcall_pure (hul ▸ hrt) ?_
          simp [go_sem, show acc.length + 1 + (addQ (tkAt l j).kind (tkAt l j).text).length ≤ 9223372036854775807 by omega, g6]
          exact fin _ _ rfl (by simp [go_sem, g0]) (by simp [go_sem, sepF, hul]) (by simp [go_sem]; exact hwj)
        · simp [go_sem, hul, g0, g4, g6, hjl, e1, show acc.length ≤ 9223372036854775806 by omega]
          refine EWcall_pure hrt ?_
          simp [go_sem, show acc.length + 1 + (addQ (tkAt l j).kind (tkAt l j).text).length ≤ 9223372036854775807 by omega, g6]
          exact fin _ _ rfl (by simp [go_sem, g0]) (by simp [go_sem, sepF, Ne.symm hul]) (by simp [go_sem]; exact hwj)
    · have : j = l.length := by omega
      subst this
      rw [List.drop_length] at hA
      simp only [gaps, gbody, List.append_nil] at hA
      rw [← hA]
      simp [go_sem, g4]
      by_cases hb : 20000 < acc.length
      · simp [go_sem, hb, show (20000 : Int) < acc.length by omega]
      · simp [go_sem, hb, g4, show ¬ (20000 : Int) < acc.length by omega]
theorem le_sum_mem : ∀ (l : List Nat) (x : Nat), x ∈ l → x ≤ l.sum
  | a :: l, x, h => by
    rcases List.mem_cons.1 h with rfl | h
    · simp
    · have := le_sum_mem l x h
      simp only [List.sum_cons]
      omega
theorem textSum_le : ∀ (l : List Tk), (∀ t ∈ l, t.text.length ≤ 140737488351232) → textSum l ≤ l.length * 140737488351232
  | [], _ => by simp [textSum]
  | t :: r, h => by
    have h1 := textSum_le r fun u hu => h u (by simp [hu])
    have h2 := h t (by simp)
    simp only [textSum, List.map_cons, List.sum_cons, List.length_cons] at h1 ⊢
    omega
theorem tokenWrite_ev (l : List Tk) (hmem : ∀ t ∈ l, t.text.length ≤ 140737488351232) : PureA Try.prog 5 [.imm l.length (tksC l)] (.bool true) := by
  refine pureA_of Try.func5 rfl (by kernel_rfl) (fun σ => ?_)
  simp [go_sem, Try.results5, Try.ntmps5]
  refine EWcall_pure awake_ev ?_
  simp [go_sem]
  refine EWcall_pure (rfew_ev l) ?_
  rcases hf : fewW l
  · simp [go_sem]
    refine EWcall_pure awake_ev ?_
    simp [go_sem]
  have hl := fewW_len hf
  simp [go_sem]
  refine EWcall_pure (clone_ev l (by omega)) ?_
  simp [go_sem]
  refine EWcall_pure (write_ev l (by omega) (fun t ht => by have := hmem t ht; omega)) ?_
  simp [go_sem]
  refine EWcall_pure (rwrite_ev l (fun t ht => by have := hmem t ht; omega)) ?_
  simp [go_sem]
  by_cases he : (writeF l).2 = 0
  · obtain ⟨l', h6, h7⟩ := write_tokens l he
    simp [go_sem, he]
    refine EWcall_pure (tokens_ev _) ?_
    rw [h6]
    simp [go_sem, tokD]
    have hll : l'.length = l.length := by have := congrArg List.length h7; rwa [List.length_map, List.length_map] at this
    refine EWcall_pure (rsame_ev l' l (by omega)) ?_
    have : sameF l' l = true := by rw [sameF_eq]; simp [h7]
    rw [this]
    simp [go_sem]
  · simp [go_sem, he]
end Go.Proofs.Ytkjikcmjcdlifaa
