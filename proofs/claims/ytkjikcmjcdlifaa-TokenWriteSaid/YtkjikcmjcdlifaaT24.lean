import Derived.Test.YtkjikcmjcdlifaaT22
namespace Go.Proofs.Ytkjikcmjcdlifaa
open Go Go.Ew Go.Proofs Go.RowKit
set_option maxRecDepth 10000
/-! ### token.Same: EqualFunc with a closure -/
theorem sameC_ev (k1 k2 : Int) (x1 x2 : List UInt8) (l1 l2 : Int) : PureA Try.prog 40 [.agg [.int k1, .str x1, .int l1], .agg [.int k2, .str x2, .int l2]] (.bool (decide (k1 = k2) && (x1 == x2))) := by
  refine pureA_of Try.func40 rfl (by kernel_rfl) (fun σ => ?_)
  simp [go_sem, Try.results40, Try.ntmps40, get_alloc]
  by_cases hk : k1 = k2
  · simp [go_sem, hk, get_alloc]
    rw [keeps_alloc _ _ (by simp [next_alloc]), keeps_alloc _ _ (Nat.le_refl _)]; exact Keeps.refl _
  · simp [go_sem, hk]
    rw [keeps_alloc _ _ (by simp [next_alloc]), keeps_alloc _ _ (Nat.le_refl _)]; exact Keeps.refl _
def QInv (a b : List Tk) (σ : Mem) (n : Nat) (fr : Fr) (τ : Mem) : Prop :=
  ∃ i : Nat, i ≤ a.length ∧ n = a.length - i ∧ sameF (a.drop i) (b.drop i) = sameF a b ∧ fr 1 = .imm b.length (tksC b) ∧ fr 2 = .fn 40 [] ∧ fr 15 = .imm a.length (tksC a) ∧ fr 16 = .int a.length ∧ fr 17 = .int i ∧ Keeps σ τ ∧ σ.next ≤ τ.next
theorem equalFunc_ev (a b : List Tk) (ha : a.length ≤ 9223372036854770000) : PureA Try.prog 39 [.imm a.length (tksC a), .imm b.length (tksC b), .fn 40 []] (.bool (sameF a b)) := by
  refine pureA_of Try.func39 rfl (by kernel_rfl) (fun σ => ?_)
  simp [go_sem, Try.results39, Try.ntmps39]
  by_cases hl : a.length = b.length
  · simp [go_sem, show (a.length : Int) = b.length by omega]
    refine EW_loop (QInv a b σ) a.length ?_ ?_
    · exact ⟨0, by omega, by omega, by simp, by simp [go_sem], by simp [go_sem], by simp [go_sem], by simp [go_sem, hl], by simp [go_sem], Keeps.refl _, Nat.le_refl _⟩
    rintro n fr τ ⟨i, hi, rfl, hR, h1, h2, h15, h16, h17, hK, hN⟩
    simp [go_sem, h16, h17]
    by_cases hlt : i < a.length
    · have hwi : IntKind.i64.wrap ((i : Int) + 1) = ((i + 1 : Nat) : Int) := by rw [wrap64_of _ (by omega) (by omega)]; rfl
      have d1 := tksC_at a i hlt
      have d2 := tksC_at b i (by omega)
      rw [sameF_step hl i hlt] at hR
      simp [go_sem, hlt, h1, h2, h15, h17, show i < b.length by omega, d1, d2, get_set, get_alloc]
      refine EWcall_pure (sameC_ev _ _ _ _ _ _) ?_
      by_cases hk : decide ((tkAt a i).kind = (tkAt b i).kind) && ((tkAt a i).text == (tkAt b i).text)
      · rw [hk] at hR ⊢
        simp [go_sem, h17]
        refine ⟨a.length - (i + 1), by omega, i + 1, by omega, rfl, by simpa using hR, by simp [go_sem, h1], by simp [go_sem, h2], by simp [go_sem, h15], by simp [go_sem, h16], by simp [go_sem]; exact hwi, ?_, by simp [next_set, next_alloc]; omega⟩
        intro j hj; simp [get_set, get_alloc, next_set, next_alloc, show j ≠ τ.next by omega, show j ≠ τ.next + 1 by omega]; exact hK j hj
      · rw [Bool.not_eq_true] at hk
        rw [hk] at hR ⊢
        rw [← hR]
        simp [go_sem]
        intro j hj; simp [get_set, get_alloc, next_set, next_alloc, show j ≠ τ.next by omega, show j ≠ τ.next + 1 by omega]; exact hK j hj
    · have : i = a.length := by omega
      subst this
      rw [List.drop_length, hl, List.drop_length] at hR
      rw [← hR]
      simp [go_sem, sameF, hK]
  · have : sameF a b = false := by
      rw [sameF_eq, decide_eq_false_iff_not]
      intro h
      have := congrArg List.length h
      rw [List.length_map, List.length_map] at this
      exact hl this
    rw [this]
    simp [go_sem, show ¬ (a.length : Int) = b.length by omega]
theorem same_ev (a b : List Tk) (ha : a.length ≤ 9223372036854770000) : PureA Try.prog 26 [.imm a.length (tksC a), .imm b.length (tksC b)] (.bool (sameF a b)) := by
  refine pureA_of Try.func26 rfl (by kernel_rfl) (fun σ => ?_)
  simp [go_sem, Try.results26, Try.ntmps26]
  refine EWcall_pure (equalFunc_ev a b ha) ?_
  simp [go_sem]
/-! ### slices.Equal -/
def eqTk (a b : Tk) : Bool := decide (a.kind = b.kind) && (a.text == b.text) && decide (a.line = b.line)
def equalF (a b : List Tk) : Bool := decide (a.length = b.length) && (a.zip b).all fun (x, y) => eqTk x y
theorem equalF_step {a b : List Tk} (h : a.length = b.length) (i : Nat) (hi : i < a.length) : equalF (a.drop i) (b.drop i) = (eqTk (tkAt a i) (tkAt b i) && equalF (a.drop (i + 1)) (b.drop (i + 1))) := by
  rw [drop_tkAt a i hi, drop_tkAt b i (by omega)]
  simp only [equalF, List.length_cons, List.length_drop, List.zip_cons_cons, List.all_cons]
  rw [show decide (a.length - (i + 1) + 1 = b.length - (i + 1) + 1) = true by simp; omega, show decide (a.length - (i + 1) = b.length - (i + 1)) = true by simp; omega]
  simp
theorem equalF_self (a : List Tk) : equalF a a = true := by
  unfold equalF
  simp only [decide_true, Bool.true_and]
  rw [List.all_eq_true]
  intro p hp
  have : p.1 = p.2 := by
    obtain ⟨i, hi, rfl⟩ := List.getElem_of_mem hp
    simp
  obtain ⟨x, y⟩ := p
  simp only at this
  subst this
  simp [eqTk]
def EInv (a b : List Tk) (σ : Mem) (n : Nat) (fr : Fr) (τ : Mem) : Prop :=
  ∃ i : Nat, i ≤ a.length ∧ n = a.length - i ∧ equalF (a.drop i) (b.drop i) = equalF a b ∧ fr 0 = .imm a.length (tksC a) ∧ fr 1 = .imm b.length (tksC b) ∧ fr 12 = .int a.length ∧ fr 13 = .int i ∧ τ = σ
theorem equal_ev (a b : List Tk) (ha : a.length ≤ 9223372036854770000) : PureA Try.prog 23 [.imm a.length (tksC a), .imm b.length (tksC b)] (.bool (equalF a b)) := by
  refine pureA_of Try.func23 rfl (by kernel_rfl) (fun σ => ?_)
  simp [go_sem, Try.results23, Try.ntmps23]
  by_cases hl : a.length = b.length
  · simp [go_sem, show (a.length : Int) = b.length by omega]
    refine EW_loop (EInv a b σ) a.length ?_ ?_
    · exact ⟨0, by omega, by omega, by simp, by simp [go_sem, hl], by simp [go_sem], by simp [go_sem, hl], by simp [go_sem], rfl⟩
    rintro n fr τ ⟨i, hi, rfl, hR, h0, h1, h12, h13, rfl⟩
    simp [go_sem, h12, h13]
    by_cases hlt : i < a.length
    · have hwi : IntKind.i64.wrap ((i : Int) + 1) = ((i + 1 : Nat) : Int) := by rw [wrap64_of _ (by omega) (by omega)]; rfl
      have d1 := tksC_at a i hlt
      have d2 := tksC_at b i (by omega)
      rw [equalF_step hl i hlt] at hR
      simp [go_sem, hlt, h13]
      refine EW_regionD (by kernel_rfl) (by kernel_rfl) ?_
      simp [go_sem, h0, h1, hlt, show i < b.length by omega, d1, d2]
      have hne : (!decide ((tkAt a i).kind = (tkAt b i).kind) || (!(tkAt a i).text == (tkAt b i).text || !decide ((tkAt a i).line = (tkAt b i).line))) = !eqTk (tkAt a i) (tkAt b i) := by simp [eqTk, Bool.or_assoc]
      rw [hne]
      rcases hE : eqTk (tkAt a i) (tkAt b i)
      · rw [hE] at hR
        rw [← hR]
        simp [go_sem]
      · rw [hE, Bool.true_and] at hR
        simp [go_sem, h13]
        exact ⟨a.length - (i + 1), by omega, i + 1, by omega, rfl, hR, by simp [go_sem, h0], by simp [go_sem, h1], by simp [go_sem, h12], by simp [go_sem]; exact hwi, rfl⟩
    · have : i = a.length := by omega
      subst this
      rw [List.drop_length, hl, List.drop_length] at hR
      rw [← hR]
      simp [go_sem, equalF]
  · have : equalF a b = false := by simp [equalF, hl]
    rw [this]
    simp [go_sem, show ¬ (a.length : Int) = b.length by omega]
end Go.Proofs.Ytkjikcmjcdlifaa
