import Derived.Test.YtkjikcmjcdlifaaT20
import Derived.Test.YtkjikcmjcdlifaaT18
import Derived.Test.YtkjikcmjcdlifaaEwM
namespace Go.Proofs.Ytkjikcmjcdlifaa
open Go Go.Ew Go.Proofs Go.RowKit
set_option maxRecDepth 10000
/-! ### Same, Few, Clone, Equal over lists of tokens -/
def sameF (a b : List Tk) : Bool := a.map keyT == b.map keyT
theorem sameF_eq (a b : List Tk) : sameF a b = decide (a.map keyT = b.map keyT) := by
  unfold sameF
  by_cases h : a.map keyT = b.map keyT <;> simp [h]
def tkAt (l : List Tk) (i : Nat) : Tk := l.getD i ⟨0, [], 0⟩
theorem drop_tkAt (l : List Tk) (i : Nat) (h : i < l.length) : l.drop i = tkAt l i :: l.drop (i + 1) := by
  rw [List.drop_eq_getElem_cons h]
  simp [tkAt, List.getD_eq_getElem?_getD, List.getElem?_eq_getElem h]
theorem tksC_at (l : List Tk) (i : Nat) (h : i < l.length) : (tksC l).drop (i * 3) = .int (tkAt l i).kind :: .str (tkAt l i).text :: .int (tkAt l i).line :: tksC (l.drop (i + 1)) := by
  rw [tksC_drop l i h]
  simp [tkC, tkAt, List.getD_eq_getElem?_getD, List.getElem?_eq_getElem h]
def SInv (a b : List Tk) (σ : Mem) (n : Nat) (fr : Fr) (τ : Mem) : Prop :=
  ∃ i : Nat, i ≤ a.length ∧ n = a.length - i ∧ sameF (a.drop i) (b.drop i) = sameF a b ∧ fr 0 = .imm a.length (tksC a) ∧ fr 1 = .imm b.length (tksC b) ∧ fr 5 = .int i ∧ τ = σ
theorem sameF_step {a b : List Tk} (h : a.length = b.length) (i : Nat) (hi : i < a.length) :
    sameF (a.drop i) (b.drop i) = (decide ((tkAt a i).kind = (tkAt b i).kind) && ((tkAt a i).text == (tkAt b i).text) && sameF (a.drop (i + 1)) (b.drop (i + 1))) := by
  rw [drop_tkAt a i hi, drop_tkAt b i (by omega)]
  unfold sameF keyT
  simp only [List.map_cons]
  rw [Bool.eq_iff_iff]
  simp [and_assoc]
theorem rsame_ev (a b : List Tk) (ha : a.length ≤ 9223372036854770000) : PureA Try.prog 21 [.imm a.length (tksC a), .imm b.length (tksC b)] (.bool (sameF a b)) := by
  refine pureA_of Try.func21 rfl (by kernel_rfl) (fun σ => ?_)
  simp [go_sem, Try.results21, Try.ntmps21]
  by_cases hl : a.length = b.length
  · simp [go_sem, hl]
    refine EW_loop (SInv a b σ) a.length ?_ ?_
    · exact ⟨0, by omega, by omega, by simp, by simp [go_sem, hl], by simp [go_sem], by simp [go_sem], rfl⟩
    rintro n fr τ ⟨i, hi, rfl, hR, h0, h1, h5, rfl⟩
    simp [go_sem, h0, h5]
    by_cases hlt : i < a.length
    · have hwi : IntKind.i64.wrap ((i : Int) + 1) = ((i + 1 : Nat) : Int) := by rw [wrap64_of _ (by omega) (by omega)]; rfl
      have d1 := tksC_at a i hlt
      have d2 := tksC_at b i (by omega)
      rw [sameF_step hl i hlt] at hR
      simp [go_sem, hlt]
      refine EW_regionD (by kernel_rfl) (by kernel_rfl) ?_
      simp [go_sem, h0, h1, h5, hlt, show i < b.length by omega, d1, d2]
      by_cases hk : (tkAt a i).kind = (tkAt b i).kind
      · by_cases ht : (tkAt a i).text = (tkAt b i).text
        · simp [go_sem, hk, ht, h0, h1, h5, hlt, show i < b.length by omega, d1, d2]
          refine ⟨a.length - (i + 1), by omega, i + 1, by omega, rfl, ?_, by simp [go_sem, h0], by simp [go_sem, h1], by simp [go_sem]; exact hwi, rfl⟩
          simpa [hk, ht] using hR
        · rw [← hR]
          simp [go_sem, hk, ht, h0, h1, h5, hlt, show i < b.length by omega, d1, d2, show ((tkAt a i).text != (tkAt b i).text) = true by simpa using ht]
      · rw [← hR]
        simp [go_sem, hk]
    · have : i = a.length := by omega
      subst this
      rw [List.drop_length, hl, List.drop_length] at hR
      rw [← hR]
      simp [go_sem, sameF]
  · have : sameF a b = false := by
      rw [sameF_eq, decide_eq_false_iff_not]
      intro h
      have := congrArg List.length h
      rw [List.length_map, List.length_map] at this
      exact hl this
    rw [this]
    simp [go_sem, show ¬ (a.length : Int) = b.length by omega]
def sumW (l : List Tk) : Int := l.foldl (fun a t => IntKind.i64.wrap (a + (t.text.length : Int))) 0
def fewW (l : List Tk) : Bool := decide (l.length ≤ 300) && decide (sumW (l.take 301) ≤ 3000)
theorem sumW_take (l : List Tk) (i : Nat) (h : i < l.length) : sumW (l.take (i + 1)) = IntKind.i64.wrap (sumW (l.take i) + ((tkAt l i).text.length : Int)) := by
  unfold sumW
  rw [List.take_add_one, List.getElem?_eq_getElem h, List.foldl_append]
  simp [tkAt, List.getD_eq_getElem?_getD, List.getElem?_eq_getElem h]
def FInv (l : List Tk) (σ : Mem) (n : Nat) (fr : Fr) (τ : Mem) : Prop :=
  ∃ i : Nat, i ≤ l.length ∧ i ≤ 301 ∧ n = 301 - i ∧ fr 0 = .imm l.length (tksC l) ∧ fr 3 = .int (sumW (l.take i)) ∧ fr 4 = .int i ∧ τ = σ
theorem rfew_ev (l : List Tk) : PureA Try.prog 17 [.imm l.length (tksC l)] (.bool (fewW l)) := by
  refine pureA_of Try.func17 rfl (by kernel_rfl) (fun σ => ?_)
  simp [go_sem, Try.results17, Try.ntmps17]
  refine EW_loop (FInv l σ) 301 ?_ ?_
  · exact ⟨0, by omega, by omega, by omega, by simp [go_sem], by simp [go_sem, sumW], by simp [go_sem], rfl⟩
  rintro n fr τ ⟨i, hi, hi2, rfl, h0, h3, h4, rfl⟩
  simp [go_sem, h0, h4]
  by_cases hlt : i < l.length
  · simp [go_sem, hlt, h4]
    by_cases h301 : i < 301
    · have hwi : IntKind.i64.wrap ((i : Int) + 1) = ((i + 1 : Nat) : Int) := by rw [wrap64_of _ (by omega) (by omega)]; rfl
      have d1 := tksC_at l i hlt
      have hs := sumW_take l i hlt
      simp [go_sem, h0, h3, h4, hlt, d1, show (i : Int) < 301 by omega]
      exact ⟨301 - (i + 1), by omega, i + 1, by omega, by omega, rfl, by simp [go_sem, h0], by simp [go_sem, hs], by simp [go_sem]; exact hwi, rfl⟩
    · have : i = 301 := by omega
      subst this
      have hf : fewW l = false := by simp [fewW]; omega
      rw [hf]
      simp [go_sem, h0, show ¬ (l.length : Int) ≤ 300 by omega]
  · have : i = l.length := by omega
    subst this
    rw [List.take_length] at h3
    have ht : l.take 301 = l := List.take_of_length_le (by omega)
    simp [go_sem, hlt, h0, fewW, ht]
    by_cases h300 : l.length ≤ 300
    · simp [go_sem, h3, h300, show (l.length : Int) ≤ 300 by omega]
    · simp [go_sem, h300, show ¬ (l.length : Int) ≤ 300 by omega]
theorem fewW_len {l : List Tk} (h : fewW l = true) : l.length ≤ 300 := by
  simp only [fewW, Bool.and_eq_true, decide_eq_true_eq] at h
  exact h.1
def textSum (l : List Tk) : Nat := (l.map fun t => t.text.length).sum
theorem sumW_small : ∀ (l : List Tk) (a : Nat), a + textSum l ≤ 9000000000000000000 → l.foldl (fun (a : Int) t => IntKind.i64.wrap (a + (t.text.length : Int))) (a : Int) = ((a + textSum l : Nat) : Int)
  | [], a, _ => by simp [textSum]
  | t :: r, a, h => by
    have h1 : textSum (t :: r) = t.text.length + textSum r := by simp [textSum]
    rw [h1] at h ⊢
    rw [List.foldl_cons, wrap64_of _ (by omega) (by omega), show (a : Int) + (t.text.length : Int) = ((a + t.text.length : Nat) : Int) by omega, sumW_small r _ (by omega)]
    congr 1
    omega
theorem fewW_sum {l : List Tk} (h : fewW l = true) (hs : textSum l ≤ 9000000000000000000) : textSum l ≤ 3000 := by
  have hl := fewW_len h
  simp only [fewW, Bool.and_eq_true, decide_eq_true_eq] at h
  have h2 := h.2
  rw [List.take_of_length_le (by omega)] at h2
  have h3 := sumW_small l 0 (by omega)
  unfold sumW at h2
  simp only [Nat.zero_add] at h3
  rw [show (0 : Int) = ((0 : Nat) : Int) from rfl, h3] at h2
  omega
/-! ### Clone -/
theorem clone_ev (l : List Tk) (hl : l.length ≤ 1000000000) : PureA Try.prog 19 [.imm l.length (tksC l)] (.imm l.length (tksC l)) := by
  intro σ
  refine callA_frz ?_
  by_cases h0 : l.length = 0
  · have : l = [] := List.eq_nil_of_length_eq_zero h0
    subst this
    refine callA_slice0 fun A c _ => ?_
    refine callA_of Try.func19 rfl (by kernel_rfl) ?_
    cases A with
    | none =>
      simp [go_sem, Try.results19, Try.ntmps19]
      exact .nils
    | some a =>
      simp [go_sem, Try.results19, Try.ntmps19, get_alloc, ty_alloc]
      exact ⟨frz_arr (by simp) (by simp [get_alloc, next_alloc, next_kill]; rfl) (tksC_data []), fun i hi => by simp [get_alloc, get_kill, show i ≠ σ.next by omega, show i ≠ σ.next + 1 by omega]⟩
  · have hp : 0 < l.length := by omega
    have hcl := tksC_len l
    refine callA_of Try.func19 rfl (by kernel_rfl) ?_
    simp [go_sem, Try.results19, Try.ntmps19, hp, get_alloc, ty_alloc, hcl, show l.length ≤ 9223372036854775807 by omega, show l.length * 32 ≤ 140737488355328 by omega]
    exact ⟨frz_arr (by simp) (by simp [get_alloc, next_alloc, next_kill]) (tksC_data l), fun i hi => by simp [get_alloc, get_kill, show i ≠ σ.next by omega, show i ≠ σ.next + 1 by omega]⟩
end Go.Proofs.Ytkjikcmjcdlifaa
