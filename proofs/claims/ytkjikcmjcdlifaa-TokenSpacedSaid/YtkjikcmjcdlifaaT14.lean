import Derived.Test.YtkjikcmjcdlifaaT13
namespace Go.Proofs.Ytkjikcmjcdlifaa
open Go Go.Ew Go.Proofs Go.RowKit
set_option maxRecDepth 10000
structure Tok where
  kind : Int
  text : List UInt8
/-- What 'one' of the reference hands back at a place: the token, its length, the error. -/
def oneT (s : List UInt8) (a : Nat) : List AV :=
  if (nextF (s.drop a)).2.2 = 0 then [.int (nextF (s.drop a)).1, .str (if (nextF (s.drop a)).1 = 3 then (s.drop (a + 1)).take ((nextF (s.drop a)).2.1 - 2) else (s.drop a).take (nextF (s.drop a)).2.1), .int 0] else [.int 0, .str [], .int 0]
def oneN (s : List UInt8) (a : Nat) : Nat := if (nextF (s.drop a)).2.2 = 0 then (nextF (s.drop a)).2.1 else 0
def OneC : Prop := ∀ (s : List UInt8) (a : Nat), a < s.length → s.length ≤ 9223372036854774000 → PureA Try.prog 38 [.str s, .int a] (.tup [.agg (oneT s a), .int (oneN s a), .int (nextF (s.drop a)).2.2])
theorem rright_ev (one_ev : OneC) (k : Int) (x : List UInt8) (ln : Int) (hs : x.length ≤ 9223372036854773000) : PureA Try.prog 27 [.agg [.int k, .str x, .int ln]] (.bool (rightF k (addQ k x))) := by
  refine pureA_of Try.func27 rfl (by kernel_rfl) (fun σ => ?_)
  simp [go_sem, Try.results27, Try.ntmps27]
  refine EWcall_pure (rtext_ev k x ln (by omega)) ?_
  have hlen := addQ_len k x
  generalize addQ k x = s at hlen
  by_cases hne : s = []
  · subst hne
    simp [go_sem, rightF]
  · have hp : 0 < s.length := List.length_pos_iff.2 hne
    simp [go_sem, show (s == []) = false by simpa using hne]
    refine EWcall_pure (one_ev s 0 hp (by omega)) ?_
    have hne' : s.isEmpty = false := by simpa using hne
    simp only [oneT, oneN, List.drop_zero, rightF, hne']
    generalize nextF s = r
    obtain ⟨rk, rn, re⟩ := r
    by_cases h1 : re = 0
    · subst h1
      by_cases h2 : rn = s.length
      · simp [go_sem, h2, get_set, get_alloc]
        rw [keeps_alloc _ _ (by simp [next_alloc]), keeps_alloc _ _ (Nat.le_refl _)]; exact Keeps.refl _
      · simp [go_sem, h2, show ¬ (rn : Int) = s.length by omega, get_alloc]
        rw [keeps_alloc _ _ (by simp [next_alloc]), keeps_alloc _ _ (Nat.le_refl _)]; exact Keeps.refl _
    · simp [go_sem, h1, get_alloc]
      rw [keeps_alloc _ _ (by simp [next_alloc]), keeps_alloc _ _ (Nat.le_refl _)]; exact Keeps.refl _
def NInv (s : List UInt8) (σ : Mem) (n : Nat) (fr : Fr) (τ : Mem) : Prop :=
  ∃ i : Nat, i ≤ s.length ∧ n = s.length - i ∧ fr 0 = .str s ∧ fr 4 = .int (numF (s.take i)) ∧ fr 5 = .int i ∧ τ = σ
theorem rnumber_ev (one_ev : OneC) (s : List UInt8) (hs : s.length ≤ 9223372036854773000) : PureA Try.prog 13 [.str s] (tupOk (rightF 2 s) (numF s)) := by
  refine pureA_of Try.func13 rfl (by kernel_rfl) (fun σ => ?_)
  simp [go_sem, Try.results13, Try.ntmps13]
  refine EWcall_pure (rright_ev one_ev 2 s 0 hs) ?_
  simp only [show addQ 2 s = s from rfl]
  rcases h : rightF 2 s
  · simp [go_sem, tupOk]
  · simp [go_sem, tupOk]
    refine EW_loop (NInv s σ) s.length ⟨0, by omega, rfl, by simp [go_sem], by simp [go_sem, numF], by simp [go_sem], rfl⟩ ?_
    rintro n fr τ ⟨i, hi, rfl, h0, h4, h5, rfl⟩
    simp [go_sem, h0, h5]
    by_cases hlt : i < s.length
    · have hw : IntKind.i64.wrap ((i : Int) + 1) = ((i + 1 : Nat) : Int) := by rw [wrap64_of _ (by omega) (by omega)]; rfl
      simp [go_sem, hlt, h0, h4, h5]
      refine ⟨s.length - (i + 1), by omega, i + 1, by omega, by omega, by simp [go_sem, h0], ?_, by simp [go_sem]; exact hw, rfl⟩
      rw [numF_take s i hlt, numStep, Int.mul_comm]
      simp [go_sem]
    · have : i = s.length := by omega
      subst this
      simp [go_sem, h4]
end Go.Proofs.Ytkjikcmjcdlifaa
