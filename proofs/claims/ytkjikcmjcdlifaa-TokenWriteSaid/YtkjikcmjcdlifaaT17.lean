import Derived.Test.YtkjikcmjcdlifaaT16
import Derived.Test.YtkjikcmjcdlifaaT14
import Derived.RegionTactic
namespace Go.Proofs.Ytkjikcmjcdlifaa
open Go Go.Ew Go.Proofs Go.RowKit
set_option maxRecDepth 10000
def mP (t x : List UInt8) : Bool := decide (x.length ≤ t.length) && t.take x.length == x
theorem find_pairs (t : List UInt8) (_ : 0 < t.length) : match pairs.find? (mP t) with | some x => pairF t = true ∧ x.length = 2 ∧ t.take 2 = x | none => pairF t = false := by
  by_cases h2 : 2 ≤ t.length
  · have e : ∀ x ∈ pairs, mP t x = (t.take 2 == x) := fun x hx => by
      simp [pairs] at hx
      rcases hx with rfl | rfl | rfl | rfl | rfl <;> simp [mP, h2]
    cases hf : pairs.find? (mP t) with
    | some x =>
      have hm := List.mem_of_find?_eq_some hf
      have hp := List.find?_some hf
      rw [e x hm] at hp
      have hx : t.take 2 = x := by simpa using hp
      refine ⟨by simp [pairF, h2, hasF, hx]; exact hm, by rw [← hx]; simp; omega, hx⟩
    | none =>
      have hn := List.find?_eq_none.1 hf
      simp only [pairF, h2, decide_true, Bool.true_and, hasF]
      rw [← Bool.not_eq_true, List.contains_iff_mem]
      intro hm
      have := hn _ hm
      rw [e _ hm] at this
      simp at this
  · have e : ∀ x ∈ pairs, mP t x = false := fun x hx => by
      simp [pairs] at hx
      rcases hx with rfl | rfl | rfl | rfl | rfl <;> simp [mP, h2]
    rw [List.find?_eq_none.2 (fun x hx => by simp [e x hx])]
    simp [pairF, h2]
theorem find_singles (l : List UInt8) (t : List UInt8) (h : 0 < t.length) : match (l.map fun c => [c]).find? (mP t) with | some x => l.contains t[0] = true ∧ x.length = 1 ∧ t.take 1 = x | none => l.contains t[0] = false := by
  induction l with
  | nil => simp
  | cons c l ih =>
    have e : mP t [c] = (t[0] == c) := by
      match t, h with
      | d :: t, _ => simp [mP]
    rw [List.map_cons, List.find?_cons, e]
    rcases hc : t[0] == c
    · simp only
      have hne : ¬ t[0] = c := by simpa using hc
      have : (c :: l).contains t[0] = l.contains t[0] := by simp [hne]
      rw [this]
      exact ih
    · have he : t[0] = c := by simpa using hc
      refine ⟨by simp [he], rfl, ?_⟩
      match t, h, he with
      | d :: t, _, he => simpa using he
theorem signs_eq : signsF = pairs ++ singles.map fun c => [c] := rfl
/-- The search through the signs, against 'next'. -/
theorem find_signs (t : List UInt8) (h : 0 < t.length) (h1 : letterU t[0] = false) (h2 : digitU t[0] = false) (h3 : ¬ t[0] = 34) :
    match signsF.find? (mP t) with | some x => nextF t = (4, x.length, 0) ∧ t.take x.length = x | none => nextF t = (0, 0, 2) := by
  rw [nextF_eq t h, signs_eq, List.find?_append]
  have hp := find_pairs t h
  have hs := find_singles singles t h
  simp only [h1, h2, h3, Bool.false_eq_true, if_false]
  cases hf : pairs.find? (mP t) with
  | some x =>
    rw [hf] at hp
    simp only at hp
    simp [hp.1, hp.2.1, hp.2.2]
  | none =>
    rw [hf] at hp
    simp only at hp
    simp only [Option.none_or, hp, Bool.false_eq_true, if_false]
    cases hg : (singles.map fun c => [c]).find? (mP t) with
    | some x =>
      rw [hg] at hs
      simp only at hs
      simp only [hs.1, if_true, hs.2.1, hs.2.2, and_self]
    | none =>
      rw [hg] at hs
      simp only at hs
      simp
      simpa using hs
end Go.Proofs.Ytkjikcmjcdlifaa
