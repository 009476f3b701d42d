import Derived.Test.YtkjikcmjcdlifaaT3
import Derived.Test.YtkjikcmjcdlifaaEwJ
namespace Go.Proofs.Ytkjikcmjcdlifaa
open Go Go.Ew Go.Proofs Go.RowKit
set_option maxRecDepth 10000
def isPart (c : Int) : Bool := isLetter c || isDigit c || c == 95
def isQ (c : Int) : Bool := decide (32 ≤ c) && decide (c ≤ 126) && c != 34
theorem part_ev (c : Int) : PureA Try.prog 46 [.u8 c] (.bool (isPart c)) := by
  refine pureA_of Try.func46 rfl (by kernel_rfl) (fun σ => ?_)
  simp [go_sem, Try.results46, Try.ntmps46]
  refine EWcall_pure (letter_ev _) ?_
  unfold isPart
  rcases h1 : isLetter c <;> simp [go_sem]
  refine EWcall_pure (digit_ev _) ?_
  rcases h2 : isDigit c <;> simp [go_sem]
theorem q_ev (c : Int) : PureA Try.prog 57 [.u8 c] (.bool (isQ c)) := by
  refine pureA_of Try.func57 rfl (by kernel_rfl) (fun σ => ?_)
  simp [go_sem, Try.results57, Try.ntmps57]
  unfold isQ
  rcases h1 : decide (32 ≤ c) <;> rcases h2 : decide (c ≤ 126) <;> simp [go_sem, h2]
theorem takeWhile_drop (p : UInt8 → Bool) (s : List UInt8) (i : Nat) (h : i < s.length) : (s.drop i).takeWhile p = if p s[i] then s[i] :: (s.drop (i + 1)).takeWhile p else [] := by
  rw [List.drop_eq_getElem_cons h, List.takeWhile_cons]
theorem takeWhile_le (p : UInt8 → Bool) (s : List UInt8) : (s.takeWhile p).length ≤ s.length := List.Sublist.length_le (List.takeWhile_sublist p)
theorem run_ev {f : FuncId} {p : UInt8 → Bool} (hp : ∀ c : UInt8, PureA Try.prog f [.u8 c.toNat] (.bool (p c))) (s : List UInt8) (hs : s.length ≤ 9223372036854775807) :
    PureA Try.prog 31 [.str s, .fn f []] (.int (s.takeWhile p).length) := by
  refine pureA_of Try.func31 rfl (by kernel_rfl) (fun σ => ?_)
  simp [go_sem, Try.results31, Try.ntmps31]
  refine EW_loop (fun n fr τ => ∃ i : Nat, i ≤ s.length ∧ n = s.length - i ∧ i + ((s.drop i).takeWhile p).length = (s.takeWhile p).length ∧ fr 0 = .str s ∧ fr 1 = .fn f [] ∧ fr 5 = .int i ∧ τ = σ) s.length ⟨0, by simp [go_sem]⟩ ?_
  rintro n fr τ ⟨i, hi, rfl, hR, h0, h1, h5, rfl⟩
  simp [go_sem, h0, h5]
  by_cases hlt : i < s.length
  · simp [go_sem, hlt, h0, h1, h5]
    rw [takeWhile_drop p s i hlt] at hR
    refine EWcall_pure (hp _) ?_
    rcases hc : p s[i] <;> simp [go_sem, h5] <;> simp [hc] at hR
    · omega
    · have hw : IntKind.i64.wrap ((i : Int) + 1) = ((i + 1 : Nat) : Int) := by rw [wrap64_of _ (by omega) (by omega)]; rfl
      exact ⟨_, by omega, i + 1, hlt, rfl, by omega, h0, h1, hw⟩
  · have : i = s.length := by omega
    subst this
    simp at hR
    simp [go_sem, h5, hR]
def letterU (c : UInt8) : Bool := isLetter c.toNat
def digitU (c : UInt8) : Bool := isDigit c.toNat
def partU (c : UInt8) : Bool := isPart c.toNat
def qU (c : UInt8) : Bool := isQ c.toNat
def nlU (c : UInt8) : Bool := (c.toNat : Int) != 10
def quotedF (s : List UInt8) : Nat × Nat :=
  let n := ((s.drop 1).takeWhile qU).length
  if 1 + n = s.length ∨ s.getD (1 + n) 0 ≠ 34 then (0, 2) else if 60 < n then (0, 3) else (n + 2, 0)
theorem quoted_ev (s : List UInt8) (h0 : s ≠ []) (hs : s.length ≤ 9223372036854775000) : PureA Try.prog 48 [.str s] (.tup [.int (quotedF s).1, .int (quotedF s).2]) := by
  have hpos : 0 < s.length := List.length_pos_iff.2 h0
  refine pureA_of Try.func48 rfl (by kernel_rfl) (fun σ => ?_)
  simp [go_sem, Try.results48, Try.ntmps48, show (1 : Int) ≤ s.length by omega]
  refine EWcall_pure (run_ev (p := qU) (fun c => q_ev _) s.tail (by simp; omega)) ?_
  have hle := takeWhile_le qU s.tail
  simp at hle
  have hF : quotedF s = let n := (s.tail.takeWhile qU).length; if 1 + n = s.length ∨ s.getD (1 + n) 0 ≠ 34 then (0, 2) else if 60 < n then (0, 3) else (n + 2, 0) := by simp [quotedF]
  rw [hF]
  generalize (s.tail.takeWhile qU).length = n at hle
  obtain ⟨m, hm⟩ : ∃ m, m = 1 + n := ⟨_, rfl⟩
  have hw : IntKind.i64.wrap (1 + (n : Int)) = (m : Int) := by rw [wrap64_of _ (by omega) (by omega)]; omega
  obtain ⟨m2, hm2⟩ : ∃ m, m = n + 2 := ⟨_, rfl⟩
  have hw2 : IntKind.i64.wrap ((n : Int) + 2) = (m2 : Int) := by rw [wrap64_of _ (by omega) (by omega)]; omega
  simp only [← hm, ← hm2]
  by_cases h1 : m = s.length
  · simp [go_sem, hw, h1]
  · have h2 : m < s.length := by omega
    have h3 : ¬ ((m : Int) = s.length) := by omega
    have h4 := u8_lit s[m] 34 (by decide)
    simp at h4
    by_cases h5 : s[m] = 34
    · simp [go_sem, hw, h1, h2, h3, h5]
      by_cases h6 : 60 < n
      · simp [go_sem, h6, show (60 : Int) < n by omega]
      · simp [go_sem, h6, hw2, show ¬ (60 : Int) < n by omega]
    · simp [go_sem, hw, h1, h2, h3, h4, h5]
end Go.Proofs.Ytkjikcmjcdlifaa
