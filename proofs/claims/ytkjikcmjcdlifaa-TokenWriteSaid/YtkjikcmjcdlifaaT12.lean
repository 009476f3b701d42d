import Derived.Test.YtkjikcmjcdlifaaT7
namespace Go.Proofs.Ytkjikcmjcdlifaa
open Go Go.Ew Go.Proofs Go.RowKit
set_option maxRecDepth 10000
theorem rletter_ev (c : Int) : PureA Try.prog 51 [.u8 c] (.bool (isLetter c)) := by
  refine pureA_of Try.func51 rfl (by kernel_rfl) (fun σ => ?_)
  simp [go_sem, Try.results51, Try.ntmps51]
  unfold isLetter
  rcases h1 : decide (97 ≤ c) <;> rcases h2 : decide (c ≤ 122) <;> rcases h3 : decide (65 ≤ c) <;> simp [go_sem, h2, h3]
theorem rdigit_ev (c : Int) : PureA Try.prog 52 [.u8 c] (.bool (isDigit c)) := by
  refine pureA_of Try.func52 rfl (by kernel_rfl) (fun σ => ?_)
  simp [go_sem, Try.results52, Try.ntmps52]
  unfold isDigit
  rcases h1 : decide (48 ≤ c) <;> simp [go_sem]
theorem rtext_ev (k : Int) (x : List UInt8) (ln : Int) (hs : x.length ≤ 9223372036854774000) : PureA Try.prog 36 [.agg [.int k, .str x, .int ln]] (.str (addQ k x)) := by
  refine pureA_of Try.func36 rfl (by kernel_rfl) (fun σ => ?_)
  simp [go_sem, Try.results36, Try.ntmps36]
  unfold addQ
  by_cases h : k = 3
  · simp [go_sem, h, show 1 + x.length ≤ 9223372036854775807 by omega, show x.length + 1 + 1 ≤ 9223372036854775807 by omega]
  · simp [go_sem, h]
/-- What 'run' of the reference counts: digits, or the parts of a name. -/
def runP (d : Bool) (c : UInt8) : Bool := if d then digitU c else partU c
theorem rrun_ev (s : List UInt8) (a : Nat) (d : Bool) (ha : a ≤ s.length) (hs : s.length ≤ 9223372036854774000) :
    PureA Try.prog 53 [.str s, .int a, .bool d] (.int ((s.drop a).takeWhile (runP d)).length) := by
  refine pureA_of Try.func53 rfl (by kernel_rfl) (fun σ => ?_)
  simp [go_sem, Try.results53, Try.ntmps53]
  refine EW_loop (fun n fr τ => ∃ i : Nat, a + i ≤ s.length ∧ n = s.length - (a + i) ∧ i + ((s.drop (a + i)).takeWhile (runP d)).length = ((s.drop a).takeWhile (runP d)).length ∧ fr 0 = .str s ∧ fr 1 = .int a ∧ fr 2 = .bool d ∧ fr 7 = .int i ∧ τ = σ) (s.length - a) ⟨0, by simp [go_sem]; omega⟩ ?_
  rintro n fr τ ⟨i, hi, rfl, hR, h0, h1, h2, h7, rfl⟩
  obtain ⟨j, hj⟩ : ∃ j, j = a + i := ⟨_, rfl⟩
  have hw : IntKind.i64.wrap ((a : Int) + i) = (j : Int) := by rw [wrap64_of _ (by omega) (by omega)]; omega
  simp only [← hj] at hR hi
  simp [go_sem, h0, h1, h7, hw]
  by_cases hlt : j < s.length
  · rw [takeWhile_drop _ s j hlt] at hR
    have hwi : IntKind.i64.wrap ((i : Int) + 1) = ((i + 1 : Nat) : Int) := by rw [wrap64_of _ (by omega) (by omega)]; rfl
    have u95 := u8_lit s[j] 95 (by decide)
    simp at u95
    simp [go_sem, hlt, h0, h1, h7, hw]
    refine EWcall_pure (rdigit_ev _) ?_
    rcases hd : isDigit s[j].toNat
    · rcases d
      · simp [go_sem, h2, h0, h1, h7, hw, hlt]
        refine EWcall_pure (rletter_ev _) ?_
        rcases hle : isLetter s[j].toNat
        · by_cases h95 : s[j] = 95
          · rw [if_pos (by simp [runP, partU, isPart, h95])] at hR
            simp [go_sem, h0, h1, h7, hw, hlt, h95]
            refine ⟨_, ?_, i + 1, by omega, rfl, ?_, h2, hwi⟩
            · omega
            · simp only [List.length_cons] at hR; rw [← hR, show a + (i + 1) = j + 1 by omega]; omega
          · rw [if_neg (by simp [runP, partU, isPart, hd, hle, u95, h95])] at hR
            simp [go_sem, h0, h1, h7, hw, hlt, u95, h95]
            simp at hR; omega
        · rw [if_pos (by simp [runP, partU, isPart, hle])] at hR
          simp [go_sem, h0, h1, h7]
          refine ⟨_, ?_, i + 1, by omega, rfl, ?_, h2, hwi⟩
          · omega
          · simp only [List.length_cons] at hR; rw [← hR, show a + (i + 1) = j + 1 by omega]; omega
      · rw [if_neg (by simp [runP, digitU, hd])] at hR
        simp [go_sem, h2, h7]
        simp at hR; omega
    · rw [if_pos (by cases d <;> simp [runP, digitU, partU, isPart, hd])] at hR
      simp [go_sem, h7]
      refine ⟨_, ?_, i + 1, by omega, rfl, ?_, h0, h1, h2, hwi⟩
      · omega
      · simp only [List.length_cons] at hR; rw [← hR, show a + (i + 1) = j + 1 by omega]; omega
  · have : s.drop j = [] := List.drop_eq_nil_of_le (by omega)
    rw [this] at hR
    simp at hR
    simp [go_sem, hlt, h7]
    omega
end Go.Proofs.Ytkjikcmjcdlifaa
