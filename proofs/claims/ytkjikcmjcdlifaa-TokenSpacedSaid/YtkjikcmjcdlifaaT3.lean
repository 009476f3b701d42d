import Derived.Test.YtkjikcmjcdlifaaTy
namespace Go.Proofs.Ytkjikcmjcdlifaa
open Go Go.Ew Go.Proofs
set_option maxRecDepth 10000
def isLetter (c : Int) : Bool := (decide (97 ≤ c) && decide (c ≤ 122)) || (decide (65 ≤ c) && decide (c ≤ 90))
def isDigit (c : Int) : Bool := decide (48 ≤ c) && decide (c ≤ 57)
theorem digit_ev (c : Int) : PureA Try.prog 47 [.u8 c] (.bool (isDigit c)) := by
  refine pureA_of Try.func47 rfl (by kernel_rfl) (fun σ => ?_)
  simp [go_sem, Try.results47, Try.ntmps47]
  refine EWg_intro (fun h => ?_) (fun h => ?_) <;> simp at h
  · simp [go_sem, h, isDigit]
  · have h' : ¬ (48 ≤ c) := by omega
    simp [go_sem, h', isDigit]
theorem letter_ev (c : Int) : PureA Try.prog 45 [.u8 c] (.bool (isLetter c)) := by
  refine pureA_of Try.func45 rfl (by kernel_rfl) (fun σ => ?_)
  simp [go_sem, Try.results45, Try.ntmps45]
  unfold isLetter
  rcases h1 : decide (97 ≤ c) <;> rcases h2 : decide (c ≤ 122) <;> rcases h3 : decide (65 ≤ c) <;> simp [go_sem, h2, h3]
theorem neNl_ev (c : Int) : PureA Try.prog 32 [.u8 c] (.bool (c != 10)) := by
  refine pureA_of Try.func32 rfl (by kernel_rfl) (fun σ => ?_)
  simp [go_sem, Try.results32, Try.ntmps32]
end Go.Proofs.Ytkjikcmjcdlifaa
