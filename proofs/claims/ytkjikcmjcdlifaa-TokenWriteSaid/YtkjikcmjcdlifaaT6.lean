import Derived.Test.YtkjikcmjcdlifaaT5
namespace Go.Proofs.Ytkjikcmjcdlifaa
open Go Go.Ew Go.Proofs Go.RowKit
set_option maxRecDepth 10000
def addQ (k : Int) (x : List UInt8) : List UInt8 := if k = 3 then 34 :: (x ++ [34]) else x
def rightF (k : Int) (s : List UInt8) : Bool := !s.isEmpty && decide ((nextF s).2.2 = 0) && decide (((nextF s).1 : Int) = k) && decide ((nextF s).2.1 = s.length)
theorem addQ_len (k : Int) (x : List UInt8) : (addQ k x).length ≤ x.length + 2 := by unfold addQ; split <;> simp
theorem whole_ev (k : Int) (x : List UInt8) (ln : Int) (hs : x.length ≤ 9223372036854774000) :
    PureA Try.prog 29 [.agg [.int k, .str x, .int ln]] (.tup [.str (addQ k x), .bool (rightF k (addQ k x))]) := by
  refine pureA_of Try.func29 rfl (by kernel_rfl) (fun σ => ?_)
  simp [go_sem, Try.results29, Try.ntmps29]
  have hlen := addQ_len k x
  have e1 : (k = 3 → 34 :: (x ++ [34]) = addQ k x) := fun h => by simp [addQ, h]
  have e2 : (k ≠ 3 → x = addQ k x) := fun h => by simp [addQ, h]
  generalize addQ k x = s at hlen e1 e2
  refine EWc_intro (fun h => ?_) (fun h => ?_) <;> simp at h
  · subst h
    have e3 := e1 rfl
    have hne : s ≠ [] := by rw [← e3]; simp
    simp [go_sem, show 1 + x.length ≤ 9223372036854775807 by omega, show x.length + 1 + 1 ≤ 9223372036854775807 by omega]
    rw [e3]
    refine EWcall_pure (next_ev s hne (by omega)) ?_
    unfold rightF
    have hne' : s.isEmpty = false := by simpa using hne
    generalize nextF s = r
    by_cases h1 : r.2.2 = 0
    · by_cases h2 : (r.1 : Int) = 3
      · simp [go_sem, h1, h2, hne']
        omega
      · simp [go_sem, h1, h2, hne']
    · simp [go_sem, h1, hne']
  · have e3 := e2 h
    subst e3
    by_cases hne : x = []
    · subst hne
      simp [go_sem, rightF]
    · simp [go_sem, show (x == []) = false by simpa using hne]
      refine EWcall_pure (next_ev x hne (by omega)) ?_
      unfold rightF
      have hne' : x.isEmpty = false := by simpa using hne
      generalize nextF x = r
      by_cases h1 : r.2.2 = 0
      · by_cases h2 : (r.1 : Int) = k
        · simp [go_sem, h1, h2, h, hne']
          omega
        · simp [go_sem, h1, h2, h, hne']
      · simp [go_sem, h1, hne']
end Go.Proofs.Ytkjikcmjcdlifaa
