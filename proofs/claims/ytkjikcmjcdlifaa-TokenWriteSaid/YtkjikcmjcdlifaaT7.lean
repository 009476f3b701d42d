import Derived.Test.YtkjikcmjcdlifaaT6
namespace Go.Proofs.Ytkjikcmjcdlifaa
open Go Go.Ew Go.Proofs Go.RowKit
set_option maxRecDepth 10000
def numStep (n : Int) (c : UInt8) : Int := IntKind.i64.wrap (IntKind.i64.wrap (10 * n) + IntKind.i64.wrap (IntKind.u8.wrap ((c.toNat : Int) - 48)))
def numF (s : List UInt8) : Int := s.foldl numStep 0
theorem numF_take (s : List UInt8) (i : Nat) (h : i < s.length) : numF (s.take (i + 1)) = numStep (numF (s.take i)) s[i] := by
  unfold numF; rw [List.take_succ_eq_append_getElem h, List.foldl_append]; rfl
def tupOk (b : Bool) (n : Int) : AV := if b then .tup [.int n, .int 0] else .tup [.int 0, .int 2]
theorem number_ev (s : List UInt8) (hs : s.length ≤ 9223372036854774000) : PureA Try.prog 12 [.str s] (tupOk (rightF 2 s) (numF s)) := by
  refine pureA_of Try.func12 rfl (by kernel_rfl) (fun σ => ?_)
  simp [go_sem, Try.results12, Try.ntmps12]
  refine EWcall_pure (whole_ev 2 s 0 hs) ?_
  simp only [show addQ 2 s = s from rfl]
  rcases h : rightF 2 s
  · simp [go_sem, tupOk]
  · simp [go_sem, tupOk]
    refine EW_loop (fun n fr τ => ∃ i : Nat, i ≤ s.length ∧ n = s.length - i ∧ fr 0 = .str s ∧ fr 6 = .int (numF (s.take i)) ∧ fr 17 = .int s.length ∧ fr 18 = .int i ∧ τ = σ) s.length ⟨0, by simp [go_sem, numF]⟩ ?_
    rintro n fr τ ⟨i, hi, rfl, h0, h6, h17, h18, rfl⟩
    simp [go_sem, h17, h18]
    by_cases hlt : i < s.length
    · simp [go_sem, hlt, h0, h6, h18]
      have hw : IntKind.i64.wrap ((i : Int) + 1) = ((i + 1 : Nat) : Int) := by rw [wrap64_of _ (by omega) (by omega)]; rfl
      exact ⟨_, by omega, i + 1, hlt, rfl, (numF_take s i hlt).symm, h17, hw⟩
    · have : i = s.length := by omega
      subst this
      simp [go_sem, h6]
end Go.Proofs.Ytkjikcmjcdlifaa
