import Derived.Test.YtkjikcmjcdlifaaT14
import Derived.Test.YtkjikcmjcdlifaaT11
namespace Go.Proofs.Ytkjikcmjcdlifaa
open Go Go.Ew Go.Proofs Go.RowKit
set_option maxRecDepth 10000
theorem tokenNumber_ev (one_ev : OneC) (s : List UInt8) : PureA Try.prog 3 [.str s] (.bool true) := by
  refine pureA_of Try.func3 rfl (by kernel_rfl) (fun σ => ?_)
  simp [go_sem, Try.results3, Try.ntmps3]
  refine EWcall_pure awake_ev ?_
  by_cases hbig : 100 < s.length
  · simp [go_sem, hbig, show (100 : Int) < s.length by omega]
    refine EWcall_pure awake_ev ?_
    simp [go_sem]
  have hs : s.length ≤ 100 := by omega
  simp [go_sem, hbig, show ¬ (100 : Int) < s.length by omega]
  refine EWcall_pure (number_ev s (by omega)) ?_
  have hz := right2_zero s
  have hn := numF_zero s
  rcases hr : rightF 2 s
  · simp [go_sem, tupOk]
    refine EWcall_pure (rnumber_ev one_ev s (by omega)) ?_
    simp [go_sem, tupOk, hr]
  · simp [go_sem, tupOk]
    refine EWcall_pure (rnumber_ev one_ev s (by omega)) ?_
    simp [go_sem, tupOk, hr]
    by_cases h8 : 8 < s.length
    · simp [go_sem, show (8 : Int) < s.length by omega]
    · simp [go_sem, show ¬ (8 : Int) < s.length by omega, show 1 + s.length ≤ 9223372036854775807 by omega, show s.length + 1 ≤ 9223372036854775807 by omega]
      refine EWcall_pure (number_ev (48 :: s) (by simp; omega)) ?_
      rw [hz hr (by omega), hn]
      simp [go_sem, tupOk]
end Go.Proofs.Ytkjikcmjcdlifaa
