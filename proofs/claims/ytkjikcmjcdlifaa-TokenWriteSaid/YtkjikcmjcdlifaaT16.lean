import Derived.Test.YtkjikcmjcdlifaaT13
namespace Go.Proofs.Ytkjikcmjcdlifaa
open Go Go.Ew Go.Proofs Go.RowKit
set_option maxRecDepth 10000
def signsF : List (List UInt8) := pairs ++ [[123], [125], [40], [41], [91], [93], [44], [59], [58], [61], [43], [45], [42], [60], [62], [33], [38], [124], [46], [63]]
set_option maxHeartbeats 2000000 in
theorem signs_ev : PureA Try.prog 55 [] (.imm 25 (signsF.map AV.str)) := by
  refine pureA_of Try.func55 rfl (by kernel_rfl) (fun σ => ?_)
  simp [go_sem, Try.results55, Try.ntmps55]
  refine frz_arr (Nat.le_refl _) ?_ ?_
  · simp [go_sem, signsF, pairs]
  · exact DataL.map (fun a => .lit _) _
end Go.Proofs.Ytkjikcmjcdlifaa
