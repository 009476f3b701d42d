import Derived.Test.YtkjikcmjcdlifaaT10
namespace Go.Proofs.Ytkjikcmjcdlifaa
open Go Go.Ew Go.Proofs Go.RowKit
set_option maxRecDepth 10000
def awakeS : List UInt8 := [101, 100, 103, 101, 32, 97, 45, 62, 10, 98, 32, 35, 32, 120]
def awakeL : List Tk := [⟨1, [101, 100, 103, 101], 1⟩, ⟨1, [97], 1⟩, ⟨4, [45, 62], 1⟩, ⟨1, [98], 2⟩]
theorem awake_tokens : tokensF awakeS = (awakeL, 0, 0) := by kernel_rfl
theorem awake_write : writeF awakeL = ([101, 100, 103, 101, 32, 97, 32, 45, 62, 10, 98], 0) := by kernel_rfl
theorem awake_num : numF [48, 48, 55] = 7 := by kernel_rfl
theorem awake_r : rightF 2 [48, 48, 55] = true := by kernel_rfl
theorem awake_n : rightF 1 [101, 100, 103, 101] = true := by kernel_rfl
theorem awake_ev : PureA Try.prog 11 [] (.bool true) := by
  refine pureA_of Try.func11 rfl (by kernel_rfl) (fun σ => ?_)
  simp [go_sem, Try.results11, Try.ntmps11]
  refine EWcall_pure (tokens_ev awakeS) ?_
  rw [awake_tokens]
  simp [go_sem, tokD]
  refine EWcall_pure (write_ev awakeL (by decide) (by decide)) ?_
  rw [awake_write]
  simp [go_sem]
  refine EWcall_pure (number_ev [48, 48, 55] (by decide)) ?_
  rw [awake_r, awake_num]
  simp [go_sem, tupOk, awakeL, tksC, tkC]
  refine EWcall_pure (isName_ev [101, 100, 103, 101] (by decide)) ?_
  rw [awake_n]
  simp [go_sem]
end Go.Proofs.Ytkjikcmjcdlifaa
