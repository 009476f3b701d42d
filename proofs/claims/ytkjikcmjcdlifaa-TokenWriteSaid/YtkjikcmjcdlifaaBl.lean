import Derived.Test.YtkjikcmjcdlifaaProg
import Derived.Lib.Builder
import Derived.Lib.UnsafeStr
import Derived.WalkKit
import Derived.Laws.Externs
import Derived.KernelRfl
namespace Go.Proofs.Ytkjikcmjcdlifaa
open Go Go.RowKit Go.Proofs
set_option maxHeartbeats 1000000 in
set_option maxRecDepth 100000 in
theorem copyCheck_used (b : Nat) (w : World) (h0 : w.cell? ⟨b, 0, none⟩ = some (.pointer (some ⟨b, 0, none⟩))) :
    Calls Try.prog 30 #[.pointer (some ⟨b, 0, none⟩)] w fun e w' => e = .returned (.tuple #[]) ∧ w' = w := by
  obtain ⟨j, hj, _⟩ := Option.map_eq_some_iff.1 (show (Try.prog.info? 31).map (·.size) = some 2 by kernel_rfl)
  go_enter Try.func30, Try.ntmps30
  go_wp2
  rw [Lib.run_neq_ptr_same w _ (show Try.prog.underlying 28 = some (.pointer 31) by kernel_rfl) hj]
  go_wp2
  go_end0
  exact ⟨rfl, rfl⟩

set_option maxHeartbeats 1000000 in
set_option maxRecDepth 100000 in
theorem copyCheck_fresh (b : Nat) (w : World) (h0 : w.cell? ⟨b, 0, none⟩ = some (.pointer none)) (cells : Nat) (hsh : w.shape? b = some (31, cells)) (hc : 2 ≤ cells) (hfz : w.frozen? ⟨b, 0, none⟩ = false) (hlies : liesAt Try.prog Try.prog.depth 31 (cells / Try.prog.cellsOf 31) 0 31 1 = true) :
    Calls Try.prog 30 #[.pointer (some ⟨b, 0, none⟩)] w fun e w' => e = .returned (.tuple #[]) ∧ w' = w.setCell ⟨b, 0, none⟩ (.pointer (some ⟨b, 0, none⟩)) := by
  obtain ⟨j, hj, hjs⟩ := Option.map_eq_some_iff.1 (show (Try.prog.info? 31).map (·.size) = some 2 by kernel_rfl)
  go_enter Try.func30, Try.ntmps30
  go_wp2
  rw [Lib.run_to_unsafe w ⟨b, 0, none⟩ (show Try.prog.underlying 28 = some (.pointer 31) by kernel_rfl) (show Try.prog.underlying 68 = some .unsafePointer by kernel_rfl) hj (by rw [hjs]; decide) hsh (show 0 < cells by omega)]
  simp only [Result.andThen]
  rw [Oper.upon_value]
  go_wp2
  rw [run_callFunc_extern (show Try.prog.funcs[44]? = some Try.f44 by kernel_rfl) (by kernel_rfl) (by kernel_rfl) (by kernel_rfl) (e := Extern.AbiNoEscape.same) (by kernel_rfl)]
  rw [Lib.run_noEscape]
  simp only [Result.andThen]
  rw [Oper.upon_value]
  go_wp2
  rw [Lib.run_from_unsafe w ⟨b, 0, none⟩ (show Try.prog.underlying 68 = some .unsafePointer by kernel_rfl) (show Try.prog.underlying 28 = some (.pointer 31) by kernel_rfl) hj hsh hlies]
  simp only [Result.andThen]
  rw [Oper.upon_value]
  go_wp2
  go_end0
  exact ⟨rfl, rfl⟩

set_option maxHeartbeats 1000000 in
set_option maxRecDepth 100000 in
theorem bldString (b g cap : Nat) (cb cur : Array Value) (l : List UInt8) (w : World) (hb : w.heap[b]? = some (.cells cb 31 (0, 0))) (hv : cb[1]? = some (.slice (some ⟨g, 0, none⟩) l.length cap)) (h0 : l ≠ [])
    (hg : w.heap[g]? = some (.cells cur 5 (0, 0))) (hnc : l.length ≤ cap) (hcm : cap ≤ maxLen) (hcs : cap ≤ cur.size) (hcell : ∀ (j : Nat) (x : UInt8), l[j]? = some x → cur[j]? = some (Value.int .u8 x.toNat)) :
    Calls Try.prog 16 #[.pointer (some ⟨b, 0, none⟩)] w fun e w' => e = .returned (.string ⟨l.toArray⟩) ∧ w' = w.drew.freeze ⟨g, 0, none⟩ l.length := by
  have hl0 : l.length ≠ 0 := by simpa using h0
  have c1 : w.drew.cell? ⟨b, 1, none⟩ = some (.slice (some ⟨g, 0, none⟩) l.length cap) := by
    have : w.drew.heap[b]? = some (.cells cb 31 (0, 0)) := hb
    rw [Lib.cell_of_heap this]; exact hv
  have hSD : (Builtin.unsafeSliceData_ #[29] 58 #[.slice (some ⟨g, 0, none⟩) l.length cap]).run Try.prog w.drew = .ok (.pointer (some ⟨g, 0, none⟩)) w.drew :=
    Lib.run_unsafeSliceData_row _ _ _ _ _ _ (by omega)
  have hUS : (Builtin.unsafeString_ #[58, 3] 9 #[.pointer (some ⟨g, 0, none⟩), .int .i64 l.length]).run Try.prog w.drew = .ok (.string ⟨l.toArray⟩) (w.drew.freeze ⟨g, 0, none⟩ l.length) := by
    refine Lib.run_unsafeString_row w.drew 58 3 9 5 (by kernel_rfl) (by kernel_rfl) g cur.size (by have hg' : w.drew.heap[g]? = some (.cells cur 5 (0, 0)) := hg; simp [World.shape?, hg']) l h0 (by omega) (by unfold maxLen at hcm; omega) ?_
    intro j x hx
    have hg' : w.drew.heap[g]? = some (.cells cur 5 (0, 0)) := hg
    rw [Addr.add_lit, Nat.zero_add, Lib.cell_of_heap hg']
    exact hcell j x hx
  go_enter Try.func16, Try.ntmps16
  go_wp2
  go_region
  all_goals (go_wp2; go_ret; exact ⟨rfl, rfl⟩)

theorem bldString_nil (b : Nat) (cb : Array Value) (w : World) (hb : w.heap[b]? = some (.cells cb 31 (0, 0))) (hv : cb[1]? = some (.slice none 0 0)) :
    Calls Try.prog 16 #[.pointer (some ⟨b, 0, none⟩)] w fun e w' => e = .returned (.string ⟨#[]⟩) ∧ w' = w.drew := by
  have c1 : w.drew.cell? ⟨b, 1, none⟩ = some (.slice none 0 0) := by
    have : w.drew.heap[b]? = some (.cells cb 31 (0, 0)) := hb
    rw [Lib.cell_of_heap this]; exact hv
  have hSD : (Builtin.unsafeSliceData_ #[29] 58 #[.slice none 0 0]).run Try.prog w.drew = .ok (.pointer none) w.drew := Lib.run_unsafeSliceData_nil _ _ _ _ _
  have hUS : (Builtin.unsafeString_ #[58, 3] 9 #[.pointer none, .int .i64 0]).run Try.prog w.drew = .ok (.string .empty) w.drew := Lib.run_unsafeString_none w.drew _ _ _ _
  go_enter Try.func16, Try.ntmps16
  go_wp2
  go_region
  all_goals (go_wp2; go_ret; exact ⟨rfl, rfl⟩)
end Go.Proofs.Ytkjikcmjcdlifaa
