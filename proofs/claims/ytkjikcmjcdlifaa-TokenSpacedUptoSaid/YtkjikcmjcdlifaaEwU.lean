/-
  The measure of the second form of a seat's statements counts what data hold. (Of the seat's Rows.)
-/
import Derived.Test.YtkjikcmjcdlifaaEwM
import Derived.Test.YtkjikcmjcdlifaaRows
namespace Go.Proofs.Ytkjikcmjcdlifaa
open Go Go.Ew
theorem uptoAll {H : Type} : ∀ l : List (DataW H), Rows.uptoBulkAll l = (l.map Rows.uptoBulk).sum
  | [] => by simp [Rows.uptoBulkAll]
  | d :: r => by rw [Rows.uptoBulkAll, uptoAll r]; rfl
theorem bulkM : BulkM (fun _ d => Rows.uptoBulk d) where
  lit := fun H l => by cases l <;> simp [Rows.uptoBulk]
  str := fun H l => by simp [Rows.uptoBulk]
  nil := fun H => by simp [Rows.uptoBulk]
  slice := fun H es rest => by rw [Rows.uptoBulk, uptoAll, uptoAll]; exact Nat.add_le_add_right (Nat.le_add_right _ _) 1
  agg := fun H es => by rw [Rows.uptoBulk, uptoAll]; exact Nat.le_refl _
end Go.Proofs.Ytkjikcmjcdlifaa
