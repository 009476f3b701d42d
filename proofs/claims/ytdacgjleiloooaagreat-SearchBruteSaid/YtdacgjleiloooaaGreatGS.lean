/-
  search.twice as a plain function for the generator: does a number occur twice.
-/
import Derived.Test.YtdacgjleiloooaaGreatB6
import Derived.Shelf.SortM.Plain
import Derived.Shelf.SortM.SortNone
import Derived.Shelf.Slices.CompactI
import Derived.Test.YtdacgjleiloooaaGreatB3
set_option linter.unusedSimpArgs false
set_option linter.unusedVariables false
namespace Go.Proofs.YtdacgjleiloooaaGreat
open Go Go.Ew Go.Proofs Go.RowKit
theorem sortOk : SortOk := ⟨fun blk off cap ss W h1 h2 h3 => AnyM.slices_Sort_int sortL blk off cap ss W h1 h2 h3, fun p cap W => AnyM.slices_Sort_int_none sortL p cap W⟩
theorem compactOk : CompactOk := ⟨fun blk off cap zs w h1 h2 h3 => Any.slices_Compact_int compactL blk off cap zs w h1 h2 h3, fun a cap w => Any.slices_Compact_int_empty compactL a cap w⟩
def s_search_twice (l : List Int) : Option Bool := if l.length ≤ 1000000 then some (decide (¬ l.Nodup)) else none
theorem w_search_twice (l : List Int) (r : Bool) (h : s_search_twice l = some r) : PureA Tryz.prog 49 [intsA l] (.bool r) := by
  obtain ⟨h1, rfl⟩ := some_of_if h
  exact twice_ev sortOk compactOk l h1
end Go.Proofs.YtdacgjleiloooaaGreat
