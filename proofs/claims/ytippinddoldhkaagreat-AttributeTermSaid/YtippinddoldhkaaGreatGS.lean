/-
  search.twice as a plain function for the generator: does a number occur twice.
-/
import Derived.Test.YtippinddoldhkaaGreatB6
import Derived.Shelf.SortM.Plain
import Derived.Shelf.SortM.SortNone
import Derived.Shelf.Slices.CompactI
import Derived.Test.YtippinddoldhkaaGreatB3
set_option linter.unusedSimpArgs false
set_option linter.unusedVariables false
namespace Go.Proofs.YtippinddoldhkaaGreat
open Go Go.Ew Go.Proofs Go.RowKit
end Go.Proofs.YtippinddoldhkaaGreat
