/-
  Plain functions and the walks that lead to them, by a program of ours (gen.py): cmp.isNaN_int_, cmp.Less_int_, slices.order2Ordered_int_.
-/
import Derived.Test.YtdacgjleiloooaaGreatGd
import Derived.Test.YtdacgjleiloooaaGreatGT
import Derived.Test.YtdacgjleiloooaaGreatB3
import Derived.Test.YtdacgjleiloooaaGreatGS
set_option linter.unusedSimpArgs false
set_option linter.unusedVariables false
namespace Go.Proofs.YtdacgjleiloooaaGreat
open Go Go.Ew Go.Proofs Go.RowKit
set_option maxRecDepth 100000
end Go.Proofs.YtdacgjleiloooaaGreat
