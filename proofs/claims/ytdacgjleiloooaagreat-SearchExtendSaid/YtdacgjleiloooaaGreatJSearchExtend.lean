/-
  SearchExtend returns true for every case, every partial match and either truth value. Conditions: none.
-/
import Derived.Test.YtdacgjleiloooaaGreatJ17
import Derived.Test.YtdacgjleiloooaaGreatFrSearchExtend
import Derived.Test.YtdacgjleiloooaaGreatGa16
set_option linter.unusedSimpArgs false
set_option linter.unusedVariables false
namespace Go.Proofs.YtdacgjleiloooaaGreat
open Go Go.Ew
theorem searchExtend : Rows.SearchExtendSaid := searchExtend_of fun c m inj w _ _ => w_law17_SearchExtend 2000 c m inj true (lawExtend (wfT_of w.1) (wfG_of w.2.1) (wfG_of w.2.2.1) m inj 2000 (by omega))
end Go.Proofs.YtdacgjleiloooaaGreat
