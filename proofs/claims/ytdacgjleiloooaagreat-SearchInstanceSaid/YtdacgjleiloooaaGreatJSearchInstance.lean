/-
  SearchInstance returns true for every case and every match. Conditions: none.
-/
import Derived.Test.YtdacgjleiloooaaGreatJ17
import Derived.Test.YtdacgjleiloooaaGreatFrSearchInstance
import Derived.Test.YtdacgjleiloooaaGreatGa23
set_option linter.unusedSimpArgs false
set_option linter.unusedVariables false
namespace Go.Proofs.YtdacgjleiloooaaGreat
open Go Go.Ew
theorem searchInstance : Rows.SearchInstanceSaid := searchInstance_of fun c m w _ => w_law17_SearchInstance 2000 c m true (lawInstance (wfT_of w.1) (wfG_of w.2.1) (wfG_of w.2.2.1) m 2000 (by omega))
end Go.Proofs.YtdacgjleiloooaaGreat
