/-
  SearchFirst returns true for every case and either truth value. Conditions: none.
-/
import Derived.Test.YtdacgjleiloooaaGreatJ17
import Derived.Test.YtdacgjleiloooaaGreatFrSearchFirst
import Derived.Test.YtdacgjleiloooaaGreatGa18
set_option linter.unusedSimpArgs false
set_option linter.unusedVariables false
namespace Go.Proofs.YtdacgjleiloooaaGreat
open Go Go.Ew
theorem searchFirst : Rows.SearchFirstSaid := searchFirst_of fun c inj w _ => w_law17_SearchFirst 2000 c inj true (lawFirst (wfT_of w.1) (wfG_of w.2.1) (wfG_of w.2.2.1) inj 2000 (by omega))
end Go.Proofs.YtdacgjleiloooaaGreat
