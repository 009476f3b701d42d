/-
  SearchAll returns true for every case and either truth value. Conditions: none.
-/
import Derived.Test.YtdacgjleiloooaaGreatJ17
import Derived.Test.YtdacgjleiloooaaGreatB4
import Derived.Test.YtdacgjleiloooaaGreatFrSearchAll
import Derived.Test.YtdacgjleiloooaaGreatGa22
set_option linter.unusedSimpArgs false
set_option linter.unusedVariables false
namespace Go.Proofs.YtdacgjleiloooaaGreat
open Go Go.Ew
theorem searchAll : Rows.SearchAllSaid := searchAll_of fun c inj w _ => w_law17_SearchAll 2000 c inj true (lawAll (wfT_of w.1) (wfG_of w.2.1) (wfG_of w.2.2.1) inj 2000 (by omega))
end Go.Proofs.YtdacgjleiloooaaGreat
