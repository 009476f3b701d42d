/-
  SearchCheck returns true for every case, every match and either truth value. Conditions: none.
-/
import Derived.Test.YtdacgjleiloooaaGreatJ17
import Derived.Test.YtdacgjleiloooaaGreatB4
import Derived.Test.YtdacgjleiloooaaGreatFrSearchCheck
import Derived.Test.YtdacgjleiloooaaGreatGa28
set_option linter.unusedSimpArgs false
set_option linter.unusedVariables false
namespace Go.Proofs.YtdacgjleiloooaaGreat
open Go Go.Ew
theorem searchCheck : Rows.SearchCheckSaid := searchCheck_of fun c m inj w _ _ => w_law17_SearchCheck 2000 c m inj true (lawCheck (wfT_of w.1) (wfG_of w.2.1) (wfG_of w.2.2.1) m inj 2000 (by omega))
end Go.Proofs.YtdacgjleiloooaaGreat
