/-
  AttributeTerm returns true for every term and all values. Conditions: none.
-/
import Derived.Test.YtippinddoldhkaaGreatA1
import Derived.Test.YtippinddoldhkaaGreatFrAttributeTerm
import Derived.Test.YtippinddoldhkaaGreatGa14
set_option linter.unusedSimpArgs false
set_option linter.unusedVariables false
namespace Go.Proofs.YtippinddoldhkaaGreat
open Go Go.Ew
theorem attributeTerm : Rows.AttributeTermSaid := attributeTerm_of fun x l _ _ => by
  rw [fm_map]
  exact w_law21_AttributeTerm 100 x l true (lawTerm x l)
end Go.Proofs.YtippinddoldhkaaGreat
