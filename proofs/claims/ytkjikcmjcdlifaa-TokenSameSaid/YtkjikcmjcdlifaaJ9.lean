/-
  TokenSame returns true for every two lists of tokens. Conditions: none.
-/
import Derived.Test.YtkjikcmjcdlifaaT25
import Derived.Test.YtkjikcmjcdlifaaFr9
namespace Go.Proofs.Ytkjikcmjcdlifaa
open Go Go.Ew
theorem tokenSame : Rows.TokenSameSaid := tokenSame_of fun a b _ _ => tokenSame_ev a b
end Go.Proofs.Ytkjikcmjcdlifaa
