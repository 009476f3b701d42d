/-
  TokenAgain returns true for every string. Conditions: none.
-/
import Derived.Test.YtkjikcmjcdlifaaT25
import Derived.Test.YtkjikcmjcdlifaaFr8
namespace Go.Proofs.Ytkjikcmjcdlifaa
open Go Go.Ew
theorem tokenAgain : Rows.TokenAgainSaid := tokenAgain_of fun s _ => tokenAgain_ev s
end Go.Proofs.Ytkjikcmjcdlifaa
