/-
  TokenTokens returns true for every string. Conditions: none.
-/
import Derived.Test.YtkjikcmjcdlifaaT27
import Derived.Test.YtkjikcmjcdlifaaFr6
namespace Go.Proofs.Ytkjikcmjcdlifaa
open Go Go.Ew
theorem tokenTokens : Rows.TokenTokensSaid := tokenTokens_of fun s _ => tokenTokens_ev s
end Go.Proofs.Ytkjikcmjcdlifaa
