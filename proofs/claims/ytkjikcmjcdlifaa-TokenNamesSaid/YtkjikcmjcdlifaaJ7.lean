/-
  TokenNames returns true for every string. Conditions: none.
-/
import Derived.Test.YtkjikcmjcdlifaaT25
import Derived.Test.YtkjikcmjcdlifaaFr7
namespace Go.Proofs.Ytkjikcmjcdlifaa
open Go Go.Ew
theorem tokenNames : Rows.TokenNamesSaid := tokenNames_of fun s _ => tokenNames_ev s
end Go.Proofs.Ytkjikcmjcdlifaa
