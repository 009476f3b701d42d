/-
  TokenSpaced returns true for every list of tokens and every list of numbers. Conditions: none.
-/
import Derived.Test.YtkjikcmjcdlifaaT31
import Derived.Test.YtkjikcmjcdlifaaFr10
namespace Go.Proofs.Ytkjikcmjcdlifaa
open Go Go.Ew
theorem tokenSpaced : Rows.TokenSpacedSaid := tokenSpaced_of fun l g hl hg => tokenSpaced_ev l g hg.2 fun t ht => hl.2 t ht
end Go.Proofs.Ytkjikcmjcdlifaa
