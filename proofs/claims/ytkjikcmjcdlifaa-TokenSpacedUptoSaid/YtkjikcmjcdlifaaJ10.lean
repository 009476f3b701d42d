/-
  TokenSpaced returns true for every list of tokens and every list of numbers, together of bulk at most 1048576 (the second form of the statement). Conditions: none.
-/
import Derived.Test.YtkjikcmjcdlifaaT31
import Derived.Test.YtkjikcmjcdlifaaFr10
namespace Go.Proofs.Ytkjikcmjcdlifaa
open Go Go.Ew
theorem tokenSpaced : Rows.TokenSpacedUptoSaid := tokenSpaced_of fun l g _ hg hb => tokenSpaced_ev l g hg.2 (by omega)
end Go.Proofs.Ytkjikcmjcdlifaa
