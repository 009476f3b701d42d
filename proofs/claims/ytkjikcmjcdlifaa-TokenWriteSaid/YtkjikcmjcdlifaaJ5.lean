/-
  TokenWrite returns true for every list of tokens. Conditions: none.
-/
import Derived.Test.YtkjikcmjcdlifaaT28
import Derived.Test.YtkjikcmjcdlifaaFr5
namespace Go.Proofs.Ytkjikcmjcdlifaa
open Go Go.Ew
theorem tokenWrite : Rows.TokenWriteSaid := tokenWrite_of fun l hl => tokenWrite_ev l fun t ht => hl.2 t ht
end Go.Proofs.Ytkjikcmjcdlifaa
