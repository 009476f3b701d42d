/-
  TokenWrite returns true for every list of tokens of bulk at most 1048576 (the second form of the statement). Conditions: none.
-/
import Derived.Test.YtkjikcmjcdlifaaT28
import Derived.Test.YtkjikcmjcdlifaaFr5
namespace Go.Proofs.Ytkjikcmjcdlifaa
open Go Go.Ew
theorem tokenWrite : Rows.TokenWriteUptoSaid := tokenWrite_of fun l _ hb => tokenWrite_ev l hb
end Go.Proofs.Ytkjikcmjcdlifaa
