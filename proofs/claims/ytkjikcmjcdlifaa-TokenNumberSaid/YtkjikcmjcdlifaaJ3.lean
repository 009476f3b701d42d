/-
  TokenNumber returns true for every string. Conditions: none.
-/
import Derived.Test.YtkjikcmjcdlifaaT15
import Derived.Test.YtkjikcmjcdlifaaT18
import Derived.Test.YtkjikcmjcdlifaaFr3
namespace Go.Proofs.Ytkjikcmjcdlifaa
open Go Go.Ew Go.Proofs Go.RowKit
/-- One string, by content. -/
theorem rvL_string (s : ByteArray) (w : World) : RvL (fun _ => 0) Mem.empty w [.lit (.string s)] [.string s] := by
  refine ⟨rfl, fun j x v hx hv => ?_⟩
  match j with
  | 0 => simp at hx hv; subst hx; subst hv; exact .lit _
  | j + 1 => simp at hx
theorem strLaw3 : StrLaw 3 := by
  intro s w _
  have h := tokenNumber_ev one_ev s.data.toList Mem.empty
  exact calls_of_law (vs := [.string s]) (h.mono fun x _ hx => hx.1) (rvL_string s w)
theorem tokenNumber : Rows.TokenNumberSaid := tokenNumber_of strLaw3
end Go.Proofs.Ytkjikcmjcdlifaa
