/-
  TokenMany returns true for every two numbers. Conditions: none.
-/
import Derived.Test.YtkjikcmjcdlifaaT21
import Derived.Test.YtkjikcmjcdlifaaFr4
namespace Go.Proofs.Ytkjikcmjcdlifaa
open Go Go.Ew Go.Proofs Go.RowKit
theorem walkTokenMany : WalkTokenMany := by
  intro a b ha hb
  simp only [Lit.wf, Bool.and_eq_true, decide_eq_true_eq] at ha hb
  have ha1 : IntKind.u16.min = 0 := rfl
  have hb1 : IntKind.u8.min = 0 := rfl
  have hb2 : IntKind.u8.max = 255 := rfl
  obtain ⟨n, rfl⟩ : ∃ n : Nat, a = n := ⟨a.toNat, by omega⟩
  obtain ⟨r, rfl⟩ : ∃ r : Nat, b = r := ⟨b.toNat, by omega⟩
  exact tokenMany_ev n r (by omega)
theorem tokenMany : Rows.TokenManySaid := tokenMany_of walkTokenMany
end Go.Proofs.Ytkjikcmjcdlifaa
