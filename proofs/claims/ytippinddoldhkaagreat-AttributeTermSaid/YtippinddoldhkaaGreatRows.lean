/-
  No cell of these rows narrows 'for every input' (looked for: loops, veiled, ifaces, maps, wideKeys, modest, calm, conditions, laid).
  DERIVED. THE GIVEN ROWS OF THIS SEAT. 6 by the template 'for every input the law returns true; each argument reads behind the call as it read before'; 0 by the template 'total and deterministic' (their statements: YtippinddoldhkaaGreatTotals.lean).
  GIVEN WITH THE SEED: the statements are not yours to turn. If you find one false, say at which input.
  Laid BY PROGRAM, IN A SANDBOX (cutbox-rows.mjs): the forced cells as the released guide's own fill.sh prints them over the translation b3701ffdd93f9e8d… (all of the seat's roots in one cut). By AI agents, Wed Nov 11 2026. No macro, syntax, notation, axiom, sorry.
-/
import Derived.Test.YtippinddoldhkaaGreatChecked
import GoSem.Claim
import GoSem.ClaimJoined
import GoSem.ClaimMapViews
import Derived.JoinedTies
import Derived.KernelRfl
namespace Go.Proofs.YtippinddoldhkaaGreat
/- THE CELL 'sum', in the pinned program and in every row, IS THE sha256 OF THE DUMP (.gsa) THAT YtippinddoldhkaaGreatProg.lean LOADS. Nothing in Lean hashes anything: it is a label: what it is worth is what the hold of that sum in a sandbox is worth. -/
noncomputable def Tryz.pinned : Pinned := { name := "ytippinddoldhkaagreat", sum := "b3701ffdd93f9e8dc16aca857940f7b880034fefb47f7f580d0d421ea69330c6", checked := Tryz.checked }
namespace Rows
def none {H : Type} : Left H := { results := [], args := [] }

/-- 'scarfjointlaw21.AttributeTerm': WHATEVER THE INPUT: true; the input reads as it did. -/
def attributeTermSpec : ChangeSpec := { name := "attributeTerm", fn := fun _ => fun
  | [d1, d2] => { results := [.lit (.bool true)], args := [d1, d2] }
  | _ => none }
def attributeTermRow : OpenClaim := { program := "ytippinddoldhkaagreat", sum := "b3701ffdd93f9e8dc16aca857940f7b880034fefb47f7f580d0d421ea69330c6", func := "scarfjoint/scarfjointlaw21.AttributeTerm", spec := "attributeTerm", inPlace := ["internal/bytealg.IndexByteString", "math/bits.Add64"], unfollowed := true, recurses := true, apart := false }
def AttributeTermSaid : Prop := attributeTermRow.holds Tryz.pinned (OpenSpec.ofChange attributeTermSpec)

/-- ITS FALSE NEIGHBOUR: 'it returns false'. Refute it at one input. -/
def attributeTermWrong : ChangeSpec := { name := "attributeTerm", fn := fun _ => fun
  | [d1, d2] => { results := [.lit (.bool false)], args := [d1, d2] }
  | _ => none }
def AttributeTermWrongFalsely : Prop := attributeTermRow.holds Tryz.pinned (OpenSpec.ofChange attributeTermWrong)

/-- 'scarfjointlaw21.AttributeValid': WHATEVER THE INPUT: true; the input reads as it did. -/
def attributeValidSpec : ChangeSpec := { name := "attributeValid", fn := fun _ => fun
  | [d1, d2] => { results := [.lit (.bool true)], args := [d1, d2] }
  | _ => none }
def attributeValidRow : OpenClaim := { program := "ytippinddoldhkaagreat", sum := "b3701ffdd93f9e8dc16aca857940f7b880034fefb47f7f580d0d421ea69330c6", func := "scarfjoint/scarfjointlaw21.AttributeValid", spec := "attributeValid", inPlace := ["internal/bytealg.IndexByteString", "math/bits.Add64"], unfollowed := true, recurses := true, apart := false }
def AttributeValidSaid : Prop := attributeValidRow.holds Tryz.pinned (OpenSpec.ofChange attributeValidSpec)

/-- ITS FALSE NEIGHBOUR: 'it returns false'. Refute it at one input. -/
def attributeValidWrong : ChangeSpec := { name := "attributeValid", fn := fun _ => fun
  | [d1, d2] => { results := [.lit (.bool false)], args := [d1, d2] }
  | _ => none }
def AttributeValidWrongFalsely : Prop := attributeValidRow.holds Tryz.pinned (OpenSpec.ofChange attributeValidWrong)

/-- 'scarfjointlaw21.AttributeGround': WHATEVER THE INPUT: true; the input reads as it did. -/
def attributeGroundSpec : ChangeSpec := { name := "attributeGround", fn := fun _ => fun
  | [d1, d2, d3] => { results := [.lit (.bool true)], args := [d1, d2, d3] }
  | _ => none }
def attributeGroundRow : OpenClaim := { program := "ytippinddoldhkaagreat", sum := "b3701ffdd93f9e8dc16aca857940f7b880034fefb47f7f580d0d421ea69330c6", func := "scarfjoint/scarfjointlaw21.AttributeGround", spec := "attributeGround", inPlace := ["internal/bytealg.IndexByteString", "math/bits.Add64"], unfollowed := true, recurses := true, apart := false }
def AttributeGroundSaid : Prop := attributeGroundRow.holds Tryz.pinned (OpenSpec.ofChange attributeGroundSpec)

/-- ITS FALSE NEIGHBOUR: 'it returns false'. Refute it at one input. -/
def attributeGroundWrong : ChangeSpec := { name := "attributeGround", fn := fun _ => fun
  | [d1, d2, d3] => { results := [.lit (.bool false)], args := [d1, d2, d3] }
  | _ => none }
def AttributeGroundWrongFalsely : Prop := attributeGroundRow.holds Tryz.pinned (OpenSpec.ofChange attributeGroundWrong)

/-- 'scarfjointlaw21.AttributeSolve': WHATEVER THE INPUT: true; the input reads as it did. -/
def attributeSolveSpec : ChangeSpec := { name := "attributeSolve", fn := fun _ => fun
  | [d1, d2] => { results := [.lit (.bool true)], args := [d1, d2] }
  | _ => none }
def attributeSolveRow : OpenClaim := { program := "ytippinddoldhkaagreat", sum := "b3701ffdd93f9e8dc16aca857940f7b880034fefb47f7f580d0d421ea69330c6", func := "scarfjoint/scarfjointlaw21.AttributeSolve", spec := "attributeSolve", inPlace := ["internal/bytealg.IndexByteString", "math/bits.Add64"], unfollowed := true, recurses := true, apart := false }
def AttributeSolveSaid : Prop := attributeSolveRow.holds Tryz.pinned (OpenSpec.ofChange attributeSolveSpec)

/-- ITS FALSE NEIGHBOUR: 'it returns false'. Refute it at one input. -/
def attributeSolveWrong : ChangeSpec := { name := "attributeSolve", fn := fun _ => fun
  | [d1, d2] => { results := [.lit (.bool false)], args := [d1, d2] }
  | _ => none }
def AttributeSolveWrongFalsely : Prop := attributeSolveRow.holds Tryz.pinned (OpenSpec.ofChange attributeSolveWrong)

/-- 'scarfjointlaw21.AttributeMatches': WHATEVER THE INPUT: true; the input reads as it did. -/
def attributeMatchesSpec : ChangeSpec := { name := "attributeMatches", fn := fun _ => fun
  | [d1, d2] => { results := [.lit (.bool true)], args := [d1, d2] }
  | _ => none }
def attributeMatchesRow : OpenClaim := { program := "ytippinddoldhkaagreat", sum := "b3701ffdd93f9e8dc16aca857940f7b880034fefb47f7f580d0d421ea69330c6", func := "scarfjoint/scarfjointlaw21.AttributeMatches", spec := "attributeMatches", inPlace := ["internal/bytealg.IndexByteString", "math/bits.Add64"], unfollowed := true, recurses := true, apart := false }
def AttributeMatchesSaid : Prop := attributeMatchesRow.holds Tryz.pinned (OpenSpec.ofChange attributeMatchesSpec)

/-- ITS FALSE NEIGHBOUR: 'it returns false'. Refute it at one input. -/
def attributeMatchesWrong : ChangeSpec := { name := "attributeMatches", fn := fun _ => fun
  | [d1, d2] => { results := [.lit (.bool false)], args := [d1, d2] }
  | _ => none }
def AttributeMatchesWrongFalsely : Prop := attributeMatchesRow.holds Tryz.pinned (OpenSpec.ofChange attributeMatchesWrong)

/-- 'scarfjointlaw21.AttributeExample': WHATEVER THE INPUT: true; the input reads as it did. -/
def attributeExampleSpec : ChangeSpec := { name := "attributeExample", fn := fun _ => fun
  | [d1, d2] => { results := [.lit (.bool true)], args := [d1, d2] }
  | _ => none }
def attributeExampleRow : OpenClaim := { program := "ytippinddoldhkaagreat", sum := "b3701ffdd93f9e8dc16aca857940f7b880034fefb47f7f580d0d421ea69330c6", func := "scarfjoint/scarfjointlaw21.AttributeExample", spec := "attributeExample", inPlace := ["internal/bytealg.IndexByteString", "math/bits.Add64"], unfollowed := true, recurses := true, apart := false }
def AttributeExampleSaid : Prop := attributeExampleRow.holds Tryz.pinned (OpenSpec.ofChange attributeExampleSpec)

/-- ITS FALSE NEIGHBOUR: 'it returns false'. Refute it at one input. -/
def attributeExampleWrong : ChangeSpec := { name := "attributeExample", fn := fun _ => fun
  | [d1, d2] => { results := [.lit (.bool false)], args := [d1, d2] }
  | _ => none }
def AttributeExampleWrongFalsely : Prop := attributeExampleRow.holds Tryz.pinned (OpenSpec.ofChange attributeExampleWrong)

/- THE SECOND FORM. 'bulk': how many values and letters a reading holds, each counted each time it is reached (what is shared counts as often as it is met; a slice's spare places count too). A statement '..UptoSaid' is the law's where the arguments, and the package variables that the reading takes, are together of bulk at most 1048576: NARROWER than '..Said'. Prove '..Said' where nothing that the law and all that it calls make is longer than what came in: it says more and counts as full. Else prove '..UptoSaid'. A law counts once. -/
mutual
def uptoBulk {H : Type} : DataW H → Nat
  | .lit (.string bytes) => bytes.length + 1
  | .lit _ => 1
  | .nil => 1
  | .ptr d => uptoBulk d + 1
  | .slice elems spare => uptoBulkAll elems + uptoBulkAll spare + 1
  | .agg parts => uptoBulkAll parts + 1
  | .iface _ d => uptoBulk d + 1
  | .map entries => uptoBulkEntries entries + 1
  | .held _ => 1
def uptoBulkAll {H : Type} : List (DataW H) → Nat
  | [] => 0
  | d :: r => uptoBulk d + uptoBulkAll r
def uptoBulkEntries {H : Type} : List (Lit × DataW H) → Nat
  | [] => 0
  | x :: r => uptoBulkEntry x + uptoBulkEntries r
def uptoBulkEntry {H : Type} : Lit × DataW H → Nat
  | (.string bytes, d) => bytes.length + uptoBulk d + 1
  | (_, d) => uptoBulk d + 1
 end
def uptoSmall : (H : Type) → List (DataW H) → Bool := fun _ ds => decide (uptoBulkAll ds ≤ 1048576)
def OpenSpec.upto (s : _root_.Go.ChangeSpec) : _root_.Go.OpenSpec := { _root_.Go.OpenSpec.ofChange s with cond := some uptoSmall }

/-- 'scarfjointlaw21.AttributeTerm', WHERE WHAT IT READS IS OF BULK AT MOST 1048576: true; the input reads as it did. -/
def attributeTermUptoRow : OpenClaim := { program := "ytippinddoldhkaagreat", sum := "b3701ffdd93f9e8dc16aca857940f7b880034fefb47f7f580d0d421ea69330c6", func := "scarfjoint/scarfjointlaw21.AttributeTerm", spec := "attributeTerm", inPlace := ["internal/bytealg.IndexByteString", "math/bits.Add64"], unfollowed := true, recurses := true, apart := false, narrowed := true }
def AttributeTermUptoSaid : Prop := attributeTermUptoRow.holds Tryz.pinned (OpenSpec.upto attributeTermSpec)

/-- 'scarfjointlaw21.AttributeValid', WHERE WHAT IT READS IS OF BULK AT MOST 1048576: true; the input reads as it did. -/
def attributeValidUptoRow : OpenClaim := { program := "ytippinddoldhkaagreat", sum := "b3701ffdd93f9e8dc16aca857940f7b880034fefb47f7f580d0d421ea69330c6", func := "scarfjoint/scarfjointlaw21.AttributeValid", spec := "attributeValid", inPlace := ["internal/bytealg.IndexByteString", "math/bits.Add64"], unfollowed := true, recurses := true, apart := false, narrowed := true }
def AttributeValidUptoSaid : Prop := attributeValidUptoRow.holds Tryz.pinned (OpenSpec.upto attributeValidSpec)

/-- 'scarfjointlaw21.AttributeGround', WHERE WHAT IT READS IS OF BULK AT MOST 1048576: true; the input reads as it did. -/
def attributeGroundUptoRow : OpenClaim := { program := "ytippinddoldhkaagreat", sum := "b3701ffdd93f9e8dc16aca857940f7b880034fefb47f7f580d0d421ea69330c6", func := "scarfjoint/scarfjointlaw21.AttributeGround", spec := "attributeGround", inPlace := ["internal/bytealg.IndexByteString", "math/bits.Add64"], unfollowed := true, recurses := true, apart := false, narrowed := true }
def AttributeGroundUptoSaid : Prop := attributeGroundUptoRow.holds Tryz.pinned (OpenSpec.upto attributeGroundSpec)

/-- 'scarfjointlaw21.AttributeSolve', WHERE WHAT IT READS IS OF BULK AT MOST 1048576: true; the input reads as it did. -/
def attributeSolveUptoRow : OpenClaim := { program := "ytippinddoldhkaagreat", sum := "b3701ffdd93f9e8dc16aca857940f7b880034fefb47f7f580d0d421ea69330c6", func := "scarfjoint/scarfjointlaw21.AttributeSolve", spec := "attributeSolve", inPlace := ["internal/bytealg.IndexByteString", "math/bits.Add64"], unfollowed := true, recurses := true, apart := false, narrowed := true }
def AttributeSolveUptoSaid : Prop := attributeSolveUptoRow.holds Tryz.pinned (OpenSpec.upto attributeSolveSpec)

/-- 'scarfjointlaw21.AttributeMatches', WHERE WHAT IT READS IS OF BULK AT MOST 1048576: true; the input reads as it did. -/
def attributeMatchesUptoRow : OpenClaim := { program := "ytippinddoldhkaagreat", sum := "b3701ffdd93f9e8dc16aca857940f7b880034fefb47f7f580d0d421ea69330c6", func := "scarfjoint/scarfjointlaw21.AttributeMatches", spec := "attributeMatches", inPlace := ["internal/bytealg.IndexByteString", "math/bits.Add64"], unfollowed := true, recurses := true, apart := false, narrowed := true }
def AttributeMatchesUptoSaid : Prop := attributeMatchesUptoRow.holds Tryz.pinned (OpenSpec.upto attributeMatchesSpec)

/-- 'scarfjointlaw21.AttributeExample', WHERE WHAT IT READS IS OF BULK AT MOST 1048576: true; the input reads as it did. -/
def attributeExampleUptoRow : OpenClaim := { program := "ytippinddoldhkaagreat", sum := "b3701ffdd93f9e8dc16aca857940f7b880034fefb47f7f580d0d421ea69330c6", func := "scarfjoint/scarfjointlaw21.AttributeExample", spec := "attributeExample", inPlace := ["internal/bytealg.IndexByteString", "math/bits.Add64"], unfollowed := true, recurses := true, apart := false, narrowed := true }
def AttributeExampleUptoSaid : Prop := attributeExampleUptoRow.holds Tryz.pinned (OpenSpec.upto attributeExampleSpec)

end Rows
end Go.Proofs.YtippinddoldhkaaGreat
