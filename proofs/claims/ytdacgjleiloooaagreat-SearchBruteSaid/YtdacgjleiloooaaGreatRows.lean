/-
  No cell of these rows narrows 'for every input' (looked for: loops, veiled, ifaces, maps, wideKeys, modest, calm, conditions, laid).
  DERIVED. THE GIVEN ROWS OF THIS SEAT. 6 by the template 'for every input the law returns true; each argument reads behind the call as it read before'; 0 by the template 'total and deterministic' (their statements: YtdacgjleiloooaaGreatTotals.lean).
  GIVEN WITH THE SEED: the statements are not yours to turn. If you find one false, say at which input.
  Laid BY PROGRAM, IN A SANDBOX (cutbox-rows.mjs): the forced cells as the released guide's own fill.sh prints them over the translation 40acc2cef39127a3… (all of the seat's roots in one cut). By AI agents, Wed Nov 11 2026. No macro, syntax, notation, axiom, sorry.
-/
import Derived.Test.YtdacgjleiloooaaGreatChecked
import GoSem.Claim
import GoSem.ClaimJoined
import GoSem.ClaimMapViews
import Derived.JoinedTies
import Derived.KernelRfl
namespace Go.Proofs.YtdacgjleiloooaaGreat
/- THE CELL 'sum', in the pinned program and in every row, IS THE sha256 OF THE DUMP (.gsa) THAT YtdacgjleiloooaaGreatProg.lean LOADS. Nothing in Lean hashes anything: it is a label: what it is worth is what the hold of that sum in a sandbox is worth. -/
noncomputable def Tryz.pinned : Pinned := { name := "ytdacgjleiloooaagreat", sum := "40acc2cef39127a3c749998802ccb1252fca055c0f487bacff69a2437a7c6a5a", checked := Tryz.checked }
namespace Rows
def none {H : Type} : Left H := { results := [], args := [] }

/-- 'scarfjointlaw17.SearchInstance': WHATEVER THE INPUT: true; the input reads as it did. -/
def searchInstanceSpec : ChangeSpec := { name := "searchInstance", fn := fun _ => fun
  | [d1, d2] => { results := [.lit (.bool true)], args := [d1, d2] }
  | _ => none }
def searchInstanceRow : OpenClaim := { program := "ytdacgjleiloooaagreat", sum := "40acc2cef39127a3c749998802ccb1252fca055c0f487bacff69a2437a7c6a5a", func := "scarfjoint/scarfjointlaw17.SearchInstance", spec := "searchInstance", inPlace := ["internal/bytealg.IndexByteString"], unfollowed := true, recurses := true, apart := false }
def SearchInstanceSaid : Prop := searchInstanceRow.holds Tryz.pinned (OpenSpec.ofChange searchInstanceSpec)

/-- ITS FALSE NEIGHBOUR: 'it returns false'. Refute it at one input. -/
def searchInstanceWrong : ChangeSpec := { name := "searchInstance", fn := fun _ => fun
  | [d1, d2] => { results := [.lit (.bool false)], args := [d1, d2] }
  | _ => none }
def SearchInstanceWrongFalsely : Prop := searchInstanceRow.holds Tryz.pinned (OpenSpec.ofChange searchInstanceWrong)

/-- 'scarfjointlaw17.SearchFirst': WHATEVER THE INPUT: true; the input reads as it did. -/
def searchFirstSpec : ChangeSpec := { name := "searchFirst", fn := fun _ => fun
  | [d1, d2] => { results := [.lit (.bool true)], args := [d1, d2] }
  | _ => none }
def searchFirstRow : OpenClaim := { program := "ytdacgjleiloooaagreat", sum := "40acc2cef39127a3c749998802ccb1252fca055c0f487bacff69a2437a7c6a5a", func := "scarfjoint/scarfjointlaw17.SearchFirst", spec := "searchFirst", inPlace := ["internal/bytealg.IndexByteString"], unfollowed := true, recurses := true, apart := false }
def SearchFirstSaid : Prop := searchFirstRow.holds Tryz.pinned (OpenSpec.ofChange searchFirstSpec)

/-- ITS FALSE NEIGHBOUR: 'it returns false'. Refute it at one input. -/
def searchFirstWrong : ChangeSpec := { name := "searchFirst", fn := fun _ => fun
  | [d1, d2] => { results := [.lit (.bool false)], args := [d1, d2] }
  | _ => none }
def SearchFirstWrongFalsely : Prop := searchFirstRow.holds Tryz.pinned (OpenSpec.ofChange searchFirstWrong)

/-- 'scarfjointlaw17.SearchExtend': WHATEVER THE INPUT: true; the input reads as it did. -/
def searchExtendSpec : ChangeSpec := { name := "searchExtend", fn := fun _ => fun
  | [d1, d2, d3] => { results := [.lit (.bool true)], args := [d1, d2, d3] }
  | _ => none }
def searchExtendRow : OpenClaim := { program := "ytdacgjleiloooaagreat", sum := "40acc2cef39127a3c749998802ccb1252fca055c0f487bacff69a2437a7c6a5a", func := "scarfjoint/scarfjointlaw17.SearchExtend", spec := "searchExtend", inPlace := ["internal/bytealg.IndexByteString"], unfollowed := true, recurses := true, apart := false }
def SearchExtendSaid : Prop := searchExtendRow.holds Tryz.pinned (OpenSpec.ofChange searchExtendSpec)

/-- ITS FALSE NEIGHBOUR: 'it returns false'. Refute it at one input. -/
def searchExtendWrong : ChangeSpec := { name := "searchExtend", fn := fun _ => fun
  | [d1, d2, d3] => { results := [.lit (.bool false)], args := [d1, d2, d3] }
  | _ => none }
def SearchExtendWrongFalsely : Prop := searchExtendRow.holds Tryz.pinned (OpenSpec.ofChange searchExtendWrong)

/-- 'scarfjointlaw17.SearchCheck': WHATEVER THE INPUT: true; the input reads as it did. -/
def searchCheckSpec : ChangeSpec := { name := "searchCheck", fn := fun _ => fun
  | [d1, d2, d3] => { results := [.lit (.bool true)], args := [d1, d2, d3] }
  | _ => none }
def searchCheckRow : OpenClaim := { program := "ytdacgjleiloooaagreat", sum := "40acc2cef39127a3c749998802ccb1252fca055c0f487bacff69a2437a7c6a5a", func := "scarfjoint/scarfjointlaw17.SearchCheck", spec := "searchCheck", inPlace := ["internal/bytealg.IndexByteString"], unfollowed := true, recurses := true, apart := false }
def SearchCheckSaid : Prop := searchCheckRow.holds Tryz.pinned (OpenSpec.ofChange searchCheckSpec)

/-- ITS FALSE NEIGHBOUR: 'it returns false'. Refute it at one input. -/
def searchCheckWrong : ChangeSpec := { name := "searchCheck", fn := fun _ => fun
  | [d1, d2, d3] => { results := [.lit (.bool false)], args := [d1, d2, d3] }
  | _ => none }
def SearchCheckWrongFalsely : Prop := searchCheckRow.holds Tryz.pinned (OpenSpec.ofChange searchCheckWrong)

/-- 'scarfjointlaw17.SearchBrute': WHATEVER THE INPUT: true; the input reads as it did. -/
def searchBruteSpec : ChangeSpec := { name := "searchBrute", fn := fun _ => fun
  | [d1, d2, d3] => { results := [.lit (.bool true)], args := [d1, d2, d3] }
  | _ => none }
def searchBruteRow : OpenClaim := { program := "ytdacgjleiloooaagreat", sum := "40acc2cef39127a3c749998802ccb1252fca055c0f487bacff69a2437a7c6a5a", func := "scarfjoint/scarfjointlaw17.SearchBrute", spec := "searchBrute", inPlace := ["internal/bytealg.IndexByteString"], unfollowed := true, recurses := true, apart := false }
def SearchBruteSaid : Prop := searchBruteRow.holds Tryz.pinned (OpenSpec.ofChange searchBruteSpec)

/-- ITS FALSE NEIGHBOUR: 'it returns false'. Refute it at one input. -/
def searchBruteWrong : ChangeSpec := { name := "searchBrute", fn := fun _ => fun
  | [d1, d2, d3] => { results := [.lit (.bool false)], args := [d1, d2, d3] }
  | _ => none }
def SearchBruteWrongFalsely : Prop := searchBruteRow.holds Tryz.pinned (OpenSpec.ofChange searchBruteWrong)

/-- 'scarfjointlaw17.SearchAll': WHATEVER THE INPUT: true; the input reads as it did. -/
def searchAllSpec : ChangeSpec := { name := "searchAll", fn := fun _ => fun
  | [d1, d2] => { results := [.lit (.bool true)], args := [d1, d2] }
  | _ => none }
def searchAllRow : OpenClaim := { program := "ytdacgjleiloooaagreat", sum := "40acc2cef39127a3c749998802ccb1252fca055c0f487bacff69a2437a7c6a5a", func := "scarfjoint/scarfjointlaw17.SearchAll", spec := "searchAll", inPlace := ["internal/bytealg.IndexByteString"], unfollowed := true, recurses := true, apart := false }
def SearchAllSaid : Prop := searchAllRow.holds Tryz.pinned (OpenSpec.ofChange searchAllSpec)

/-- ITS FALSE NEIGHBOUR: 'it returns false'. Refute it at one input. -/
def searchAllWrong : ChangeSpec := { name := "searchAll", fn := fun _ => fun
  | [d1, d2] => { results := [.lit (.bool false)], args := [d1, d2] }
  | _ => none }
def SearchAllWrongFalsely : Prop := searchAllRow.holds Tryz.pinned (OpenSpec.ofChange searchAllWrong)

/- THE SECOND FORM. 'bulk': how many values and letters a reading holds, each counted each time it is reached (what is shared counts as often as it is met; a slice's spare places count too). A statement '..UptoSaid' is the law's where the arguments, and the package variables that the reading takes, are together of bulk at most 1048576: NARROWER than '..Said'. Prove '..Said' where nothing that the law and all that it calls make is longer than what came in: it says more and counts as full. Else prove '..UptoSaid'. A law counts once. -/
mutual
def uptoBulk {H : Type} : DataW H → Nat
  | .lit (.string bytes) => bytes.length + 1
  | .lit _ => 1
  | .nil => 1
  | .ptr d => uptoBulk d + 1
  | .slice elems spare => uptoBulkAll elems + uptoBulkAll spare + 1
  | .agg parts => uptoBulkAll parts + 1
  | .iface _ d => uptoBulk d + 1
  | .map entries => uptoBulkEntries entries + 1
  | .held _ => 1
def uptoBulkAll {H : Type} : List (DataW H) → Nat
  | [] => 0
  | d :: r => uptoBulk d + uptoBulkAll r
def uptoBulkEntries {H : Type} : List (Lit × DataW H) → Nat
  | [] => 0
  | x :: r => uptoBulkEntry x + uptoBulkEntries r
def uptoBulkEntry {H : Type} : Lit × DataW H → Nat
  | (.string bytes, d) => bytes.length + uptoBulk d + 1
  | (_, d) => uptoBulk d + 1
 end
def uptoSmall : (H : Type) → List (DataW H) → Bool := fun _ ds => decide (uptoBulkAll ds ≤ 1048576)
def OpenSpec.upto (s : _root_.Go.ChangeSpec) : _root_.Go.OpenSpec := { _root_.Go.OpenSpec.ofChange s with cond := some uptoSmall }

/-- 'scarfjointlaw17.SearchInstance', WHERE WHAT IT READS IS OF BULK AT MOST 1048576: true; the input reads as it did. -/
def searchInstanceUptoRow : OpenClaim := { program := "ytdacgjleiloooaagreat", sum := "40acc2cef39127a3c749998802ccb1252fca055c0f487bacff69a2437a7c6a5a", func := "scarfjoint/scarfjointlaw17.SearchInstance", spec := "searchInstance", inPlace := ["internal/bytealg.IndexByteString"], unfollowed := true, recurses := true, apart := false, narrowed := true }
def SearchInstanceUptoSaid : Prop := searchInstanceUptoRow.holds Tryz.pinned (OpenSpec.upto searchInstanceSpec)

/-- 'scarfjointlaw17.SearchFirst', WHERE WHAT IT READS IS OF BULK AT MOST 1048576: true; the input reads as it did. -/
def searchFirstUptoRow : OpenClaim := { program := "ytdacgjleiloooaagreat", sum := "40acc2cef39127a3c749998802ccb1252fca055c0f487bacff69a2437a7c6a5a", func := "scarfjoint/scarfjointlaw17.SearchFirst", spec := "searchFirst", inPlace := ["internal/bytealg.IndexByteString"], unfollowed := true, recurses := true, apart := false, narrowed := true }
def SearchFirstUptoSaid : Prop := searchFirstUptoRow.holds Tryz.pinned (OpenSpec.upto searchFirstSpec)

/-- 'scarfjointlaw17.SearchExtend', WHERE WHAT IT READS IS OF BULK AT MOST 1048576: true; the input reads as it did. -/
def searchExtendUptoRow : OpenClaim := { program := "ytdacgjleiloooaagreat", sum := "40acc2cef39127a3c749998802ccb1252fca055c0f487bacff69a2437a7c6a5a", func := "scarfjoint/scarfjointlaw17.SearchExtend", spec := "searchExtend", inPlace := ["internal/bytealg.IndexByteString"], unfollowed := true, recurses := true, apart := false, narrowed := true }
def SearchExtendUptoSaid : Prop := searchExtendUptoRow.holds Tryz.pinned (OpenSpec.upto searchExtendSpec)

/-- 'scarfjointlaw17.SearchCheck', WHERE WHAT IT READS IS OF BULK AT MOST 1048576: true; the input reads as it did. -/
def searchCheckUptoRow : OpenClaim := { program := "ytdacgjleiloooaagreat", sum := "40acc2cef39127a3c749998802ccb1252fca055c0f487bacff69a2437a7c6a5a", func := "scarfjoint/scarfjointlaw17.SearchCheck", spec := "searchCheck", inPlace := ["internal/bytealg.IndexByteString"], unfollowed := true, recurses := true, apart := false, narrowed := true }
def SearchCheckUptoSaid : Prop := searchCheckUptoRow.holds Tryz.pinned (OpenSpec.upto searchCheckSpec)

/-- 'scarfjointlaw17.SearchBrute', WHERE WHAT IT READS IS OF BULK AT MOST 1048576: true; the input reads as it did. -/
def searchBruteUptoRow : OpenClaim := { program := "ytdacgjleiloooaagreat", sum := "40acc2cef39127a3c749998802ccb1252fca055c0f487bacff69a2437a7c6a5a", func := "scarfjoint/scarfjointlaw17.SearchBrute", spec := "searchBrute", inPlace := ["internal/bytealg.IndexByteString"], unfollowed := true, recurses := true, apart := false, narrowed := true }
def SearchBruteUptoSaid : Prop := searchBruteUptoRow.holds Tryz.pinned (OpenSpec.upto searchBruteSpec)

/-- 'scarfjointlaw17.SearchAll', WHERE WHAT IT READS IS OF BULK AT MOST 1048576: true; the input reads as it did. -/
def searchAllUptoRow : OpenClaim := { program := "ytdacgjleiloooaagreat", sum := "40acc2cef39127a3c749998802ccb1252fca055c0f487bacff69a2437a7c6a5a", func := "scarfjoint/scarfjointlaw17.SearchAll", spec := "searchAll", inPlace := ["internal/bytealg.IndexByteString"], unfollowed := true, recurses := true, apart := false, narrowed := true }
def SearchAllUptoSaid : Prop := searchAllUptoRow.holds Tryz.pinned (OpenSpec.upto searchAllSpec)

end Rows
end Go.Proofs.YtdacgjleiloooaaGreat
