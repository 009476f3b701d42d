import Derived.Test.YtkjikcmjcdlifaaEwM
import Derived.Test.YtkjikcmjcdlifaaT9
namespace Go.Proofs.Ytkjikcmjcdlifaa
open Go Go.Ew Go.Proofs Go.RowKit
/-! ### Lists of tokens that come in -/
def wfTk (t : Tk) : Prop := t.text.length ≤ reachBytes
def zTk (t : Tk) : Nat := t.text.length + 1
theorem opens_token : Opens Try.prog 46 tkC wfTk zTk :=
  (opens_struct Try.underlying46 (by kernel_rfl) (opensFs_cons (sz := 1) rfl (by kernel_rfl) (opens_int Try.underlying3) (opensFs_cons (sz := 1) rfl (by kernel_rfl) (opens_string Try.underlying9) (opensFs_cons (sz := 1) rfl (by kernel_rfl) (opens_int Try.underlying3) (opensFs_nil _))))).map
    fun a ha => ⟨⟨a.1, a.2.1, a.2.2.1⟩, ha.2.1, rfl, by simp only [zTk]; omega⟩
theorem opens_tokens : Opens Try.prog 36 (fun l : List Tk => [.imm l.length (tksC l)]) (fun l => l.length * 32 ≤ reachBytes ∧ ∀ t ∈ l, wfTk t) (fun l => (l.map zTk).sum + 1) := opens_slice (sz := 3) (B := 32) Try.underlying36 (by kernel_rfl) (by kernel_rfl) (by decide) (fun _ => rfl) opens_token
theorem opens_bytes : Opens Try.prog 29 (fun l : List Int => [.imm l.length (l.flatMap fun n => [.lit (.int .u8 n)])]) (fun l => l.length * 1 ≤ reachBytes ∧ ∀ n ∈ l, (Lit.int .u8 n).wf = true) (fun l => (l.map fun _ => 1).sum + 1) :=
  opens_slice (sz := 1) (B := 1) Try.underlying29 (by kernel_rfl) (by kernel_rfl) (by decide) (fun _ => rfl) (opens_int Try.underlying5)
end Go.Proofs.Ytkjikcmjcdlifaa
