import Derived.Test.YtkjikcmjcdlifaaT7
import Derived.Test.YtkjikcmjcdlifaaBl
namespace Go.Proofs.Ytkjikcmjcdlifaa
open Go Go.Ew Go.Proofs Go.RowKit
set_option maxRecDepth 10000
/-- A builder of the call's own that holds the bytes l; nothing of it lies below n0. -/
def Bd (n0 : Nat) (σ : Mem) (id : Nat) (l : List UInt8) : Prop :=
  ∃ p buf, σ.get id = some [p, buf] ∧ σ.ty id = 31 ∧ n0 ≤ id ∧ id < σ.next ∧ (p = .lit (.pointer none) ∨ p = .ptr id 0) ∧
    ((buf = .nils ∧ l = []) ∨ ∃ bid, buf = .arr bid 0 l.length 1 ∧ σ.get bid = some (bytesA l) ∧ σ.ty bid = 5 ∧ l ≠ [] ∧ bid ≠ id ∧ n0 ≤ bid ∧ bid < σ.next)
theorem copyCheck_ev {σ : Mem} {id : Nat} {p buf : AV} (hg : σ.get id = some [p, buf]) (ht : σ.ty id = 31) (hp : p = .lit (.pointer none) ∨ p = .ptr id 0) :
    CallA Try.prog 30 [.ptr id 0] σ fun x σ' => x = .tup [] ∧ σ' = σ.set id [.ptr id 0, buf] :=
  callA_copyCheck ⟨Try.f30, Try.func30, by kernel_rfl, by kernel_rfl⟩ (by kernel_rfl) (fun b w h => copyCheck_used b w h) (fun b w cells h1 h2 h3 h4 h5 => copyCheck_fresh b w h1 cells h2 h3 h4 h5) hg ht hp
theorem writeString_ev {n0 : Nat} {σ : Mem} {id : Nat} {l s : List UInt8} (h : Bd n0 σ id l) (hl : l.length + s.length ≤ 140737488355328) :
    CallA Try.prog 14 [.ptr id 0, .str s] σ fun _ σ' => Bd n0 σ' id (l ++ s) ∧ σ.next ≤ σ'.next ∧ ∀ i, i < n0 → σ'.get i = σ.get i := by
  obtain ⟨p, buf, h1, h2, h3, h4, h5, h6⟩ := h
  refine callA_of Try.func14 rfl (by kernel_rfl) ?_
  simp [go_sem, Try.results14, Try.ntmps14]
  refine EWcall_of (copyCheck_ev h1 h2 h5) ?_
  rintro x τ ⟨rfl, rfl⟩
  rcases h6 with ⟨rfl, rfl⟩ | ⟨bid, rfl, h7, h8, h9, h10, h11, h12⟩
  · have hl' : s.length ≤ 140737488355328 := by simpa using hl
    by_cases hs : s = []
    · subst hs
      simp [go_sem, get_set]
      exact ⟨⟨.ptr id 0, .nils, by simp [get_set], h2, h3, h4, .inr rfl, .inl ⟨rfl, rfl⟩⟩, fun i hi => by simp [show i ≠ id by omega]⟩
    · have hne : ¬ id = σ.next := by omega
      simp [go_sem, get_set, hs, hl', hne, get_alloc]
      refine ⟨⟨.ptr id 0, .arr σ.next 0 s.length 1, by simp [get_set], by simp [ty_set, ty_alloc, next_set, hne, h2], h3, by simp [next_set, next_alloc]; omega, .inr rfl, .inr ⟨σ.next, rfl, by simp [get_set, get_alloc, Ne.symm hne, bytesA, next_set], by simp [ty_set, ty_alloc, next_set], hs, Ne.symm hne, by omega, by simp [next_set, next_alloc]⟩⟩, fun i hi => by simp [show i ≠ id by omega, show i ≠ σ.next by omega]⟩
  · have hne : ¬ id = σ.next := by omega
    have hlen : (bytesA l).length = l.length := by simp [bytesA]
    simp [go_sem, get_set, h7, h8, h10, hl, hne, get_alloc, get_kill, Ne.symm h10]
    refine ⟨⟨.ptr id 0, .arr σ.next 0 (l.length + s.length) 1, by simp [get_set], by simp [ty_set, ty_alloc, ty_kill, next_kill, next_set, hne, h2], h3, by simp [next_set, next_alloc, next_kill]; omega, .inr rfl, .inr ⟨σ.next, by simp, ?_, by simp [ty_set, ty_alloc, next_set, next_kill], by simp [h9], Ne.symm hne, by omega, by simp [next_set, next_alloc, next_kill]⟩⟩, fun i hi => by simp [show i ≠ id by omega, show i ≠ σ.next by omega, show i ≠ bid by omega]⟩
    simp [get_set, get_alloc, Ne.symm hne, bytesA, next_set, next_kill]
    exact List.take_of_length_le (by simp)
theorem writeByte_ev {n0 : Nat} {σ : Mem} {id : Nat} {l : List UInt8} (c : UInt8) (h : Bd n0 σ id l) (hl : l.length + 1 ≤ 140737488355328) :
    CallA Try.prog 34 [.ptr id 0, .u8 c.toNat] σ fun _ σ' => Bd n0 σ' id (l ++ [c]) ∧ σ.next ≤ σ'.next ∧ ∀ i, i < n0 → σ'.get i = σ.get i := by
  obtain ⟨p, buf, h1, h2, h3, h4, h5, h6⟩ := h
  refine callA_of Try.func34 rfl (by kernel_rfl) ?_
  simp [go_sem, Try.results34, Try.ntmps34]
  refine EWcall_of (copyCheck_ev h1 h2 h5) ?_
  rintro x τ ⟨rfl, rfl⟩
  have hne : ¬ id = σ.next := by omega
  have hne2 : ¬ id = σ.next + 1 := by omega
  rcases h6 with ⟨rfl, rfl⟩ | ⟨bid, rfl, h7, h8, h9, h10, h11, h12⟩
  · simp [go_sem, get_set, hne, hne2, get_alloc]
    refine ⟨⟨.ptr id 0, .arr (σ.next + 1) 0 1 1, by simp [get_set], by simp [ty_set, ty_alloc, next_set, next_alloc, hne, hne2, h2], h3, by simp [next_set, next_alloc]; omega, .inr rfl, .inr ⟨σ.next + 1, rfl, by simp [get_set, get_alloc, Ne.symm hne2, bytesA, next_set, next_alloc], by simp [ty_set, ty_alloc, next_set, next_alloc], by simp, Ne.symm hne2, by omega, by simp [next_set, next_alloc]⟩⟩, by omega, fun i hi => by simp [show i ≠ id by omega, show i ≠ σ.next by omega, show i ≠ σ.next + 1 by omega]⟩
  · have hlen : (bytesA l).length = l.length := by simp [bytesA]
    have hbn : ¬ bid = σ.next := by omega
    simp [go_sem, get_set, h7, h8, h10, hl, hne, hne2, get_alloc, get_kill, Ne.symm h10, hbn, ty_alloc, show l.length ≤ 9223372036854775806 by omega]
    refine ⟨⟨.ptr id 0, .arr (σ.next + 1) 0 (l.length + 1) 1, by simp [get_set], by simp [ty_set, ty_alloc, ty_kill, next_kill, next_set, next_alloc, hne, hne2, h2], h3, by simp [next_set, next_alloc, next_kill]; omega, .inr rfl, .inr ⟨σ.next + 1, by simp, ?_, by simp [ty_set, ty_alloc, next_set, next_kill, next_alloc], by simp [h9], Ne.symm hne2, by omega, by simp [next_set, next_alloc, next_kill]⟩⟩, by omega, fun i hi => by simp [show i ≠ id by omega, show i ≠ σ.next by omega, show i ≠ σ.next + 1 by omega, show i ≠ bid by omega]⟩
    simp [get_set, get_alloc, Ne.symm hne2, bytesA, next_set, next_kill, next_alloc]
    exact List.take_of_length_le (by simp)
theorem len_ev {n0 : Nat} {σ : Mem} {id : Nat} {l : List UInt8} (h : Bd n0 σ id l) : CallA Try.prog 35 [.ptr id 0] σ fun x σ' => x = .int l.length ∧ σ' = σ := by
  obtain ⟨p, buf, h1, h2, h3, h4, h5, h6⟩ := h
  refine callA_of Try.func35 rfl (by kernel_rfl) ?_
  simp [go_sem, Try.results35, Try.ntmps35]
  rcases h6 with ⟨rfl, rfl⟩ | ⟨bid, rfl, h7, h8, h9, h10, h11, h12⟩ <;> simp [go_sem, h1]
theorem string_ev {n0 : Nat} {σ : Mem} {id : Nat} {l : List UInt8} (h : Bd n0 σ id l) : CallA Try.prog 16 [.ptr id 0] σ fun x σ' => x = .str l ∧ σ.next ≤ σ'.next ∧ ∀ i, i < n0 → σ'.get i = σ.get i := by
  obtain ⟨p, buf, h1, h2, h3, h4, h5, h6⟩ := h
  have hc : Callable Try.prog 16 := ⟨Try.f16, Try.func16, by kernel_rfl, by kernel_rfl⟩
  rcases h6 with ⟨rfl, rfl⟩ | ⟨bid, rfl, h7, h8, h9, h10, h11, h12⟩
  · exact (callA_bldString_nil hc (fun b cb w hb hv => bldString_nil b cb w hb hv) h1 h2).mono fun x σ' ⟨e1, e2⟩ => ⟨e1, by rw [e2]; exact Nat.le_refl _, fun i _ => by rw [e2]⟩
  · exact (callA_bldString hc (fun b g cap cb cur l w a1 a2 a3 a4 a5 a6 a7 a8 => bldString b g cap cb cur l w a1 a2 a3 a4 a5 a6 a7 a8) h1 h2 h7 h8 h9).mono fun x σ' ⟨e1, e2⟩ => ⟨e1, by rw [e2]; exact Nat.le_refl _, fun i hi => by rw [e2, get_kill, if_neg (by omega)]⟩
end Go.Proofs.Ytkjikcmjcdlifaa
