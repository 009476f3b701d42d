import Derived.Test.YtkjikcmjcdlifaaT29
namespace Go.Proofs.Ytkjikcmjcdlifaa
open Go Go.Ew Go.Proofs Go.RowKit
set_option maxRecDepth 10000
/-! ### A builder beside other objects: S: those that it is not made of -/
def BdS (S : Nat → Prop) (σ : Mem) (id : Nat) (l : List UInt8) : Prop :=
  ∃ p buf, σ.get id = some [p, buf] ∧ σ.ty id = 31 ∧ ¬ S id ∧ id < σ.next ∧ (p = .lit (.pointer none) ∨ p = .ptr id 0) ∧
    ((buf = .nils ∧ l = []) ∨ ∃ bid, buf = .arr bid 0 l.length 1 ∧ σ.get bid = some (bytesA l) ∧ σ.ty bid = 5 ∧ l ≠ [] ∧ bid ≠ id ∧ ¬ S bid ∧ bid < σ.next)
theorem BdS.same {S S' : Nat → Prop} {σ σ' : Mem} {id : Nat} {l : List UInt8} (h : BdS S σ id l) (hn : σ.next ≤ σ'.next) (hg : ∀ i, i < σ.next → ¬ S i → σ'.get i = σ.get i ∧ σ'.ty i = σ.ty i) (hS : ∀ i, i < σ.next → S' i → S i) : BdS S' σ' id l := by
  obtain ⟨p, buf, h1, h2, h3, h4, h5, h6⟩ := h
  refine ⟨p, buf, by rw [(hg id h4 h3).1]; exact h1, by rw [(hg id h4 h3).2]; exact h2, fun k => h3 (hS id h4 k), by omega, h5, ?_⟩
  rcases h6 with h6 | ⟨bid, a1, a2, a3, a4, a5, a6, a7⟩
  · exact .inl h6
  · exact .inr ⟨bid, a1, by rw [(hg bid a7 a6).1]; exact a2, by rw [(hg bid a7 a6).2]; exact a3, a4, a5, fun k => a6 (hS bid a7 k), by omega⟩
theorem writeStringS_ev {S : Nat → Prop} {σ : Mem} {id : Nat} {l s : List UInt8} (h : BdS S σ id l) (hS : ∀ i, S i → i < σ.next) (hl : l.length + s.length ≤ 140737488355328) :
    CallA Try.prog 14 [.ptr id 0, .str s] σ fun _ σ' => BdS S σ' id (l ++ s) ∧ σ.next ≤ σ'.next ∧ ∀ i, S i → σ'.get i = σ.get i ∧ σ'.ty i = σ.ty i := by
  obtain ⟨p, buf, h1, h2, h3, h4, h5, h6⟩ := h
  have hSn : ¬ S σ.next := fun k => Nat.lt_irrefl _ (hS _ k)
  refine callA_of Try.func14 rfl (by kernel_rfl) ?_
  simp [go_sem, Try.results14, Try.ntmps14]
  refine EWcall_of (copyCheck_ev h1 h2 h5) ?_
  rintro x τ ⟨rfl, rfl⟩
  have ne : ∀ i, S i → i ≠ id ∧ i ≠ σ.next := fun i k => ⟨fun e => h3 (e ▸ k), fun e => hSn (e ▸ k)⟩
  rcases h6 with ⟨rfl, rfl⟩ | ⟨bid, rfl, h7, h8, h9, h10, h11, h12⟩
  · have hl' : s.length ≤ 140737488355328 := by simpa using hl
    by_cases hs : s = []
    · subst hs
      simp [go_sem, get_set]
      exact ⟨⟨.ptr id 0, .nils, by simp [get_set], h2, h3, h4, .inr rfl, .inl ⟨rfl, rfl⟩⟩, fun i hi => by simp [(ne i hi).1]⟩
    · have hne : ¬ id = σ.next := by omega
      simp [go_sem, get_set, hs, hl', hne, get_alloc]
      refine ⟨⟨.ptr id 0, .arr σ.next 0 s.length 1, by simp [get_set], by simp [ty_set, ty_alloc, next_set, hne, h2], h3, by simp [next_set, next_alloc]; omega, .inr rfl, .inr ⟨σ.next, rfl, by simp [get_set, get_alloc, Ne.symm hne, bytesA, next_set], by simp [ty_set, ty_alloc, next_set], hs, Ne.symm hne, hSn, by simp [next_set, next_alloc]⟩⟩, fun i hi => by simp [(ne i hi).1, (ne i hi).2, ty_alloc, ty_set, next_set]⟩
  · have hne : ¬ id = σ.next := by omega
    have hlen : (bytesA l).length = l.length := by simp [bytesA]
    have neb : ∀ i, S i → i ≠ bid := fun i k e => h11 (e ▸ k)
    simp [go_sem, get_set, h7, h8, h10, hl, hne, get_alloc, get_kill, Ne.symm h10]
    refine ⟨⟨.ptr id 0, .arr σ.next 0 (l.length + s.length) 1, by simp [get_set], by simp [ty_set, ty_alloc, ty_kill, next_kill, next_set, hne, h2], h3, by simp [next_set, next_alloc, next_kill]; omega, .inr rfl, .inr ⟨σ.next, by simp, ?_, by simp [ty_set, ty_alloc, next_set, next_kill], by simp [h9], Ne.symm hne, hSn, by simp [next_set, next_alloc, next_kill]⟩⟩, fun i hi => by simp [(ne i hi).1, (ne i hi).2, neb i hi, ty_alloc, ty_set, ty_kill, next_kill, next_set]⟩
    simp [get_set, get_alloc, Ne.symm hne, bytesA, next_set, next_kill]
    exact List.take_of_length_le (by simp)
theorem stringS_ev {S : Nat → Prop} {σ : Mem} {id : Nat} {l : List UInt8} (h : BdS S σ id l) : CallA Try.prog 16 [.ptr id 0] σ fun x σ' => x = .str l ∧ σ.next ≤ σ'.next ∧ ∀ i, S i → σ'.get i = σ.get i ∧ σ'.ty i = σ.ty i := by
  obtain ⟨p, buf, h1, h2, h3, h4, h5, h6⟩ := h
  have hc : Callable Try.prog 16 := ⟨Try.f16, Try.func16, by kernel_rfl, by kernel_rfl⟩
  rcases h6 with ⟨rfl, rfl⟩ | ⟨bid, rfl, h7, h8, h9, h10, h11, h12⟩
  · exact (callA_bldString_nil hc (fun b cb w hb hv => bldString_nil b cb w hb hv) h1 h2).mono fun x σ' ⟨e1, e2⟩ => ⟨e1, by rw [e2]; exact Nat.le_refl _, fun i _ => by rw [e2]; exact ⟨rfl, rfl⟩⟩
  · exact (callA_bldString hc (fun b g cap cb cur l w a1 a2 a3 a4 a5 a6 a7 a8 => bldString b g cap cb cur l w a1 a2 a3 a4 a5 a6 a7 a8) h1 h2 h7 h8 h9).mono fun x σ' ⟨e1, e2⟩ => ⟨e1, by rw [e2]; exact Nat.le_refl _, fun i hi => by rw [e2]; refine ⟨?_, rfl⟩; rw [get_kill, if_neg (fun e => h11 (by rw [← e]; exact hi))]⟩
theorem lineOf_small : ∀ (g : List UInt8) (n : Nat), n + g.length ≤ 1000000000 → lineOf g (n : Int) = ((n + g.count 10 : Nat) : Int)
  | [], n, _ => by simp [lineOf]
  | c :: g, n, h => by
    simp only [List.length_cons] at h
    by_cases hc : c = 10
    · subst hc
      have : lineOf (10 :: g) (n : Int) = lineOf g (((n + 1 : Nat)) : Int) := by
        simp only [lineOf, List.foldl_cons, if_true]
        rw [wrap64_of _ (by omega) (by omega)]
        rfl
      rw [this, lineOf_small g (n + 1) (by omega), List.count_cons_self]
      congr 1
      omega
    · have : lineOf (c :: g) (n : Int) = lineOf g (n : Int) := by simp only [lineOf, List.foldl_cons, if_neg hc]
      rw [this, lineOf_small g n (by omega), List.count_cons_of_ne (fun e => hc e)]
theorem writeF_one (t : Tk) (h : rightF t.kind (addQ t.kind t.text) = true) : writeF [t] = (addQ t.kind t.text, 0) := by
  have hs := right_small _ _ h
  unfold writeF
  rw [if_neg (by simp), wrF_eq]
  simp only [List.all_cons, List.all_nil, h, Bool.true_and, if_true, gaps, gbody, sepF, List.nil_append, List.append_nil]
  rw [if_neg (by omega)]
end Go.Proofs.Ytkjikcmjcdlifaa
