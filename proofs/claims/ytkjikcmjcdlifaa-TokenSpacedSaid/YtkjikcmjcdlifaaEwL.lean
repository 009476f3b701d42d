/-
  Calls with objects of the caller's own, met by a contract over data; slices of no elements. Nothing here is about one program.
-/
import Derived.Test.YtkjikcmjcdlifaaEwK
namespace Go.Ew
open Go Go.RowKit

section
variable {P : Program} {N : Nat} {Q : Fr → Mem → Prop} {φ : Nat → Nat} {σ : Mem} {w : World}

theorem Rv.more {n n' : Nat} {L : Nat → Prop} {x : AV} {v : Value} (h : Rv φ n L w x v) (hn : n ≤ n') : Rv φ n' L w x v := by
  induction h with
  | lit v => exact .lit v
  | nils => exact .nils
  | imm0 A c hc => exact .imm0 A c hc
  | imm m cs ad c vs h1 _ h3 h4 h5 h6 ih => exact .imm m cs ad c vs h1 ih h3 h4 h5 h6
  | arr id off m sz c h1 h2 h3 h4 => exact .arr id off m sz c (by omega) h2 h3 h4
  | ptr id off h1 => exact .ptr id off (by omega)
  | iptr cs ad vs h1 _ h3 h4 ih => exact .iptr cs ad vs h1 ih h3 h4
  | fn f xs vs h1 _ ih => exact .fn f xs vs h1 ih
  | agg xs vs h1 _ h3 ih => exact .agg xs vs h1 ih h3
  | tup xs vs h1 _ ih => exact .tup xs vs h1 ih

/-- Arguments with objects of the caller's own, read off as data. -/
theorem callA_frz_args {f : FuncId} {xs ys : List AV} {D : AV} (h : PureA P f ys D) (hD : rigidA D = true) (hx : FrzL 0 σ xs ys) : CallA P f xs σ fun x σ' => x = D ∧ σ' = σ := by
  refine ⟨(h σ).1, fun φ w vs hr hv => ?_⟩
  have hdead : ∀ b, ¬ Live φ ⟨σ.next, σ.ty, fun _ => none⟩ b := fun b ⟨id, h, _⟩ => by simp at h
  have hr0 : RelM φ ⟨σ.next, σ.ty, fun _ => none⟩ w := ⟨fun id cs h => (by cases h), fun id cs h => (by cases h), fun i j hi _ _ => (by cases hi)⟩
  have hv0 : RvL φ ⟨σ.next, σ.ty, fun _ => none⟩ w ys vs := by
    refine ⟨by rw [← hx.1]; exact hv.1, fun j y v hy hvj => ?_⟩
    have hj : j < xs.length := by rw [hx.1]; exact (List.getElem?_eq_some_iff.1 hy).1
    have h1 := hv.2 j _ v (List.getElem?_eq_getElem hj) hvj
    have h2 := rv_frz (n0 := 0) (L := Live φ ⟨σ.next, σ.ty, fun _ => none⟩) hr (fun b hb => absurd hb (hdead b)) (hx.2 j _ y (List.getElem?_eq_getElem hj) hy) v h1
    exact h2.more (Nat.zero_le _)
  refine ((h ⟨σ.next, σ.ty, fun _ => none⟩).2 φ w vs hr0 hv0).mono ?_
  rintro e w' ⟨v, x, φ', σ', rfl, h3, h4, h5, rfl, rfl⟩
  have hcls : Cls w w' := ⟨h5.os, h5.tape, h5.output, h5.size, fun b hb => h5.same b hb (hdead b)⟩
  exact ⟨v, _, φ, σ, rfl, hr.cls hcls, rigid_any hD h4, Cls.step hcls, rfl, rfl⟩
theorem EWcall_frz {f : FuncId} {xs ys : List AV} {D : AV} {dst : Option Tmp} {l : List Oper} {all : Array Oper} {k : List Itm} {fr : Fr} (h : PureA P f ys D) (hD : rigidA D = true) (hx : FrzL 0 σ xs ys) (hk : EW P N Q (.ops false l all :: k) (putA fr dst D) σ) :
    EWcall P N Q f xs dst l all k fr σ := EWcall_of (callA_frz_args h hD hx) fun x σ' ⟨h1, h2⟩ => by subst h1; subst h2; exact hk

/-- A slice of no elements: nil or not. -/
theorem callA_slice0 {f : FuncId} {R : AV → Mem → Prop} (h : ∀ (A : Option Addr) (c : Nat), c ≤ maxLen → CallA P f [.lit (.slice A 0 c)] σ R) : CallA P f [.imm 0 []] σ R := by
  refine ⟨(h none 0 (Nat.zero_le _)).1, fun φ w vs hr hv => ?_⟩
  have hl : vs.length = 1 := by rw [← hv.1]; rfl
  obtain ⟨v, rfl⟩ := List.length_eq_one_iff.1 hl
  have h0 := hv.2 0 _ v rfl rfl
  obtain ⟨A, c, rfl, hc⟩ : ∃ A c, v = .slice A 0 c ∧ c ≤ maxLen := by
    cases h0 with
    | imm0 A c hc => exact ⟨A, c, rfl, hc⟩
    | imm _ _ ad c vs k1 k2 k3 k4 k5 k6 => exact ⟨some ad, c, rfl, k6⟩
  refine (h A c hc).2 φ w [.slice A 0 c] hr ⟨rfl, fun j x u hx hu => ?_⟩
  match j with
  | 0 => simp at hx hu; subst hx; subst hu; exact .lit _
  | j + 1 => simp at hx
end
end Go.Ew
