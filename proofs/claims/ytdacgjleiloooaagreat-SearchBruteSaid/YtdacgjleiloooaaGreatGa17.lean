/-
  Plain functions and the walks that lead to them, by a program of ours (gen.py): scarfjoint/scarfjointref02.SameInts, scarfjoint/scarfjointref06.Same.
-/
import Derived.Test.YtdacgjleiloooaaGreatGd
import Derived.Test.YtdacgjleiloooaaGreatGT
import Derived.Test.YtdacgjleiloooaaGreatB3
import Derived.Test.YtdacgjleiloooaaGreatGS
set_option linter.unusedSimpArgs false
set_option linter.unusedVariables false
namespace Go.Proofs.YtdacgjleiloooaaGreat
open Go Go.Ew Go.Proofs Go.RowKit
set_option maxRecDepth 100000
set_option maxHeartbeats 4000000 in
theorem w_ref02_SameInts (a : List Int) (b : List Int) (r : (Bool)) (h : s_ref02_SameInts a b = some r) : PureA Tryz.prog 45 [intsA (a), intsA (b)] (AV.bool (r)) := by
 refine pureA_of_SW (N := 26) Tryz.func45 (by kernel_rfl) rfl (by rw [Tryz.ntmps45]; rfl) (fun σ0 => ?_)
 rw [Tryz.results45]
 obtain ⟨fr0, hfr⟩ : ∃ fr, fr = initFr [intsA (a), intsA (b)] := ⟨_, rfl⟩
 rw [← hfr]
 have f0 : fr0 0 = intsA (a) := by rw [hfr]; rfl
 have f1 : fr0 1 = intsA (b) := by rw [hfr]; rfl
 clear hfr
 simp only [s_ref02_SameInts] at h
 refine SW.seq ?_
 refine SW.regX (fun f_ t_ => σ0 = t_ ∧ f_ 0 = intsA (a) ∧ f_ 1 = intsA (b)) (fun M hM => ?_) (fun fr1 τz hm => ?_)
 ·simp [go_sem, f0, f1]
  refine (hM _ _).2 ⟨rfl, ?_, ?_⟩ <;> simp [go_sem, f0, f1]
 clear f0 f1
 obtain ⟨rfl, f0, f1⟩ := hm
 refine SW.seq ?_
 refine SW.seq ?_
 refine SW.regX (fun f_ t_ => σ0 = t_ ∧ f_ 0 = intsA (a) ∧ f_ 1 = intsA (b) ∧ f_ 10 = AV.bool ((!decide (a.length = b.length)))) (fun M hM => ?_) (fun fr2 τz1 hm => ?_)
 ·simp [go_sem, f0, f1]
  refine (hM _ _).2 ⟨rfl, ?_, ?_, ?_⟩ <;> simp [go_sem, f0, f1]
 clear f0 f1
 obtain ⟨rfl, f0, f1, f10⟩ := hm
 refine SW.cond _ f10 (fun hx => ?_) (fun hx => ?_)
 ·have h := condT h hx
  refine SW.seq ?_
  refine SW.regX (fun f_ t_ => σ0 = t_ ∧ f_ 4 = AV.bool (false)) (fun M hM => ?_) (fun fr3 τz2 hm => ?_)
  ·simp [go_sem, f0, f1, f10]
   refine (hM _ _).2 ⟨rfl, ?_⟩ <;> simp [go_sem, f0, f1, f10]
  clear f0 f1 f10
  obtain ⟨rfl, f4⟩ := hm
  obtain rfl := Option.some.inj h
  exact SW.ret ⟨AV.bool (false), by simp [go_sem, f4], .lit _, Keeps.refl _⟩
 have h := condF h hx
 refine SW.skip ?_
 refine SW.seq ?_
 refine SW.seq ?_
 refine SW.regX (fun f_ t_ => σ0 = t_ ∧ f_ 0 = intsA (a) ∧ f_ 1 = intsA (b) ∧ f_ 5 = AV.int (0)) (fun M hM => ?_) (fun fr4 τz3 hm => ?_)
 ·simp [go_sem, f0, f1, f10]
  refine (hM _ _).2 ⟨rfl, ?_, ?_, ?_⟩ <;> simp [go_sem, f0, f1, f10]
 clear f0 f1 f10
 obtain ⟨rfl, f0, f1, f5⟩ := hm
 obtain ⟨oi1, hruni1, hoi1⟩ := obind h
 refine SW.len 0 f0 (fun hbigi1 => ?_)
 obtain ⟨KL, hKL⟩ : ∃ KL : Fr → Mem → Prop, ∀ fr' τ', KL fr' τ' ↔ (oi1 = .done () ∧ σ0 = τ') := ⟨_, fun _ _ => Iff.rfl⟩
 refine SW.cut KL ?_ ?_
 ·refine SW.block ?_
  obtain ⟨J, hJ⟩ : ∃ J : Nat → Fr → Mem → Prop, ∀ m_ fr' τ', J m_ fr' τ' ↔ (∃ i : Nat, m_ = a.length - i ∧ forN (b1_ref02_SameInts a b) (a.length - i) i () = some oi1 ∧ σ0 = τ' ∧ fr' 0 = intsA (a) ∧ fr' 1 = intsA (b) ∧ fr' 5 = AV.int (((i : Nat) : Int))) := ⟨_, fun _ _ _ => Iff.rfl⟩
  refine SW.loop J (a.length - 0) ((hJ _ _ _).2 ⟨0, rfl, hruni1, rfl, f0, f1, f5⟩) ?_
  clear hruni1
  intro m_ fr5 τ hm
  rw [hJ] at hm
  clear f0 f1 f5
  obtain ⟨i, rfl, hruni1, rfl, f0, f1, f5⟩ := hm
  refine SW.seq ?_
  refine SW.seq ?_
  refine SW.regX (fun f_ t_ => σ0 = t_ ∧ f_ 0 = intsA (a) ∧ f_ 1 = intsA (b) ∧ f_ 5 = AV.int (((i : Nat) : Int)) ∧ f_ 14 = AV.bool ((decide (i < a.length)))) (fun M hM => ?_) (fun fr6 τz4 hm => ?_)
  ·simp [go_sem, f0, f1, f5]
   refine (hM _ _).2 ⟨rfl, ?_, ?_, ?_, ?_⟩ <;> simp [go_sem, f0, f1, f5]
  clear f0 f1 f5
  obtain ⟨rfl, f0, f1, f5, f14⟩ := hm
  refine SW.cond _ f14 (fun hx1 => ?_) (fun hx1 => ?_)
  rotate_left
  ·have hk : ¬ i < a.length := by have := of_decide_eq_false hx1; omega
   refine SW.exit rfl ?_
   exact SW.goal ((hKL _ _).2 ⟨forN_end hruni1 hk, rfl⟩)
  have hki : i < a.length := by have := of_decide_eq_true hx1; omega
  have hwi : IntKind.i64.wrap ((i : Int) + 1) = ((i + 1 : Nat) : Int) := by rw [wrap64_of _ (by omega) (by omega)]; rfl
  obtain ⟨ci1, hbi1, hci1⟩ := forN_step hruni1 hki
  simp only [b1_ref02_SameInts] at hbi1
  refine SW.skip ?_
  refine SW.seq ?_
  refine SW.block ?_
  refine SW.seq ?_
  obtain ⟨n, hn, hbi1⟩ := obind hbi1
  have xln := getN_lt hn
  have xdn := getN_map AV.int hn
  obtain ⟨n1, hn1, hbi1⟩ := obind hbi1
  have xln1 := getN_lt hn1
  have xdn1 := getN_map AV.int hn1
  refine SW.regX (fun f_ t_ => σ0 = t_ ∧ f_ 0 = intsA (a) ∧ f_ 1 = intsA (b) ∧ f_ 5 = AV.int (((i : Nat) : Int)) ∧ f_ 25 = AV.bool ((!decide (n = n1)))) (fun M hM => ?_) (fun fr7 τz5 hm => ?_)
  ·refine EW_regionD (by kernel_rfl) (by kernel_rfl) ?_
   simp [go_sem, f0, f1, f14, f5, xln, xdn, xln1, xdn1]
   refine (hM _ _).2 ⟨rfl, ?_, ?_, ?_, ?_⟩ <;> simp [go_sem, f0, f1, f14, f5, xln, xdn, xln1, xdn1]
  clear f0 f1 f14 f5
  obtain ⟨rfl, f0, f1, f5, f25⟩ := hm
  refine SW.cond _ f25 (fun hx2 => ?_) (fun hx2 => ?_)
  ·have hbi1 := condT hbi1 hx2
   refine SW.seq ?_
   refine SW.regX (fun f_ t_ => σ0 = t_ ∧ f_ 4 = AV.bool (false)) (fun M hM => ?_) (fun fr8 τz6 hm => ?_)
   ·simp [go_sem, f0, f1, f25, f5]
    refine (hM _ _).2 ⟨rfl, ?_⟩ <;> simp [go_sem, f0, f1, f25, f5]
   clear f0 f1 f25 f5
   obtain ⟨rfl, f4⟩ := hm
   obtain rfl := Option.some.inj hbi1
   obtain rfl := Option.some.inj hci1
   obtain rfl := Option.some.inj hoi1
   exact SW.ret ⟨AV.bool (false), by simp [go_sem, f4], .lit _, Keeps.refl _⟩
  have hbi1 := condF hbi1 hx2
  refine SW.skip ?_
  refine SW.blk ?_
  refine SW.regX (fun f_ t_ => σ0 = t_ ∧ f_ 0 = intsA (a) ∧ f_ 1 = intsA (b) ∧ f_ 5 = AV.int (((i + 1 : Nat) : Int))) (fun M hM => ?_) (fun fr9 τz7 hm => ?_)
  ·simp [go_sem, f0, f1, f25, f5, hwi]
   refine (hM _ _).2 ⟨rfl, ?_, ?_, ?_⟩ <;> simp [go_sem, f0, f1, f25, f5, hwi]
  clear f0 f1 f25 f5
  obtain ⟨rfl, f0, f1, f5⟩ := hm
  obtain rfl := Option.some.inj hbi1
  exact SW.goal ⟨a.length - (i + 1), by omega, (hJ _ _ _).2 ⟨i + 1, rfl, hci1, rfl, f0, f1, f5⟩⟩
 intro fr10 τ1 hm
 rw [hKL] at hm
 clear hKL hruni1
 clear f0 f1 f5
 obtain ⟨rfl, rfl⟩ := hm
 simp only [Out.on] at hoi1
 refine SW.seq ?_
 refine SW.regX (fun f_ t_ => σ0 = t_ ∧ f_ 4 = AV.bool (true)) (fun M hM => ?_) (fun fr11 τz8 hm => ?_)
 ·simp [go_sem]
  refine (hM _ _).2 ⟨rfl, ?_⟩ <;> simp [go_sem]
 obtain ⟨rfl, f4⟩ := hm
 obtain rfl := Option.some.inj hoi1
 exact SW.ret ⟨AV.bool (true), by simp [go_sem, f4], .lit _, Keeps.refl _⟩
set_option maxHeartbeats 4000000 in
theorem w_ref06_Same (a : Morph) (b : Morph) (r : (Bool)) (h : s_ref06_Same a b = some r) : PureA Tryz.prog 17 [AV.agg [intsA (a.nodes), intsA (a.edges)], AV.agg [intsA (b.nodes), intsA (b.edges)]] (AV.bool (r)) := by
 refine pureA_of_SW (N := 17) Tryz.func17 (by kernel_rfl) rfl (by rw [Tryz.ntmps17]; rfl) (fun σ0 => ?_)
 rw [Tryz.results17]
 obtain ⟨fr0, hfr⟩ : ∃ fr, fr = initFr [AV.agg [intsA (a.nodes), intsA (a.edges)], AV.agg [intsA (b.nodes), intsA (b.edges)]] := ⟨_, rfl⟩
 rw [← hfr]
 have f0 : fr0 0 = AV.agg [intsA (a.nodes), intsA (a.edges)] := by rw [hfr]; rfl
 have f1 : fr0 1 = AV.agg [intsA (b.nodes), intsA (b.edges)] := by rw [hfr]; rfl
 clear hfr
 simp only [s_ref06_Same] at h
 refine SW.seq ?_
 refine SW.regX (fun f_ t_ => ∃ b2 : Nat, ∃ b3 : Nat, f_ 2 = AV.ptr b2 0 ∧ f_ 3 = AV.ptr b3 0 ∧ Kept σ0 t_ ∧ σ0.next ≤ t_.next ∧ t_.get b2 = some [intsA (a.nodes), intsA (a.edges)] ∧ b2 < t_.next ∧ t_.get b3 = some [intsA (b.nodes), intsA (b.edges)] ∧ b3 < t_.next ∧ σ0.next ≤ b2 ∧ σ0.next ≤ b3 ∧ ¬ b2 = b3) (fun M hM => ?_) (fun fr1 τ hm => ?_)
 ·simp [go_sem, f0, f1]
  refine (hM _ _).2 ⟨σ0.next, (σ0.next + 1), ?_, ?_, by intro j hj; simp [go_sem, show ¬ j = σ0.next by omega, show ¬ j = σ0.next + 1 by omega], by first | omega | (simp [go_sem]; done) | (simp [go_sem]; omega), by simp (disch := omega) [get_alloc_ne, get_set_ne, get_kill_ne, go_sem, f0, f1], by first | omega | (simp [go_sem]; done) | (simp [go_sem]; omega), by simp (disch := omega) [get_alloc_ne, get_set_ne, get_kill_ne, go_sem, f0, f1], by first | omega | (simp [go_sem]; done) | (simp [go_sem]; omega), by omega, by omega, by omega⟩ <;> simp [go_sem, f0, f1]
 clear f0 f1
 obtain ⟨b2, b3, f2, f3, hK, hN, gb2, ub2, gb3, ub3, wb2, wb3, eb2b3⟩ := hm
 refine SW.seq ?_
 obtain ⟨q, hq, h⟩ := obind h
 obtain ⟨c, hc, h⟩ := obind h
 refine SW.regX (fun f_ t_ => τ = t_ ∧ f_ 4 = AV.bool (c)) (fun M hM => ?_) (fun fr2 τz hm => ?_)
 ·rcases Bool.eq_false_or_eq_true q with y0 | y0
  ·have y0' := y0
   try simp at y0'
   have ky0 := condT hc y0
   obtain ⟨q1, hq1, ky0⟩ := obind ky0
   have ec := Option.some.inj ky0
   simp [go_sem, f2, f3, gb2, gb3, y0, y0']
   refine EWcall_pure (w_ref02_SameInts a.nodes b.nodes _ hq) ?_
   simp [go_sem, f2, f3, gb2, gb3, y0, y0']
   refine EWcall_pure (w_ref02_SameInts a.edges b.edges _ hq1) ?_
   simp [go_sem, f2, f3, gb2, gb3, y0, y0']
   refine (hM _ _).2 ⟨rfl, ?_⟩ <;> simp [go_sem, f2, f3, gb2, gb3, y0, y0', ← ec]
  ·have y0' := y0
   try simp at y0'
   have ky0 := condF hc y0
   have ec := Option.some.inj ky0
   simp [go_sem, f2, f3, gb2, gb3, y0, y0']
   refine EWcall_pure (w_ref02_SameInts a.nodes b.nodes _ hq) ?_
   simp [go_sem, f2, f3, gb2, gb3, y0, y0']
   refine (hM _ _).2 ⟨rfl, ?_⟩ <;> simp [go_sem, f2, f3, gb2, gb3, y0, y0', ← ec]
 clear f2 f3
 obtain ⟨rfl, f4⟩ := hm
 obtain rfl := Option.some.inj h
 exact SW.ret ⟨AV.bool (c), by simp [go_sem, f4], .lit _, hK.keeps⟩
end Go.Proofs.YtdacgjleiloooaaGreat
