/-
  Plain functions and the walks that lead to them, by a program of ours (gen.py): scarfjoint/scarfjointref05.SameInts, scarfjoint/scarfjointref21.SameMatch, scarfjoint/scarfjointref21.SameMatches, scarfjoint/scarfjointlaw21.awake, scarfjoint/attribute.Term, scarfjoint/scarfjointref21.value.
-/
import Derived.Test.YtippinddoldhkaaGreatGd
import Derived.Test.YtippinddoldhkaaGreatGT
import Derived.Test.YtippinddoldhkaaGreatB3
import Derived.Test.YtippinddoldhkaaGreatB7
import Derived.Test.YtippinddoldhkaaGreatGS
import Derived.Test.YtippinddoldhkaaGreatLg
import Derived.Test.YtippinddoldhkaaGreatGa1
import Derived.Test.YtippinddoldhkaaGreatGa9
import Derived.Test.YtippinddoldhkaaGreatGa12
import Derived.Test.YtippinddoldhkaaGreatGa2
import Derived.Test.YtippinddoldhkaaGreatGa7
set_option linter.unusedSimpArgs false
set_option linter.unusedVariables false
namespace Go.Proofs.YtippinddoldhkaaGreat
open Go Go.Ew Go.Proofs Go.RowKit
set_option maxRecDepth 100000
set_option maxHeartbeats 4000000 in
theorem w_ref05_SameInts (a : List Int) (b : List Int) (r : (Bool)) (h : s_ref05_SameInts a b = some r) : PureA Tryz.prog 116 [intsA (a), intsA (b)] (AV.bool (r)) := by
 refine pureA_of_SW (N := 26) Tryz.func116 (by kernel_rfl) rfl (by rw [Tryz.ntmps116]; rfl) (fun σ0 => ?_)
 rw [Tryz.results116]
 obtain ⟨fr0, hfr⟩ : ∃ fr, fr = initFr [intsA (a), intsA (b)] := ⟨_, rfl⟩
 rw [← hfr]
 have f0 : fr0 0 = intsA (a) := by rw [hfr]; rfl
 have f1 : fr0 1 = intsA (b) := by rw [hfr]; rfl
 clear hfr
 simp only [s_ref05_SameInts] at h
 refine SW.seq ?_
 refine SW.regX (fun f_ t_ => σ0 = t_ ∧ f_ 0 = intsA (a) ∧ f_ 1 = intsA (b)) (fun M hM => ?_) (fun fr1 τz hm => ?_)
 ·simp [go_sem, f0, f1]
  refine (hM _ _).2 ⟨rfl, ?_, ?_⟩ <;> simp [go_sem, f0, f1]
 clear f0 f1
 obtain ⟨rfl, f0, f1⟩ := hm
 refine SW.seq ?_
 refine SW.seq ?_
 refine SW.regX (fun f_ t_ => σ0 = t_ ∧ f_ 0 = intsA (a) ∧ f_ 1 = intsA (b) ∧ f_ 10 = AV.bool ((!decide (a.length = b.length)))) (fun M hM => ?_) (fun fr2 τz1 hm => ?_)
 ·simp [go_sem, f0, f1]
  refine (hM _ _).2 ⟨rfl, ?_, ?_, ?_⟩ <;> simp [go_sem, f0, f1]
 clear f0 f1
 obtain ⟨rfl, f0, f1, f10⟩ := hm
 refine SW.cond _ f10 (fun vh => ?_) (fun vh => ?_)
 ·have h := condT h vh
  refine SW.seq ?_
  refine SW.regX (fun f_ t_ => σ0 = t_ ∧ f_ 4 = AV.bool (false)) (fun M hM => ?_) (fun fr3 τz2 hm => ?_)
  ·simp [go_sem, f0, f1, f10]
   refine (hM _ _).2 ⟨rfl, ?_⟩ <;> simp [go_sem, f0, f1, f10]
  clear f0 f1 f10
  obtain ⟨rfl, f4⟩ := hm
  obtain rfl := Option.some.inj h
  exact SW.ret ⟨AV.bool (false), by simp [go_sem, f4], .lit _, Keeps.refl _⟩
 have h := condF h vh
 refine SW.skip ?_
 refine SW.seq ?_
 refine SW.seq ?_
 refine SW.regX (fun f_ t_ => σ0 = t_ ∧ f_ 0 = intsA (a) ∧ f_ 1 = intsA (b) ∧ f_ 5 = AV.int (0)) (fun M hM => ?_) (fun fr4 τz3 hm => ?_)
 ·simp [go_sem, f0, f1, f10]
  refine (hM _ _).2 ⟨rfl, ?_, ?_, ?_⟩ <;> simp [go_sem, f0, f1, f10]
 clear f0 f1 f10
 obtain ⟨rfl, f0, f1, f5⟩ := hm
 obtain ⟨oi1, hruni1, hoi1⟩ := obind h
 refine SW.len 0 f0 (fun hbigi1 => ?_)
 obtain ⟨KLi1, hKLi1⟩ : ∃ KL : Fr → Mem → Prop, ∀ fr' τ', KL fr' τ' ↔ (oi1 = .done () ∧ σ0 = τ') := ⟨_, fun _ _ => Iff.rfl⟩
 refine SW.cut KLi1 ?_ ?_
 ·refine SW.block ?_
  obtain ⟨Ji1, hJi1⟩ : ∃ J : Nat → Fr → Mem → Prop, ∀ m_ fr' τ', J m_ fr' τ' ↔ (∃ i : Nat, m_ = a.length - i ∧ forN (b1_ref05_SameInts a b) (a.length - i) i () = some oi1 ∧ σ0 = τ' ∧ fr' 0 = intsA (a) ∧ fr' 1 = intsA (b) ∧ fr' 5 = AV.int (((i : Nat) : Int))) := ⟨_, fun _ _ _ => Iff.rfl⟩
  refine SW.loop Ji1 (a.length - 0) ((hJi1 _ _ _).2 ⟨0, rfl, hruni1, rfl, f0, f1, f5⟩) ?_
  clear hruni1
  intro m_ fr5 τ hm
  rw [hJi1] at hm
  clear f0 f1 f5
  obtain ⟨i, rfl, hruni1, rfl, f0, f1, f5⟩ := hm
  refine SW.seq ?_
  refine SW.seq ?_
  refine SW.regX (fun f_ t_ => σ0 = t_ ∧ f_ 0 = intsA (a) ∧ f_ 1 = intsA (b) ∧ f_ 5 = AV.int (((i : Nat) : Int)) ∧ f_ 14 = AV.bool ((decide (i < a.length)))) (fun M hM => ?_) (fun fr6 τz4 hm => ?_)
  ·simp [go_sem, f0, f1, f5]
   refine (hM _ _).2 ⟨rfl, ?_, ?_, ?_, ?_⟩ <;> simp [go_sem, f0, f1, f5]
  clear f0 f1 f5
  obtain ⟨rfl, f0, f1, f5, f14⟩ := hm
  refine SW.cond _ f14 (fun vh1 => ?_) (fun vh1 => ?_)
  rotate_left
  ·have hk : ¬ i < a.length := by have := of_decide_eq_false vh1; omega
   refine SW.exit rfl ?_
   exact SW.goal ((hKLi1 _ _).2 ⟨forN_end hruni1 hk, rfl⟩)
  have hki : i < a.length := by have := of_decide_eq_true vh1; omega
  have hwi : IntKind.i64.wrap ((i : Int) + 1) = ((i + 1 : Nat) : Int) := by rw [wrap64_of _ (by omega) (by omega)]; rfl
  obtain ⟨ci1, hbi1, hci1⟩ := forN_step hruni1 hki
  simp only [b1_ref05_SameInts] at hbi1
  refine SW.skip ?_
  refine SW.seq ?_
  refine SW.block ?_
  refine SW.seq ?_
  obtain ⟨n, hn, hbi1⟩ := obind hbi1
  have xln := getN_lt hn
  have xdn := getN_map AV.int hn
  obtain ⟨n1, hn1, hbi1⟩ := obind hbi1
  have xln1 := getN_lt hn1
  have xdn1 := getN_map AV.int hn1
  refine SW.regX (fun f_ t_ => σ0 = t_ ∧ f_ 0 = intsA (a) ∧ f_ 1 = intsA (b) ∧ f_ 5 = AV.int (((i : Nat) : Int)) ∧ f_ 25 = AV.bool ((!decide (n = n1)))) (fun M hM => ?_) (fun fr7 τz5 hm => ?_)
  ·refine EW_regionD (by kernel_rfl) (by kernel_rfl) ?_
   simp [go_sem, f0, f1, f14, f5, xln, xdn, xln1, xdn1]
   refine (hM _ _).2 ⟨rfl, ?_, ?_, ?_, ?_⟩ <;> simp [go_sem, f0, f1, f14, f5, xln, xdn, xln1, xdn1]
  clear f0 f1 f14 f5
  obtain ⟨rfl, f0, f1, f5, f25⟩ := hm
  refine SW.cond _ f25 (fun vh2 => ?_) (fun vh2 => ?_)
  ·have hbi1 := condT hbi1 vh2
   refine SW.seq ?_
   refine SW.regX (fun f_ t_ => σ0 = t_ ∧ f_ 4 = AV.bool (false)) (fun M hM => ?_) (fun fr8 τz6 hm => ?_)
   ·simp [go_sem, f0, f1, f25, f5]
    refine (hM _ _).2 ⟨rfl, ?_⟩ <;> simp [go_sem, f0, f1, f25, f5]
   clear f0 f1 f25 f5
   obtain ⟨rfl, f4⟩ := hm
   obtain rfl := Option.some.inj hbi1
   obtain rfl := Option.some.inj hci1
   obtain rfl := Option.some.inj hoi1
   exact SW.ret ⟨AV.bool (false), by simp [go_sem, f4], .lit _, Keeps.refl _⟩
  have hbi1 := condF hbi1 vh2
  refine SW.skip ?_
  refine SW.blk ?_
  refine SW.regX (fun f_ t_ => σ0 = t_ ∧ f_ 0 = intsA (a) ∧ f_ 1 = intsA (b) ∧ f_ 5 = AV.int (((i + 1 : Nat) : Int))) (fun M hM => ?_) (fun fr9 τz7 hm => ?_)
  ·simp [go_sem, f0, f1, f25, f5, hwi]
   refine (hM _ _).2 ⟨rfl, ?_, ?_, ?_⟩ <;> simp [go_sem, f0, f1, f25, f5, hwi]
  clear f0 f1 f25 f5
  obtain ⟨rfl, f0, f1, f5⟩ := hm
  obtain rfl := Option.some.inj hbi1
  exact SW.goal ⟨a.length - (i + 1), by omega, (hJi1 _ _ _).2 ⟨i + 1, rfl, hci1, rfl, f0, f1, f5⟩⟩
 intro fr10 τ1 hm
 rw [hKLi1] at hm
 clear hKLi1 hruni1
 clear f0 f1 f5
 obtain ⟨rfl, rfl⟩ := hm
 simp only [Out.on] at hoi1
 refine SW.seq ?_
 refine SW.regX (fun f_ t_ => σ0 = t_ ∧ f_ 4 = AV.bool (true)) (fun M hM => ?_) (fun fr11 τz8 hm => ?_)
 ·simp [go_sem]
  refine (hM _ _).2 ⟨rfl, ?_⟩ <;> simp [go_sem]
 obtain ⟨rfl, f4⟩ := hm
 obtain rfl := Option.some.inj hoi1
 exact SW.ret ⟨AV.bool (true), by simp [go_sem, f4], .lit _, Keeps.refl _⟩
set_option maxHeartbeats 4000000 in
theorem w_ref21_SameMatch (a : GMatch) (b : GMatch) (r : (Bool)) (h : s_ref21_SameMatch a b = some r) : PureA Tryz.prog 80 [AV.agg [intsA (a.morphism.nodes), intsA (a.morphism.edges), intsA (a.vars)], AV.agg [intsA (b.morphism.nodes), intsA (b.morphism.edges), intsA (b.vars)]] (AV.bool (r)) := by
 refine pureA_of_SW (N := 28) Tryz.func80 (by kernel_rfl) rfl (by rw [Tryz.ntmps80]; rfl) (fun σ0 => ?_)
 rw [Tryz.results80]
 obtain ⟨fr0, hfr⟩ : ∃ fr, fr = initFr [AV.agg [intsA (a.morphism.nodes), intsA (a.morphism.edges), intsA (a.vars)], AV.agg [intsA (b.morphism.nodes), intsA (b.morphism.edges), intsA (b.vars)]] := ⟨_, rfl⟩
 rw [← hfr]
 have f0 : fr0 0 = AV.agg [intsA (a.morphism.nodes), intsA (a.morphism.edges), intsA (a.vars)] := by rw [hfr]; rfl
 have f1 : fr0 1 = AV.agg [intsA (b.morphism.nodes), intsA (b.morphism.edges), intsA (b.vars)] := by rw [hfr]; rfl
 clear hfr
 simp only [s_ref21_SameMatch] at h
 refine SW.seq ?_
 refine SW.regX (fun f_ t_ => ∃ b2 : Nat, ∃ b3 : Nat, f_ 2 = AV.ptr b2 0 ∧ f_ 3 = AV.ptr b3 0 ∧ Kept σ0 t_ ∧ σ0.next ≤ t_.next ∧ t_.get b2 = some [intsA (a.morphism.nodes), intsA (a.morphism.edges), intsA (a.vars)] ∧ b2 < t_.next ∧ t_.get b3 = some [intsA (b.morphism.nodes), intsA (b.morphism.edges), intsA (b.vars)] ∧ b3 < t_.next ∧ σ0.next ≤ b2 ∧ σ0.next ≤ b3 ∧ ¬ b2 = b3) (fun M hM => ?_) (fun fr1 τ hm => ?_)
 ·simp [go_sem, f0, f1]
  refine (hM _ _).2 ⟨σ0.next, (σ0.next + 1), ?_, ?_, by intro j hj; simp [go_sem, show ¬ j = σ0.next by omega, show ¬ j = σ0.next + 1 by omega], by first | omega | (simp [go_sem]; done) | (simp [go_sem]; omega), by simp (disch := omega) [get_alloc_ne, get_set_ne, get_kill_ne, go_sem, f0, f1], by first | omega | (simp [go_sem]; done) | (simp [go_sem]; omega), by simp (disch := omega) [get_alloc_ne, get_set_ne, get_kill_ne, go_sem, f0, f1], by first | omega | (simp [go_sem]; done) | (simp [go_sem]; omega), by omega, by omega, by omega⟩ <;> simp [go_sem, f0, f1]
 clear f0 f1
 obtain ⟨b2, b3, f2, f3, hK, hN, gb2, ub2, gb3, ub3, wb2, wb3, eb2b3⟩ := hm
 refine SW.seq ?_
 obtain ⟨q, hq, h⟩ := obind h
 obtain ⟨c, hc, h⟩ := obind h
 refine SW.regX (fun f_ t_ => τ = t_ ∧ f_ 4 = AV.bool (c)) (fun M hM => ?_) (fun fr2 τz hm => ?_)
 ·rcases Bool.eq_false_or_eq_true q with y0 | y0
  ·have y0' := y0
   try simp at y0'
   have ky0 := condT hc y0
   obtain ⟨q1, hq1, ky0⟩ := obind ky0
   rcases Bool.eq_false_or_eq_true q1 with y2 | y2
   ·have y2' := y2
    try simp [y0'] at y2'
    have ky2 := condT ky0 y2
    all_goals
     obtain ⟨q2, hq2, ky2⟩ := obind ky2
     have ec := Option.some.inj ky2
     simp [go_sem, f2, f3, gb2, gb3, y0, y0', y2, y2']
     refine EWcall_pure (w_ref05_SameInts a.morphism.nodes b.morphism.nodes _ hq) ?_
     simp [go_sem, f2, f3, gb2, gb3, y0, y0', y2, y2']
     refine EWcall_pure (w_ref05_SameInts a.morphism.edges b.morphism.edges _ hq1) ?_
     simp [go_sem, f2, f3, gb2, gb3, y0, y0', y2, y2']
     refine EWcall_pure (w_ref05_SameInts a.vars b.vars _ hq2) ?_
     simp [go_sem, f2, f3, gb2, gb3, y0, y0', y2, y2']
     refine (hM _ _).2 ⟨rfl, ?_⟩ <;> simp [go_sem, f2, f3, gb2, gb3, y0, y0', y2, y2', ← ec]
   ·have y2' := y2
    try simp [y0'] at y2'
    have ky2 := condF ky0 y2
    all_goals
     have ec := Option.some.inj ky2
     simp [go_sem, f2, f3, gb2, gb3, y0, y0', y2, y2']
     refine EWcall_pure (w_ref05_SameInts a.morphism.nodes b.morphism.nodes _ hq) ?_
     simp [go_sem, f2, f3, gb2, gb3, y0, y0', y2, y2']
     refine EWcall_pure (w_ref05_SameInts a.morphism.edges b.morphism.edges _ hq1) ?_
     simp [go_sem, f2, f3, gb2, gb3, y0, y0', y2, y2']
     refine (hM _ _).2 ⟨rfl, ?_⟩ <;> simp [go_sem, f2, f3, gb2, gb3, y0, y0', y2, y2', ← ec]
  ·have y0' := y0
   try simp at y0'
   have ky0 := condF hc y0
   have ec := Option.some.inj ky0
   simp [go_sem, f2, f3, gb2, gb3, y0, y0']
   refine EWcall_pure (w_ref05_SameInts a.morphism.nodes b.morphism.nodes _ hq) ?_
   simp [go_sem, f2, f3, gb2, gb3, y0, y0']
   refine (hM _ _).2 ⟨rfl, ?_⟩ <;> simp [go_sem, f2, f3, gb2, gb3, y0, y0', ← ec]
 clear f2 f3
 obtain ⟨rfl, f4⟩ := hm
 obtain rfl := Option.some.inj h
 exact SW.ret ⟨AV.bool (c), by simp [go_sem, f4], .lit _, hK.keeps⟩
set_option maxHeartbeats 4000000 in
theorem w_ref21_SameMatches (a : List GMatch) (b : List GMatch) (r : (Bool)) (h : s_ref21_SameMatches a b = some r) : PureA Tryz.prog 31 [sl_GMatch (a), sl_GMatch (b)] (AV.bool (r)) := by
 refine pureA_of_SW (N := 27) Tryz.func31 (by kernel_rfl) rfl (by rw [Tryz.ntmps31]; rfl) (fun σ0 => ?_)
 rw [Tryz.results31]
 obtain ⟨fr0, hfr⟩ : ∃ fr, fr = initFr [sl_GMatch (a), sl_GMatch (b)] := ⟨_, rfl⟩
 rw [← hfr]
 have f0 : fr0 0 = sl_GMatch (a) := by rw [hfr]; rfl
 have f1 : fr0 1 = sl_GMatch (b) := by rw [hfr]; rfl
 clear hfr
 simp only [s_ref21_SameMatches] at h
 refine SW.seq ?_
 refine SW.regX (fun f_ t_ => σ0 = t_ ∧ f_ 0 = sl_GMatch (a) ∧ f_ 1 = sl_GMatch (b)) (fun M hM => ?_) (fun fr1 τz hm => ?_)
 ·simp [go_sem, f0, f1]
  refine (hM _ _).2 ⟨rfl, ?_, ?_⟩ <;> simp [go_sem, f0, f1]
 clear f0 f1
 obtain ⟨rfl, f0, f1⟩ := hm
 refine SW.seq ?_
 refine SW.seq ?_
 refine SW.regX (fun f_ t_ => σ0 = t_ ∧ f_ 0 = sl_GMatch (a) ∧ f_ 1 = sl_GMatch (b) ∧ f_ 10 = AV.bool ((!decide (a.length = b.length)))) (fun M hM => ?_) (fun fr2 τz1 hm => ?_)
 ·simp [go_sem, f0, f1]
  refine (hM _ _).2 ⟨rfl, ?_, ?_, ?_⟩ <;> simp [go_sem, f0, f1]
 clear f0 f1
 obtain ⟨rfl, f0, f1, f10⟩ := hm
 refine SW.cond _ f10 (fun vh => ?_) (fun vh => ?_)
 ·have h := condT h vh
  refine SW.seq ?_
  refine SW.regX (fun f_ t_ => σ0 = t_ ∧ f_ 4 = AV.bool (false)) (fun M hM => ?_) (fun fr3 τz2 hm => ?_)
  ·simp [go_sem, f0, f1, f10]
   refine (hM _ _).2 ⟨rfl, ?_⟩ <;> simp [go_sem, f0, f1, f10]
  clear f0 f1 f10
  obtain ⟨rfl, f4⟩ := hm
  obtain rfl := Option.some.inj h
  exact SW.ret ⟨AV.bool (false), by simp [go_sem, f4], .lit _, Keeps.refl _⟩
 have h := condF h vh
 refine SW.skip ?_
 refine SW.seq ?_
 refine SW.seq ?_
 refine SW.regX (fun f_ t_ => σ0 = t_ ∧ f_ 0 = sl_GMatch (a) ∧ f_ 1 = sl_GMatch (b) ∧ f_ 5 = AV.int (0)) (fun M hM => ?_) (fun fr4 τz3 hm => ?_)
 ·simp [go_sem, f0, f1, f10]
  refine (hM _ _).2 ⟨rfl, ?_, ?_, ?_⟩ <;> simp [go_sem, f0, f1, f10]
 clear f0 f1 f10
 obtain ⟨rfl, f0, f1, f5⟩ := hm
 obtain ⟨oi1, hruni1, hoi1⟩ := obind h
 refine SW.len 0 f0 (fun hbigi1 => ?_)
 obtain ⟨KLi1, hKLi1⟩ : ∃ KL : Fr → Mem → Prop, ∀ fr' τ', KL fr' τ' ↔ (oi1 = .done () ∧ σ0 = τ') := ⟨_, fun _ _ => Iff.rfl⟩
 refine SW.cut KLi1 ?_ ?_
 ·refine SW.block ?_
  obtain ⟨Ji1, hJi1⟩ : ∃ J : Nat → Fr → Mem → Prop, ∀ m_ fr' τ', J m_ fr' τ' ↔ (∃ i : Nat, m_ = a.length - i ∧ forN (b1_ref21_SameMatches a b) (a.length - i) i () = some oi1 ∧ σ0 = τ' ∧ fr' 0 = sl_GMatch (a) ∧ fr' 1 = sl_GMatch (b) ∧ fr' 5 = AV.int (((i : Nat) : Int))) := ⟨_, fun _ _ _ => Iff.rfl⟩
  refine SW.loop Ji1 (a.length - 0) ((hJi1 _ _ _).2 ⟨0, rfl, hruni1, rfl, f0, f1, f5⟩) ?_
  clear hruni1
  intro m_ fr5 τ hm
  rw [hJi1] at hm
  clear f0 f1 f5
  obtain ⟨i, rfl, hruni1, rfl, f0, f1, f5⟩ := hm
  refine SW.seq ?_
  refine SW.seq ?_
  refine SW.regX (fun f_ t_ => σ0 = t_ ∧ f_ 0 = sl_GMatch (a) ∧ f_ 1 = sl_GMatch (b) ∧ f_ 5 = AV.int (((i : Nat) : Int)) ∧ f_ 14 = AV.bool ((decide (i < a.length)))) (fun M hM => ?_) (fun fr6 τz4 hm => ?_)
  ·simp [go_sem, f0, f1, f5]
   refine (hM _ _).2 ⟨rfl, ?_, ?_, ?_, ?_⟩ <;> simp [go_sem, f0, f1, f5]
  clear f0 f1 f5
  obtain ⟨rfl, f0, f1, f5, f14⟩ := hm
  refine SW.cond _ f14 (fun vh1 => ?_) (fun vh1 => ?_)
  rotate_left
  ·have hk : ¬ i < a.length := by have := of_decide_eq_false vh1; omega
   refine SW.exit rfl ?_
   exact SW.goal ((hKLi1 _ _).2 ⟨forN_end hruni1 hk, rfl⟩)
  have hki : i < a.length := by have := of_decide_eq_true vh1; omega
  have hwi : IntKind.i64.wrap ((i : Int) + 1) = ((i + 1 : Nat) : Int) := by rw [wrap64_of _ (by omega) (by omega)]; rfl
  obtain ⟨ci1, hbi1, hci1⟩ := forN_step hruni1 hki
  simp only [b1_ref21_SameMatches] at hbi1
  refine SW.skip ?_
  refine SW.seq ?_
  refine SW.block ?_
  refine SW.seq ?_
  obtain ⟨x, hx, hbi1⟩ := obind hbi1
  have xlx := getN_lt hx
  have xdx := getN_flat GMatchC 3 (fun _ => rfl) hx
  obtain ⟨x1, hx1, hbi1⟩ := obind hbi1
  have xlx1 := getN_lt hx1
  have xdx1 := getN_flat GMatchC 3 (fun _ => rfl) hx1
  obtain ⟨q, hq, hbi1⟩ := obind hbi1
  refine SW.regX (fun f_ t_ => σ0 = t_ ∧ f_ 0 = sl_GMatch (a) ∧ f_ 1 = sl_GMatch (b) ∧ f_ 5 = AV.int (((i : Nat) : Int)) ∧ f_ 26 = AV.bool ((!q))) (fun M hM => ?_) (fun fr7 τz5 hm => ?_)
  ·refine EW_regionD (by kernel_rfl) (by kernel_rfl) ?_
   simp [go_sem, f0, f1, f14, f5, xlx, xdx, GMatchC, xlx1, xdx1, GMatchC]
   refine EWqcall_pure (w_ref21_SameMatch x x1 _ hq) rfl ?_
   simp [go_sem, f0, f1, f14, f5, xlx, xdx, GMatchC, xlx1, xdx1, GMatchC]
   refine (hM _ _).2 ⟨rfl, ?_, ?_, ?_, ?_⟩ <;> simp [go_sem, f0, f1, f14, f5, xlx, xdx, GMatchC, xlx1, xdx1, GMatchC]
  clear f0 f1 f14 f5
  obtain ⟨rfl, f0, f1, f5, f26⟩ := hm
  refine SW.cond _ f26 (fun vh2 => ?_) (fun vh2 => ?_)
  ·have hbi1 := condT hbi1 vh2
   refine SW.seq ?_
   refine SW.regX (fun f_ t_ => σ0 = t_ ∧ f_ 4 = AV.bool (false)) (fun M hM => ?_) (fun fr8 τz6 hm => ?_)
   ·simp [go_sem, f0, f1, f26, f5]
    refine (hM _ _).2 ⟨rfl, ?_⟩ <;> simp [go_sem, f0, f1, f26, f5]
   clear f0 f1 f26 f5
   obtain ⟨rfl, f4⟩ := hm
   obtain rfl := Option.some.inj hbi1
   obtain rfl := Option.some.inj hci1
   obtain rfl := Option.some.inj hoi1
   exact SW.ret ⟨AV.bool (false), by simp [go_sem, f4], .lit _, Keeps.refl _⟩
  have hbi1 := condF hbi1 vh2
  refine SW.skip ?_
  refine SW.blk ?_
  refine SW.regX (fun f_ t_ => σ0 = t_ ∧ f_ 0 = sl_GMatch (a) ∧ f_ 1 = sl_GMatch (b) ∧ f_ 5 = AV.int (((i + 1 : Nat) : Int))) (fun M hM => ?_) (fun fr9 τz7 hm => ?_)
  ·simp [go_sem, f0, f1, f26, f5, hwi]
   refine (hM _ _).2 ⟨rfl, ?_, ?_, ?_⟩ <;> simp [go_sem, f0, f1, f26, f5, hwi]
  clear f0 f1 f26 f5
  obtain ⟨rfl, f0, f1, f5⟩ := hm
  obtain rfl := Option.some.inj hbi1
  exact SW.goal ⟨a.length - (i + 1), by omega, (hJi1 _ _ _).2 ⟨i + 1, rfl, hci1, rfl, f0, f1, f5⟩⟩
 intro fr10 τ1 hm
 rw [hKLi1] at hm
 clear hKLi1 hruni1
 clear f0 f1 f5
 obtain ⟨rfl, rfl⟩ := hm
 simp only [Out.on] at hoi1
 refine SW.seq ?_
 refine SW.regX (fun f_ t_ => σ0 = t_ ∧ f_ 4 = AV.bool (true)) (fun M hM => ?_) (fun fr11 τz8 hm => ?_)
 ·simp [go_sem]
  refine (hM _ _).2 ⟨rfl, ?_⟩ <;> simp [go_sem]
 obtain ⟨rfl, f4⟩ := hm
 obtain rfl := Option.some.inj hoi1
 exact SW.ret ⟨AV.bool (true), by simp [go_sem, f4], .lit _, Keeps.refl _⟩
set_option maxHeartbeats 4000000 in
theorem w_law21_awake (F : Nat) (r : (Bool)) (h : s_law21_awake F = some r) : PureA Tryz.prog 9 [] (AV.bool (r)) := by
 refine pureA_of_SW (N := 44) Tryz.func9 (by kernel_rfl) rfl (by rw [Tryz.ntmps9]; rfl) (fun σ0 => ?_)
 rw [Tryz.results9]
 obtain ⟨fr0, hfr⟩ : ∃ fr, fr = initFr [] := ⟨_, rfl⟩
 rw [← hfr]
 clear hfr
 simp only [s_law21_awake] at h
 refine SW.seq ?_
 refine SW.regX (fun f_ t_ => σ0 = t_) (fun M hM => ?_) (fun fr1 τz hm => ?_)
 ·simp [go_sem]
  exact (hM _ _).2 (rfl)
 obtain ⟨rfl⟩ := hm
 refine SW.seq ?_
 obtain ⟨rx, hrx, h⟩ := obind h
 obtain ⟨rx1, hrx1, h⟩ := obind h
 obtain ⟨rx2, hrx2, h⟩ := obind h
 obtain ⟨rx3, hrx3, h⟩ := obind h
 refine SW.regX (fun f_ t_ => σ0 = t_ ∧ f_ 1 = sl_GMatch (rx3.1) ∧ f_ 2 = AV.int (rx3.2)) (fun M hM => ?_) (fun fr2 τz1 hm => ?_)
 ·simp [go_sem]
  refine EWcall_pure (w_ref04_Example _ hrx) ?_
  simp [go_sem]
  refine EWcall_pure (w_law21_two (⟨1, (⟨0, 0⟩ : GTerm), (⟨1, 4⟩ : GTerm)⟩ : GTest) _ hrx1) ?_
  simp [go_sem]
  refine EWcall_pure (w_law21_bank _ hrx2) ?_
  simp [go_sem]
  refine EWcall_pure (w_attribute_Matches rx rx1 rx2 true _ hrx3) ?_
  simp [go_sem]
  refine (hM _ _).2 ⟨rfl, ?_, ?_⟩ <;> simp [go_sem]
 obtain ⟨rfl, f1, f2⟩ := hm
 refine SW.seq ?_
 obtain ⟨rx4, hrx4, h⟩ := obind h
 obtain ⟨rx5, hrx5, h⟩ := obind h
 obtain ⟨rx6, hrx6, h⟩ := obind h
 refine SW.regX (fun f_ t_ => σ0 = t_ ∧ f_ 1 = sl_GMatch (rx3.1) ∧ f_ 2 = AV.int (rx3.2) ∧ f_ 3 = sl_GUse (rx6.1) ∧ f_ 4 = AV.int (rx6.2)) (fun M hM => ?_) (fun fr3 τz2 hm => ?_)
 ·simp [go_sem, f1, f2]
  refine EWcall_pure (w_ref04_Example _ hrx4) ?_
  simp [go_sem, f1, f2]
  refine EWcall_pure (w_law21_two (⟨1, (⟨-1, 2000⟩ : GTerm), (⟨0, 0⟩ : GTerm)⟩ : GTest) _ hrx5) ?_
  simp [go_sem, f1, f2]
  refine EWcall_pure (w_attribute_Contradiction F rx4 rx5 _ hrx6) ?_
  simp [go_sem, f1, f2]
  refine (hM _ _).2 ⟨rfl, ?_, ?_, ?_, ?_⟩ <;> simp [go_sem, f1, f2]
 clear f1 f2
 obtain ⟨rfl, f1, f2, f3, f4⟩ := hm
 refine SW.seq ?_
 obtain ⟨c, hc, h⟩ := obind h
 refine SW.regX (fun f_ t_ => f_ 0 = AV.bool (c) ∧ Kept σ0 t_ ∧ σ0.next ≤ t_.next) (fun M hM => ?_) (fun fr4 τ hm => ?_)
 ·rcases Bool.eq_false_or_eq_true ((decide (rx3.2 = 0))) with y0 | y0
  ·have y0' := y0
   try simp at y0'
   have ky0 := condT hc y0
   obtain ⟨q, hq, ky0⟩ := obind ky0
   rcases Bool.eq_false_or_eq_true q with y2 | y2
   ·have y2' := y2
    try simp [y0'] at y2'
    have ky2 := condT ky0 y2
    all_goals
     rcases Bool.eq_false_or_eq_true ((decide (rx6.2 = 0))) with y4 | y4
     ·have y4' := y4
      try simp [y0', y2'] at y4'
      have ky4 := condT ky2 y4
      all_goals
       have ec := Option.some.inj ky4
       simp [go_sem, f1, f2, f3, f4, y0, y0', y2, y2', y4, y4']
       refine EWcall_frz (w_ref21_SameMatches rx3.1 ([(⟨(⟨([2, 1] : List Int), ([] : List Int)⟩ : Morph), ([5, 10] : List Int)⟩ : GMatch)] : List GMatch) _ hq) rfl (frzL_c ((DataA.imm (DataL.flatMap gd_GMatchC rx3.1)) _ _) (frzL_c (frz_arrL (cs := [AV.arr σ0.next 0 2 1, AV.nils, AV.arr (σ0.next + 1) 0 2 1]) (Nat.zero_le _) (by first | (simp [go_sem, f1, f2, f3, f4, y0, y0', y2, y2', y4, y4']; done) | (simp [go_sem, f1, f2, f3, f4, y0, y0', y2, y2', y4, y4']; rfl)) (frzL_c (frz_arrL (cs := [AV.int (2), AV.int (1)]) (Nat.zero_le _) (by first | (simp [go_sem, f1, f2, f3, f4, y0, y0', y2, y2', y4, y4']; done) | (simp [go_sem, f1, f2, f3, f4, y0, y0', y2, y2', y4, y4']; rfl)) (frzL_c (.lit _) (frzL_c (.lit _) (frzL_n)))) (frzL_c (.nils) (frzL_c (frz_arrL (cs := [AV.int (5), AV.int (10)]) (Nat.zero_le _) (by first | (simp [go_sem, f1, f2, f3, f4, y0, y0', y2, y2', y4, y4']; done) | (simp [go_sem, f1, f2, f3, f4, y0, y0', y2, y2', y4, y4']; rfl)) (frzL_c (.lit _) (frzL_c (.lit _) (frzL_n)))) (frzL_n))))) (frzL_n))) ?_
       simp [go_sem, f1, f2, f3, f4, y0, y0', y2, y2', y4, y4']
       refine (hM _ _).2 ⟨?_, by intro j hj; simp [go_sem, show ¬ j = σ0.next by omega, show ¬ j = σ0.next + 1 by omega, show ¬ j = σ0.next + 2 by omega], by first | omega | (simp [go_sem]; done) | (simp [go_sem]; omega)⟩ <;> simp [go_sem, f1, f2, f3, f4, y0, y0', y2, y2', y4, y4', ← ec]
     ·have y4' := y4
      try simp [y0', y2'] at y4'
      have ky4 := condF ky2 y4
      all_goals
       have ec := Option.some.inj ky4
       simp [go_sem, f1, f2, f3, f4, y0, y0', y2, y2', y4, y4']
       refine EWcall_frz (w_ref21_SameMatches rx3.1 ([(⟨(⟨([2, 1] : List Int), ([] : List Int)⟩ : Morph), ([5, 10] : List Int)⟩ : GMatch)] : List GMatch) _ hq) rfl (frzL_c ((DataA.imm (DataL.flatMap gd_GMatchC rx3.1)) _ _) (frzL_c (frz_arrL (cs := [AV.arr σ0.next 0 2 1, AV.nils, AV.arr (σ0.next + 1) 0 2 1]) (Nat.zero_le _) (by first | (simp [go_sem, f1, f2, f3, f4, y0, y0', y2, y2', y4, y4']; done) | (simp [go_sem, f1, f2, f3, f4, y0, y0', y2, y2', y4, y4']; rfl)) (frzL_c (frz_arrL (cs := [AV.int (2), AV.int (1)]) (Nat.zero_le _) (by first | (simp [go_sem, f1, f2, f3, f4, y0, y0', y2, y2', y4, y4']; done) | (simp [go_sem, f1, f2, f3, f4, y0, y0', y2, y2', y4, y4']; rfl)) (frzL_c (.lit _) (frzL_c (.lit _) (frzL_n)))) (frzL_c (.nils) (frzL_c (frz_arrL (cs := [AV.int (5), AV.int (10)]) (Nat.zero_le _) (by first | (simp [go_sem, f1, f2, f3, f4, y0, y0', y2, y2', y4, y4']; done) | (simp [go_sem, f1, f2, f3, f4, y0, y0', y2, y2', y4, y4']; rfl)) (frzL_c (.lit _) (frzL_c (.lit _) (frzL_n)))) (frzL_n))))) (frzL_n))) ?_
       simp [go_sem, f1, f2, f3, f4, y0, y0', y2, y2', y4, y4']
       refine (hM _ _).2 ⟨?_, by intro j hj; simp [go_sem, show ¬ j = σ0.next by omega, show ¬ j = σ0.next + 1 by omega, show ¬ j = σ0.next + 2 by omega], by first | omega | (simp [go_sem]; done) | (simp [go_sem]; omega)⟩ <;> simp [go_sem, f1, f2, f3, f4, y0, y0', y2, y2', y4, y4', ← ec]
   ·have y2' := y2
    try simp [y0'] at y2'
    have ky2 := condF ky0 y2
    all_goals
     have ec := Option.some.inj ky2
     simp [go_sem, f1, f2, f3, f4, y0, y0', y2, y2']
     refine EWcall_frz (w_ref21_SameMatches rx3.1 ([(⟨(⟨([2, 1] : List Int), ([] : List Int)⟩ : Morph), ([5, 10] : List Int)⟩ : GMatch)] : List GMatch) _ hq) rfl (frzL_c ((DataA.imm (DataL.flatMap gd_GMatchC rx3.1)) _ _) (frzL_c (frz_arrL (cs := [AV.arr σ0.next 0 2 1, AV.nils, AV.arr (σ0.next + 1) 0 2 1]) (Nat.zero_le _) (by first | (simp [go_sem, f1, f2, f3, f4, y0, y0', y2, y2']; done) | (simp [go_sem, f1, f2, f3, f4, y0, y0', y2, y2']; rfl)) (frzL_c (frz_arrL (cs := [AV.int (2), AV.int (1)]) (Nat.zero_le _) (by first | (simp [go_sem, f1, f2, f3, f4, y0, y0', y2, y2']; done) | (simp [go_sem, f1, f2, f3, f4, y0, y0', y2, y2']; rfl)) (frzL_c (.lit _) (frzL_c (.lit _) (frzL_n)))) (frzL_c (.nils) (frzL_c (frz_arrL (cs := [AV.int (5), AV.int (10)]) (Nat.zero_le _) (by first | (simp [go_sem, f1, f2, f3, f4, y0, y0', y2, y2']; done) | (simp [go_sem, f1, f2, f3, f4, y0, y0', y2, y2']; rfl)) (frzL_c (.lit _) (frzL_c (.lit _) (frzL_n)))) (frzL_n))))) (frzL_n))) ?_
     simp [go_sem, f1, f2, f3, f4, y0, y0', y2, y2']
     refine (hM _ _).2 ⟨?_, by intro j hj; simp [go_sem, show ¬ j = σ0.next by omega, show ¬ j = σ0.next + 1 by omega, show ¬ j = σ0.next + 2 by omega], by first | omega | (simp [go_sem]; done) | (simp [go_sem]; omega)⟩ <;> simp [go_sem, f1, f2, f3, f4, y0, y0', y2, y2', ← ec]
  ·have y0' := y0
   try simp at y0'
   have ky0 := condF hc y0
   have ec := Option.some.inj ky0
   simp [go_sem, f1, f2, f3, f4, y0, y0']
   refine (hM _ _).2 ⟨?_, by intro j hj; simp [go_sem], by first | omega | (simp [go_sem]; done) | (simp [go_sem]; omega)⟩ <;> simp [go_sem, f1, f2, f3, f4, y0, y0', ← ec]
 clear f1 f2 f3 f4
 obtain ⟨f0, hK, hN⟩ := hm
 obtain rfl := Option.some.inj h
 exact SW.ret ⟨AV.bool (c), by simp [go_sem, f0], .lit _, hK.keeps⟩
set_option maxHeartbeats 4000000 in
theorem w_attribute_Term (x : GTerm) (values : List Int) (r : (Int × Int)) (h : s_attribute_Term x values = some r) : PureA Tryz.prog 10 [AV.agg [AV.int (x.var), AV.int (x.add)], intsA (values)] (AV.tup [AV.int (r.1), AV.int (r.2)]) := by
 refine pureA_of_SW (N := 16) Tryz.func10 (by kernel_rfl) rfl (by rw [Tryz.ntmps10]; rfl) (fun σ0 => ?_)
 rw [Tryz.results10]
 obtain ⟨fr0, hfr⟩ : ∃ fr, fr = initFr [AV.agg [AV.int (x.var), AV.int (x.add)], intsA (values)] := ⟨_, rfl⟩
 rw [← hfr]
 have f0 : fr0 0 = AV.agg [AV.int (x.var), AV.int (x.add)] := by rw [hfr]; rfl
 have f1 : fr0 1 = intsA (values) := by rw [hfr]; rfl
 clear hfr
 simp only [s_attribute_Term] at h
 refine SW.seq ?_
 refine SW.regX (fun f_ t_ => ∃ b2 : Nat, f_ 1 = intsA (values) ∧ f_ 2 = AV.ptr b2 0 ∧ Kept σ0 t_ ∧ σ0.next ≤ t_.next ∧ t_.get b2 = some [AV.int (x.var), AV.int (x.add)] ∧ b2 < t_.next ∧ σ0.next ≤ b2) (fun M hM => ?_) (fun fr1 τ hm => ?_)
 ·simp [go_sem, f0, f1]
  refine (hM _ _).2 ⟨σ0.next, ?_, ?_, by intro j hj; simp [go_sem, show ¬ j = σ0.next by omega], by first | omega | (simp [go_sem]; done) | (simp [go_sem]; omega), by simp (disch := omega) [get_alloc_ne, get_set_ne, get_kill_ne, go_sem, f0, f1], by first | omega | (simp [go_sem]; done) | (simp [go_sem]; omega), by omega⟩ <;> simp [go_sem, f0, f1]
 clear f0 f1
 obtain ⟨b2, f1, f2, hK, hN, gb2, ub2, wb2⟩ := hm
 refine SW.seq ?_
 refine SW.seq ?_
 obtain ⟨q, hq, h⟩ := obind h
 refine SW.regX (fun f_ t_ => τ = t_ ∧ f_ 1 = intsA (values) ∧ f_ 2 = AV.ptr b2 0 ∧ f_ 12 = AV.bool ((!q))) (fun M hM => ?_) (fun fr2 τz hm => ?_)
 ·simp [go_sem, f1, f2, gb2]
  refine EWcall_pure (w_attribute_within x.var (-1) (IntKind.i64.wrap (((values.length : Nat) : Int) - 1)) _ hq) ?_
  simp [go_sem, f1, f2, gb2]
  refine (hM _ _).2 ⟨rfl, ?_, ?_, ?_⟩ <;> simp [go_sem, f1, f2, gb2]
 clear f1 f2
 obtain ⟨rfl, f1, f2, f12⟩ := hm
 refine SW.cond _ f12 (fun vh => ?_) (fun vh => ?_)
 ·have h := condT h vh
  refine SW.seq ?_
  refine SW.regX (fun f_ t_ => τ = t_ ∧ f_ 4 = AV.int (0) ∧ f_ 5 = AV.int (6)) (fun M hM => ?_) (fun fr3 τz1 hm => ?_)
  ·simp [go_sem, f1, f12, f2, gb2]
   refine (hM _ _).2 ⟨rfl, ?_, ?_⟩ <;> simp [go_sem, f1, f12, f2, gb2]
  clear f1 f12 f2
  obtain ⟨rfl, f4, f5⟩ := hm
  obtain rfl := Option.some.inj h
  exact SW.ret ⟨AV.tup [AV.int (0), AV.int (6)], by simp [go_sem, f4, f5], frz_tupL (frzL_c (.lit _) (frzL_c (.lit _) (frzL_n))), hK.keeps⟩
 have h := condF h vh
 refine SW.skip ?_
 refine SW.seq ?_
 obtain ⟨n, hn, h⟩ := obind h
 refine SW.regX (fun f_ t_ => τ = t_ ∧ f_ 4 = AV.int (n) ∧ f_ 5 = AV.int (0)) (fun M hM => ?_) (fun fr4 τz2 hm => ?_)
 ·simp [go_sem, f1, f12, f2, gb2]
  refine EWcall_pure (w_attribute_value x values _ hn) ?_
  simp [go_sem, f1, f12, f2, gb2]
  refine (hM _ _).2 ⟨rfl, ?_, ?_⟩ <;> simp [go_sem, f1, f12, f2, gb2]
 clear f1 f12 f2
 obtain ⟨rfl, f4, f5⟩ := hm
 obtain rfl := Option.some.inj h
 exact SW.ret ⟨AV.tup [AV.int (n), AV.int (0)], by simp [go_sem, f4, f5], frz_tupL (frzL_c (.lit _) (frzL_c (.lit _) (frzL_n))), hK.keeps⟩
set_option maxHeartbeats 4000000 in
theorem w_ref21_value (x : GTerm) (values : List Int) (r : (Int)) (h : s_ref21_value x values = some r) : PureA Tryz.prog 42 [AV.agg [AV.int (x.var), AV.int (x.add)], intsA (values)] (AV.int (r)) := by
 refine pureA_of_SW (N := 18) Tryz.func42 (by kernel_rfl) rfl (by rw [Tryz.ntmps42]; rfl) (fun σ0 => ?_)
 rw [Tryz.results42]
 obtain ⟨fr0, hfr⟩ : ∃ fr, fr = initFr [AV.agg [AV.int (x.var), AV.int (x.add)], intsA (values)] := ⟨_, rfl⟩
 rw [← hfr]
 have f0 : fr0 0 = AV.agg [AV.int (x.var), AV.int (x.add)] := by rw [hfr]; rfl
 have f1 : fr0 1 = intsA (values) := by rw [hfr]; rfl
 clear hfr
 simp only [s_ref21_value] at h
 refine SW.seq ?_
 refine SW.regX (fun f_ t_ => ∃ b2 : Nat, f_ 1 = intsA (values) ∧ f_ 2 = AV.ptr b2 0 ∧ Kept σ0 t_ ∧ σ0.next ≤ t_.next ∧ t_.get b2 = some [AV.int (x.var), AV.int (x.add)] ∧ b2 < t_.next ∧ σ0.next ≤ b2) (fun M hM => ?_) (fun fr1 τ hm => ?_)
 ·simp [go_sem, f0, f1]
  refine (hM _ _).2 ⟨σ0.next, ?_, ?_, by intro j hj; simp [go_sem, show ¬ j = σ0.next by omega], by first | omega | (simp [go_sem]; done) | (simp [go_sem]; omega), by simp (disch := omega) [get_alloc_ne, get_set_ne, get_kill_ne, go_sem, f0, f1], by first | omega | (simp [go_sem]; done) | (simp [go_sem]; omega), by omega⟩ <;> simp [go_sem, f0, f1]
 clear f0 f1
 obtain ⟨b2, f1, f2, hK, hN, gb2, ub2, wb2⟩ := hm
 refine SW.seq ?_
 refine SW.seq ?_
 refine SW.regX (fun f_ t_ => τ = t_ ∧ f_ 1 = intsA (values) ∧ f_ 2 = AV.ptr b2 0 ∧ f_ 7 = AV.bool ((decide (x.var < 0)))) (fun M hM => ?_) (fun fr2 τz hm => ?_)
 ·simp [go_sem, f1, f2, gb2]
  refine (hM _ _).2 ⟨rfl, ?_, ?_, ?_⟩ <;> simp [go_sem, f1, f2, gb2]
 clear f1 f2
 obtain ⟨rfl, f1, f2, f7⟩ := hm
 refine SW.cond _ f7 (fun vh => ?_) (fun vh => ?_)
 ·have h := condT h vh
  refine SW.seq ?_
  refine SW.regX (fun f_ t_ => τ = t_ ∧ f_ 4 = AV.int (x.add)) (fun M hM => ?_) (fun fr3 τz1 hm => ?_)
  ·simp [go_sem, f1, f2, f7, gb2]
   refine (hM _ _).2 ⟨rfl, ?_⟩ <;> simp [go_sem, f1, f2, f7, gb2]
  clear f1 f2 f7
  obtain ⟨rfl, f4⟩ := hm
  obtain rfl := Option.some.inj h
  exact SW.ret ⟨AV.int (x.add), by simp [go_sem, f4], .lit _, hK.keeps⟩
 have h := condF h vh
 refine SW.skip ?_
 refine SW.seq ?_
 obtain ⟨n, hn, h⟩ := obind h
 have xpn := getI_pos hn
 have xln := getI_lt hn
 have xin := getI_N hn
 have xdn := getN_map AV.int xin
 refine SW.regX (fun f_ t_ => τ = t_ ∧ f_ 4 = AV.int ((IntKind.i64.wrap (n + x.add)))) (fun M hM => ?_) (fun fr4 τz2 hm => ?_)
 ·refine EW_regionD (by kernel_rfl) (by kernel_rfl) ?_
  simp [go_sem, f1, f2, f7, gb2, xpn, xln, xdn]
  refine (hM _ _).2 ⟨rfl, ?_⟩ <;> simp [go_sem, f1, f2, f7, gb2, xpn, xln, xdn]
 clear f1 f2 f7
 obtain ⟨rfl, f4⟩ := hm
 obtain rfl := Option.some.inj h
 exact SW.ret ⟨AV.int ((IntKind.i64.wrap (n + x.add))), by simp [go_sem, f4], .lit _, hK.keeps⟩
end Go.Proofs.YtippinddoldhkaaGreat
