/-
  Plain functions and the walks that lead to them, by a program of ours (gen.py): cmp.Compare_int_, cmp.isNaN_uint64_, cmp.Compare_uint64_, cmp.Or_int_, scarfjoint/difference.Holds.
-/
import Derived.Test.YtippinddoldhkaaGreatGd
import Derived.Test.YtippinddoldhkaaGreatGT
import Derived.Test.YtippinddoldhkaaGreatB3
import Derived.Test.YtippinddoldhkaaGreatB7
import Derived.Test.YtippinddoldhkaaGreatGS
import Derived.Test.YtippinddoldhkaaGreatLg
import Derived.Test.YtippinddoldhkaaGreatGa7
set_option linter.unusedSimpArgs false
set_option linter.unusedVariables false
namespace Go.Proofs.YtippinddoldhkaaGreat
open Go Go.Ew Go.Proofs Go.RowKit
set_option maxRecDepth 100000
set_option maxHeartbeats 4000000 in
theorem w_cmp_Compare_int (x : Int) (y : Int) (r : (Int)) (h : s_cmp_Compare_int x y = some r) : PureA Tryz.prog 166 [AV.int (x), AV.int (y)] (AV.int (r)) := by
 refine pureA_of_SW (N := 20) Tryz.func166 (by kernel_rfl) rfl (by rw [Tryz.ntmps166]; rfl) (fun σ0 => ?_)
 rw [Tryz.results166]
 obtain ⟨fr0, hfr⟩ : ∃ fr, fr = initFr [AV.int (x), AV.int (y)] := ⟨_, rfl⟩
 rw [← hfr]
 have f0 : fr0 0 = AV.int (x) := by rw [hfr]; rfl
 have f1 : fr0 1 = AV.int (y) := by rw [hfr]; rfl
 clear hfr
 simp only [s_cmp_Compare_int] at h
 refine SW.seq ?_
 refine SW.regX (fun f_ t_ => σ0 = t_ ∧ f_ 0 = AV.int (x) ∧ f_ 1 = AV.int (y)) (fun M hM => ?_) (fun fr1 τz hm => ?_)
 ·simp [go_sem, f0, f1]
  refine (hM _ _).2 ⟨rfl, ?_, ?_⟩ <;> simp [go_sem, f0, f1]
 clear f0 f1
 obtain ⟨rfl, f0, f1⟩ := hm
 refine SW.seq ?_
 obtain ⟨q, hq, h⟩ := obind h
 refine SW.regX (fun f_ t_ => σ0 = t_ ∧ f_ 0 = AV.int (x) ∧ f_ 1 = AV.int (y) ∧ f_ 5 = AV.bool (q)) (fun M hM => ?_) (fun fr2 τz1 hm => ?_)
 ·simp [go_sem, f0, f1]
  refine EWcall_pure (w_cmp_isNaN_int x _ hq) ?_
  simp [go_sem, f0, f1]
  refine (hM _ _).2 ⟨rfl, ?_, ?_, ?_⟩ <;> simp [go_sem, f0, f1]
 clear f0 f1
 obtain ⟨rfl, f0, f1, f5⟩ := hm
 refine SW.seq ?_
 obtain ⟨q1, hq1, h⟩ := obind h
 refine SW.regX (fun f_ t_ => σ0 = t_ ∧ f_ 0 = AV.int (x) ∧ f_ 1 = AV.int (y) ∧ f_ 5 = AV.bool (q) ∧ f_ 6 = AV.bool (q1)) (fun M hM => ?_) (fun fr3 τz2 hm => ?_)
 ·simp [go_sem, f0, f1, f5]
  refine EWcall_pure (w_cmp_isNaN_int y _ hq1) ?_
  simp [go_sem, f0, f1, f5]
  refine (hM _ _).2 ⟨rfl, ?_, ?_, ?_, ?_⟩ <;> simp [go_sem, f0, f1, f5]
 clear f0 f1 f5
 obtain ⟨rfl, f0, f1, f5, f6⟩ := hm
 refine SW.seq ?_
 refine SW.seq ?_
 refine SW.regX (fun f_ t_ => σ0 = t_ ∧ f_ 0 = AV.int (x) ∧ f_ 1 = AV.int (y) ∧ f_ 6 = AV.bool (q1) ∧ f_ 11 = AV.bool (q)) (fun M hM => ?_) (fun fr4 τz3 hm => ?_)
 ·simp [go_sem, f0, f1, f5, f6]
  refine (hM _ _).2 ⟨rfl, ?_, ?_, ?_, ?_⟩ <;> simp [go_sem, f0, f1, f5, f6]
 clear f0 f1 f5 f6
 obtain ⟨rfl, f0, f1, f6, f11⟩ := hm
 refine SW.cond _ f11 (fun vh => ?_) (fun vh => ?_)
 ·have h := condT h vh
  refine SW.seq ?_
  refine SW.seq ?_
  refine SW.regX (fun f_ t_ => σ0 = t_ ∧ f_ 12 = AV.bool (q1)) (fun M hM => ?_) (fun fr5 τz4 hm => ?_)
  ·simp [go_sem, f0, f1, f11, f6]
   refine (hM _ _).2 ⟨rfl, ?_⟩ <;> simp [go_sem, f0, f1, f11, f6]
  clear f0 f1 f11 f6
  obtain ⟨rfl, f12⟩ := hm
  refine SW.cond _ f12 (fun vh1 => ?_) (fun vh1 => ?_)
  ·have h := condT h vh1
   refine SW.seq ?_
   refine SW.regX (fun f_ t_ => σ0 = t_ ∧ f_ 4 = AV.int (0)) (fun M hM => ?_) (fun fr6 τz5 hm => ?_)
   ·simp [go_sem, f12]
    refine (hM _ _).2 ⟨rfl, ?_⟩ <;> simp [go_sem, f12]
   clear f12
   obtain ⟨rfl, f4⟩ := hm
   obtain rfl := Option.some.inj h
   exact SW.ret ⟨AV.int (0), by simp [go_sem, f4], .lit _, Keeps.refl _⟩
  have h := condF h vh1
  refine SW.skip ?_
  refine SW.seq ?_
  refine SW.regX (fun f_ t_ => σ0 = t_ ∧ f_ 4 = AV.int (-1)) (fun M hM => ?_) (fun fr7 τz6 hm => ?_)
  ·simp [go_sem, f12]
   refine (hM _ _).2 ⟨rfl, ?_⟩ <;> simp [go_sem, f12]
  clear f12
  obtain ⟨rfl, f4⟩ := hm
  obtain rfl := Option.some.inj h
  exact SW.ret ⟨AV.int (-1), by simp [go_sem, f4], .lit _, Keeps.refl _⟩
 have h := condF h vh
 refine SW.skip ?_
 refine SW.seq ?_
 refine SW.seq ?_
 refine SW.regX (fun f_ t_ => σ0 = t_ ∧ f_ 0 = AV.int (x) ∧ f_ 1 = AV.int (y) ∧ f_ 13 = AV.bool (q1)) (fun M hM => ?_) (fun fr8 τz7 hm => ?_)
 ·simp [go_sem, f0, f1, f11, f6]
  refine (hM _ _).2 ⟨rfl, ?_, ?_, ?_⟩ <;> simp [go_sem, f0, f1, f11, f6]
 clear f0 f1 f11 f6
 obtain ⟨rfl, f0, f1, f13⟩ := hm
 refine SW.cond _ f13 (fun vh2 => ?_) (fun vh2 => ?_)
 ·have h := condT h vh2
  refine SW.seq ?_
  refine SW.regX (fun f_ t_ => σ0 = t_ ∧ f_ 4 = AV.int (1)) (fun M hM => ?_) (fun fr9 τz8 hm => ?_)
  ·simp [go_sem, f0, f1, f13]
   refine (hM _ _).2 ⟨rfl, ?_⟩ <;> simp [go_sem, f0, f1, f13]
  clear f0 f1 f13
  obtain ⟨rfl, f4⟩ := hm
  obtain rfl := Option.some.inj h
  exact SW.ret ⟨AV.int (1), by simp [go_sem, f4], .lit _, Keeps.refl _⟩
 have h := condF h vh2
 refine SW.skip ?_
 refine SW.seq ?_
 refine SW.seq ?_
 refine SW.regX (fun f_ t_ => σ0 = t_ ∧ f_ 0 = AV.int (x) ∧ f_ 1 = AV.int (y) ∧ f_ 16 = AV.bool ((decide (x < y)))) (fun M hM => ?_) (fun fr10 τz9 hm => ?_)
 ·simp [go_sem, f0, f1, f13]
  refine (hM _ _).2 ⟨rfl, ?_, ?_, ?_⟩ <;> simp [go_sem, f0, f1, f13]
 clear f0 f1 f13
 obtain ⟨rfl, f0, f1, f16⟩ := hm
 refine SW.cond _ f16 (fun vh3 => ?_) (fun vh3 => ?_)
 ·have h := condT h vh3
  refine SW.seq ?_
  refine SW.regX (fun f_ t_ => σ0 = t_ ∧ f_ 4 = AV.int (-1)) (fun M hM => ?_) (fun fr11 τz10 hm => ?_)
  ·simp [go_sem, f0, f1, f16]
   refine (hM _ _).2 ⟨rfl, ?_⟩ <;> simp [go_sem, f0, f1, f16]
  clear f0 f1 f16
  obtain ⟨rfl, f4⟩ := hm
  obtain rfl := Option.some.inj h
  exact SW.ret ⟨AV.int (-1), by simp [go_sem, f4], .lit _, Keeps.refl _⟩
 have h := condF h vh3
 refine SW.skip ?_
 refine SW.seq ?_
 refine SW.seq ?_
 refine SW.regX (fun f_ t_ => σ0 = t_ ∧ f_ 19 = AV.bool ((decide (y < x)))) (fun M hM => ?_) (fun fr12 τz11 hm => ?_)
 ·simp [go_sem, f0, f1, f16]
  refine (hM _ _).2 ⟨rfl, ?_⟩ <;> simp [go_sem, f0, f1, f16]
 clear f0 f1 f16
 obtain ⟨rfl, f19⟩ := hm
 refine SW.cond _ f19 (fun vh4 => ?_) (fun vh4 => ?_)
 ·have h := condT h vh4
  refine SW.seq ?_
  refine SW.regX (fun f_ t_ => σ0 = t_ ∧ f_ 4 = AV.int (1)) (fun M hM => ?_) (fun fr13 τz12 hm => ?_)
  ·simp [go_sem, f19]
   refine (hM _ _).2 ⟨rfl, ?_⟩ <;> simp [go_sem, f19]
  clear f19
  obtain ⟨rfl, f4⟩ := hm
  obtain rfl := Option.some.inj h
  exact SW.ret ⟨AV.int (1), by simp [go_sem, f4], .lit _, Keeps.refl _⟩
 have h := condF h vh4
 refine SW.skip ?_
 refine SW.seq ?_
 refine SW.regX (fun f_ t_ => σ0 = t_ ∧ f_ 4 = AV.int (0)) (fun M hM => ?_) (fun fr14 τz13 hm => ?_)
 ·simp [go_sem, f19]
  refine (hM _ _).2 ⟨rfl, ?_⟩ <;> simp [go_sem, f19]
 clear f19
 obtain ⟨rfl, f4⟩ := hm
 obtain rfl := Option.some.inj h
 exact SW.ret ⟨AV.int (0), by simp [go_sem, f4], .lit _, Keeps.refl _⟩
set_option maxHeartbeats 4000000 in
theorem w_cmp_isNaN_uint64 (x : Int) (r : (Bool)) (h : s_cmp_isNaN_uint64 x = some r) : PureA Tryz.prog 190 [AV.lit (.int .u64 (x))] (AV.bool (r)) := by
 refine pureA_of_SW (N := 6) Tryz.func190 (by kernel_rfl) rfl (by rw [Tryz.ntmps190]; rfl) (fun σ0 => ?_)
 rw [Tryz.results190]
 obtain ⟨fr0, hfr⟩ : ∃ fr, fr = initFr [AV.lit (.int .u64 (x))] := ⟨_, rfl⟩
 rw [← hfr]
 have f0 : fr0 0 = AV.lit (.int .u64 (x)) := by rw [hfr]; rfl
 clear hfr
 simp only [s_cmp_isNaN_uint64] at h
 refine SW.seq ?_
 refine SW.regX (fun f_ t_ => σ0 = t_ ∧ f_ 0 = AV.lit (.int .u64 (x))) (fun M hM => ?_) (fun fr1 τz hm => ?_)
 ·simp [go_sem, f0]
  refine (hM _ _).2 ⟨rfl, ?_⟩ <;> simp [go_sem, f0]
 clear f0
 obtain ⟨rfl, f0⟩ := hm
 refine SW.seq ?_
 refine SW.regX (fun f_ t_ => σ0 = t_ ∧ f_ 2 = AV.bool (false)) (fun M hM => ?_) (fun fr2 τz1 hm => ?_)
 ·simp [go_sem, f0]
  refine (hM _ _).2 ⟨rfl, ?_⟩ <;> simp [go_sem, f0]
 clear f0
 obtain ⟨rfl, f2⟩ := hm
 obtain rfl := Option.some.inj h
 exact SW.ret ⟨AV.bool (false), by simp [go_sem, f2], .lit _, Keeps.refl _⟩
set_option maxHeartbeats 4000000 in
theorem w_cmp_Compare_uint64 (x : Int) (y : Int) (r : (Int)) (h : s_cmp_Compare_uint64 x y = some r) : PureA Tryz.prog 167 [AV.lit (.int .u64 (x)), AV.lit (.int .u64 (y))] (AV.int (r)) := by
 refine pureA_of_SW (N := 20) Tryz.func167 (by kernel_rfl) rfl (by rw [Tryz.ntmps167]; rfl) (fun σ0 => ?_)
 rw [Tryz.results167]
 obtain ⟨fr0, hfr⟩ : ∃ fr, fr = initFr [AV.lit (.int .u64 (x)), AV.lit (.int .u64 (y))] := ⟨_, rfl⟩
 rw [← hfr]
 have f0 : fr0 0 = AV.lit (.int .u64 (x)) := by rw [hfr]; rfl
 have f1 : fr0 1 = AV.lit (.int .u64 (y)) := by rw [hfr]; rfl
 clear hfr
 simp only [s_cmp_Compare_uint64] at h
 refine SW.seq ?_
 refine SW.regX (fun f_ t_ => σ0 = t_ ∧ f_ 0 = AV.lit (.int .u64 (x)) ∧ f_ 1 = AV.lit (.int .u64 (y))) (fun M hM => ?_) (fun fr1 τz hm => ?_)
 ·simp [go_sem, f0, f1]
  refine (hM _ _).2 ⟨rfl, ?_, ?_⟩ <;> simp [go_sem, f0, f1]
 clear f0 f1
 obtain ⟨rfl, f0, f1⟩ := hm
 refine SW.seq ?_
 obtain ⟨q, hq, h⟩ := obind h
 refine SW.regX (fun f_ t_ => σ0 = t_ ∧ f_ 0 = AV.lit (.int .u64 (x)) ∧ f_ 1 = AV.lit (.int .u64 (y)) ∧ f_ 5 = AV.bool (q)) (fun M hM => ?_) (fun fr2 τz1 hm => ?_)
 ·simp [go_sem, f0, f1]
  refine EWcall_pure (w_cmp_isNaN_uint64 x _ hq) ?_
  simp [go_sem, f0, f1]
  refine (hM _ _).2 ⟨rfl, ?_, ?_, ?_⟩ <;> simp [go_sem, f0, f1]
 clear f0 f1
 obtain ⟨rfl, f0, f1, f5⟩ := hm
 refine SW.seq ?_
 obtain ⟨q1, hq1, h⟩ := obind h
 refine SW.regX (fun f_ t_ => σ0 = t_ ∧ f_ 0 = AV.lit (.int .u64 (x)) ∧ f_ 1 = AV.lit (.int .u64 (y)) ∧ f_ 5 = AV.bool (q) ∧ f_ 6 = AV.bool (q1)) (fun M hM => ?_) (fun fr3 τz2 hm => ?_)
 ·simp [go_sem, f0, f1, f5]
  refine EWcall_pure (w_cmp_isNaN_uint64 y _ hq1) ?_
  simp [go_sem, f0, f1, f5]
  refine (hM _ _).2 ⟨rfl, ?_, ?_, ?_, ?_⟩ <;> simp [go_sem, f0, f1, f5]
 clear f0 f1 f5
 obtain ⟨rfl, f0, f1, f5, f6⟩ := hm
 refine SW.seq ?_
 refine SW.seq ?_
 refine SW.regX (fun f_ t_ => σ0 = t_ ∧ f_ 0 = AV.lit (.int .u64 (x)) ∧ f_ 1 = AV.lit (.int .u64 (y)) ∧ f_ 6 = AV.bool (q1) ∧ f_ 11 = AV.bool (q)) (fun M hM => ?_) (fun fr4 τz3 hm => ?_)
 ·simp [go_sem, f0, f1, f5, f6]
  refine (hM _ _).2 ⟨rfl, ?_, ?_, ?_, ?_⟩ <;> simp [go_sem, f0, f1, f5, f6]
 clear f0 f1 f5 f6
 obtain ⟨rfl, f0, f1, f6, f11⟩ := hm
 refine SW.cond _ f11 (fun vh => ?_) (fun vh => ?_)
 ·have h := condT h vh
  refine SW.seq ?_
  refine SW.seq ?_
  refine SW.regX (fun f_ t_ => σ0 = t_ ∧ f_ 12 = AV.bool (q1)) (fun M hM => ?_) (fun fr5 τz4 hm => ?_)
  ·simp [go_sem, f0, f1, f11, f6]
   refine (hM _ _).2 ⟨rfl, ?_⟩ <;> simp [go_sem, f0, f1, f11, f6]
  clear f0 f1 f11 f6
  obtain ⟨rfl, f12⟩ := hm
  refine SW.cond _ f12 (fun vh1 => ?_) (fun vh1 => ?_)
  ·have h := condT h vh1
   refine SW.seq ?_
   refine SW.regX (fun f_ t_ => σ0 = t_ ∧ f_ 4 = AV.int (0)) (fun M hM => ?_) (fun fr6 τz5 hm => ?_)
   ·simp [go_sem, f12]
    refine (hM _ _).2 ⟨rfl, ?_⟩ <;> simp [go_sem, f12]
   clear f12
   obtain ⟨rfl, f4⟩ := hm
   obtain rfl := Option.some.inj h
   exact SW.ret ⟨AV.int (0), by simp [go_sem, f4], .lit _, Keeps.refl _⟩
  have h := condF h vh1
  refine SW.skip ?_
  refine SW.seq ?_
  refine SW.regX (fun f_ t_ => σ0 = t_ ∧ f_ 4 = AV.int (-1)) (fun M hM => ?_) (fun fr7 τz6 hm => ?_)
  ·simp [go_sem, f12]
   refine (hM _ _).2 ⟨rfl, ?_⟩ <;> simp [go_sem, f12]
  clear f12
  obtain ⟨rfl, f4⟩ := hm
  obtain rfl := Option.some.inj h
  exact SW.ret ⟨AV.int (-1), by simp [go_sem, f4], .lit _, Keeps.refl _⟩
 have h := condF h vh
 refine SW.skip ?_
 refine SW.seq ?_
 refine SW.seq ?_
 refine SW.regX (fun f_ t_ => σ0 = t_ ∧ f_ 0 = AV.lit (.int .u64 (x)) ∧ f_ 1 = AV.lit (.int .u64 (y)) ∧ f_ 13 = AV.bool (q1)) (fun M hM => ?_) (fun fr8 τz7 hm => ?_)
 ·simp [go_sem, f0, f1, f11, f6]
  refine (hM _ _).2 ⟨rfl, ?_, ?_, ?_⟩ <;> simp [go_sem, f0, f1, f11, f6]
 clear f0 f1 f11 f6
 obtain ⟨rfl, f0, f1, f13⟩ := hm
 refine SW.cond _ f13 (fun vh2 => ?_) (fun vh2 => ?_)
 ·have h := condT h vh2
  refine SW.seq ?_
  refine SW.regX (fun f_ t_ => σ0 = t_ ∧ f_ 4 = AV.int (1)) (fun M hM => ?_) (fun fr9 τz8 hm => ?_)
  ·simp [go_sem, f0, f1, f13]
   refine (hM _ _).2 ⟨rfl, ?_⟩ <;> simp [go_sem, f0, f1, f13]
  clear f0 f1 f13
  obtain ⟨rfl, f4⟩ := hm
  obtain rfl := Option.some.inj h
  exact SW.ret ⟨AV.int (1), by simp [go_sem, f4], .lit _, Keeps.refl _⟩
 have h := condF h vh2
 refine SW.skip ?_
 refine SW.seq ?_
 refine SW.seq ?_
 refine SW.regX (fun f_ t_ => σ0 = t_ ∧ f_ 0 = AV.lit (.int .u64 (x)) ∧ f_ 1 = AV.lit (.int .u64 (y)) ∧ f_ 16 = AV.bool ((decide (x < y)))) (fun M hM => ?_) (fun fr10 τz9 hm => ?_)
 ·simp [go_sem, f0, f1, f13]
  refine (hM _ _).2 ⟨rfl, ?_, ?_, ?_⟩ <;> simp [go_sem, f0, f1, f13]
 clear f0 f1 f13
 obtain ⟨rfl, f0, f1, f16⟩ := hm
 refine SW.cond _ f16 (fun vh3 => ?_) (fun vh3 => ?_)
 ·have h := condT h vh3
  refine SW.seq ?_
  refine SW.regX (fun f_ t_ => σ0 = t_ ∧ f_ 4 = AV.int (-1)) (fun M hM => ?_) (fun fr11 τz10 hm => ?_)
  ·simp [go_sem, f0, f1, f16]
   refine (hM _ _).2 ⟨rfl, ?_⟩ <;> simp [go_sem, f0, f1, f16]
  clear f0 f1 f16
  obtain ⟨rfl, f4⟩ := hm
  obtain rfl := Option.some.inj h
  exact SW.ret ⟨AV.int (-1), by simp [go_sem, f4], .lit _, Keeps.refl _⟩
 have h := condF h vh3
 refine SW.skip ?_
 refine SW.seq ?_
 refine SW.seq ?_
 refine SW.regX (fun f_ t_ => σ0 = t_ ∧ f_ 19 = AV.bool ((decide (y < x)))) (fun M hM => ?_) (fun fr12 τz11 hm => ?_)
 ·simp [go_sem, f0, f1, f16]
  refine (hM _ _).2 ⟨rfl, ?_⟩ <;> simp [go_sem, f0, f1, f16]
 clear f0 f1 f16
 obtain ⟨rfl, f19⟩ := hm
 refine SW.cond _ f19 (fun vh4 => ?_) (fun vh4 => ?_)
 ·have h := condT h vh4
  refine SW.seq ?_
  refine SW.regX (fun f_ t_ => σ0 = t_ ∧ f_ 4 = AV.int (1)) (fun M hM => ?_) (fun fr13 τz12 hm => ?_)
  ·simp [go_sem, f19]
   refine (hM _ _).2 ⟨rfl, ?_⟩ <;> simp [go_sem, f19]
  clear f19
  obtain ⟨rfl, f4⟩ := hm
  obtain rfl := Option.some.inj h
  exact SW.ret ⟨AV.int (1), by simp [go_sem, f4], .lit _, Keeps.refl _⟩
 have h := condF h vh4
 refine SW.skip ?_
 refine SW.seq ?_
 refine SW.regX (fun f_ t_ => σ0 = t_ ∧ f_ 4 = AV.int (0)) (fun M hM => ?_) (fun fr14 τz13 hm => ?_)
 ·simp [go_sem, f19]
  refine (hM _ _).2 ⟨rfl, ?_⟩ <;> simp [go_sem, f19]
 clear f19
 obtain ⟨rfl, f4⟩ := hm
 obtain rfl := Option.some.inj h
 exact SW.ret ⟨AV.int (0), by simp [go_sem, f4], .lit _, Keeps.refl _⟩
set_option maxHeartbeats 4000000 in
theorem w_cmp_Or_int (vals : List Int) (r : (Int)) (h : s_cmp_Or_int vals = some r) : PureA Tryz.prog 165 [intsA (vals)] (AV.int (r)) := by
 refine pureA_of_SW (N := 18) Tryz.func165 (by kernel_rfl) rfl (by rw [Tryz.ntmps165]; rfl) (fun σ0 => ?_)
 rw [Tryz.results165]
 obtain ⟨fr0, hfr⟩ : ∃ fr, fr = initFr [intsA (vals)] := ⟨_, rfl⟩
 rw [← hfr]
 have f0 : fr0 0 = intsA (vals) := by rw [hfr]; rfl
 clear hfr
 simp only [s_cmp_Or_int] at h
 refine SW.seq ?_
 refine SW.regX (fun f_ t_ => σ0 = t_ ∧ f_ 0 = intsA (vals)) (fun M hM => ?_) (fun fr1 τz hm => ?_)
 ·simp [go_sem, f0]
  refine (hM _ _).2 ⟨rfl, ?_⟩ <;> simp [go_sem, f0]
 clear f0
 obtain ⟨rfl, f0⟩ := hm
 refine SW.seq ?_
 refine SW.regX (fun f_ t_ => σ0 = t_ ∧ f_ 0 = intsA (vals) ∧ f_ 3 = AV.int (0)) (fun M hM => ?_) (fun fr2 τz1 hm => ?_)
 ·simp [go_sem, f0]
  refine (hM _ _).2 ⟨rfl, ?_, ?_⟩ <;> simp [go_sem, f0]
 clear f0
 obtain ⟨rfl, f0, f3⟩ := hm
 refine SW.seq ?_
 refine SW.seq ?_
 refine SW.regX (fun f_ t_ => σ0 = t_ ∧ f_ 3 = AV.int (0) ∧ f_ 6 = intsA (vals) ∧ f_ 7 = AV.int (((vals.length : Nat) : Int)) ∧ f_ 8 = AV.int (0)) (fun M hM => ?_) (fun fr3 τz2 hm => ?_)
 ·simp [go_sem, f0, f3]
  refine (hM _ _).2 ⟨rfl, ?_, ?_, ?_, ?_⟩ <;> simp [go_sem, f0, f3]
 clear f0 f3
 obtain ⟨rfl, f3, f6, f7, f8⟩ := hm
 obtain ⟨oi, hruni, hoi⟩ := obind h
 refine SW.len 6 f6 (fun hbigi => ?_)
 obtain ⟨KLi, hKLi⟩ : ∃ KL : Fr → Mem → Prop, ∀ fr' τ', KL fr' τ' ↔ (oi = .done () ∧ σ0 = τ' ∧ fr' 3 = AV.int (0)) := ⟨_, fun _ _ => Iff.rfl⟩
 refine SW.cut KLi ?_ ?_
 ·refine SW.block ?_
  obtain ⟨Ji, hJi⟩ : ∃ J : Nat → Fr → Mem → Prop, ∀ m_ fr' τ', J m_ fr' τ' ↔ (∃ k : Nat, m_ = vals.length - k ∧ forN (b1_cmp_Or_int vals) (vals.length - k) k () = some oi ∧ σ0 = τ' ∧ fr' 3 = AV.int (0) ∧ fr' 6 = intsA (vals) ∧ fr' 7 = AV.int (((vals.length : Nat) : Int)) ∧ fr' 8 = AV.int (((k : Nat) : Int))) := ⟨_, fun _ _ _ => Iff.rfl⟩
  refine SW.loop Ji (vals.length - 0) ((hJi _ _ _).2 ⟨0, rfl, hruni, rfl, f3, f6, f7, f8⟩) ?_
  clear hruni
  intro m_ fr4 τ hm
  rw [hJi] at hm
  clear f3 f6 f7 f8
  obtain ⟨k, rfl, hruni, rfl, f3, f6, f7, f8⟩ := hm
  refine SW.seq ?_
  refine SW.regX (fun f_ t_ => σ0 = t_ ∧ f_ 3 = AV.int (0) ∧ f_ 6 = intsA (vals) ∧ f_ 7 = AV.int (((vals.length : Nat) : Int)) ∧ f_ 8 = AV.int (((k : Nat) : Int)) ∧ f_ 9 = AV.bool ((decide (k < vals.length)))) (fun M hM => ?_) (fun fr5 τz3 hm => ?_)
  ·simp [go_sem, f3, f6, f7, f8]
   refine (hM _ _).2 ⟨rfl, ?_, ?_, ?_, ?_, ?_⟩ <;> simp [go_sem, f3, f6, f7, f8]
  clear f3 f6 f7 f8
  obtain ⟨rfl, f3, f6, f7, f8, f9⟩ := hm
  refine SW.seq ?_
  refine SW.cond _ f9 (fun vh => ?_) (fun vh => ?_)
  rotate_left
  ·have hk : ¬ k < vals.length := by have := of_decide_eq_false vh; omega
   refine SW.exit rfl ?_
   exact SW.goal ((hKLi _ _).2 ⟨forN_end hruni hk, rfl, f3⟩)
  have hkk : k < vals.length := by have := of_decide_eq_true vh; omega
  have hwk : IntKind.i64.wrap ((k : Int) + 1) = ((k + 1 : Nat) : Int) := by rw [wrap64_of _ (by omega) (by omega)]; rfl
  obtain ⟨ci, hbi, hci⟩ := forN_step hruni hkk
  simp only [b1_cmp_Or_int] at hbi
  refine SW.skip ?_
  refine SW.seq ?_
  refine SW.block ?_
  refine SW.seq ?_
  obtain ⟨n, hn, hbi⟩ := obind hbi
  have xln := getN_lt hn
  have xdn := getN_map AV.int hn
  refine SW.regX (fun f_ t_ => σ0 = t_ ∧ f_ 3 = AV.int (0) ∧ f_ 5 = AV.int (n) ∧ f_ 6 = intsA (vals) ∧ f_ 7 = AV.int (((vals.length : Nat) : Int)) ∧ f_ 8 = AV.int (((k : Nat) : Int))) (fun M hM => ?_) (fun fr6 τz4 hm => ?_)
  ·simp [go_sem, f3, f6, f7, f8, f9, xln, xdn]
   refine (hM _ _).2 ⟨rfl, ?_, ?_, ?_, ?_, ?_⟩ <;> simp [go_sem, f3, f6, f7, f8, f9, xln, xdn]
  clear f3 f6 f7 f8 f9
  obtain ⟨rfl, f3, f5, f6, f7, f8⟩ := hm
  refine SW.seq ?_
  refine SW.regX (fun f_ t_ => σ0 = t_ ∧ f_ 3 = AV.int (0) ∧ f_ 5 = AV.int (n) ∧ f_ 6 = intsA (vals) ∧ f_ 7 = AV.int (((vals.length : Nat) : Int)) ∧ f_ 8 = AV.int (((k : Nat) : Int)) ∧ f_ 14 = AV.bool ((!decide (n = 0)))) (fun M hM => ?_) (fun fr7 τz5 hm => ?_)
  ·simp [go_sem, f3, f5, f6, f7, f8]
   refine (hM _ _).2 ⟨rfl, ?_, ?_, ?_, ?_, ?_, ?_⟩ <;> simp [go_sem, f3, f5, f6, f7, f8]
  clear f3 f5 f6 f7 f8
  obtain ⟨rfl, f3, f5, f6, f7, f8, f14⟩ := hm
  refine SW.cond _ f14 (fun vh1 => ?_) (fun vh1 => ?_)
  ·have hbi := condT hbi vh1
   refine SW.seq ?_
   refine SW.regX (fun f_ t_ => σ0 = t_ ∧ f_ 2 = AV.int (n)) (fun M hM => ?_) (fun fr8 τz6 hm => ?_)
   ·simp [go_sem, f14, f3, f5, f6, f7, f8]
    refine (hM _ _).2 ⟨rfl, ?_⟩ <;> simp [go_sem, f14, f3, f5, f6, f7, f8]
   clear f14 f3 f5 f6 f7 f8
   obtain ⟨rfl, f2⟩ := hm
   obtain rfl := Option.some.inj hbi
   obtain rfl := Option.some.inj hci
   obtain rfl := Option.some.inj hoi
   exact SW.ret ⟨AV.int (n), by simp [go_sem, f2], .lit _, Keeps.refl _⟩
  have hbi := condF hbi vh1
  refine SW.skip ?_
  refine SW.blk ?_
  refine SW.regX (fun f_ t_ => σ0 = t_ ∧ f_ 3 = AV.int (0) ∧ f_ 6 = intsA (vals) ∧ f_ 7 = AV.int (((vals.length : Nat) : Int)) ∧ f_ 8 = AV.int (((k + 1 : Nat) : Int))) (fun M hM => ?_) (fun fr9 τz7 hm => ?_)
  ·simp [go_sem, f14, f3, f5, f6, f7, f8, hwk]
   refine (hM _ _).2 ⟨rfl, ?_, ?_, ?_, ?_⟩ <;> simp [go_sem, f14, f3, f5, f6, f7, f8, hwk]
  clear f14 f3 f5 f6 f7 f8
  obtain ⟨rfl, f3, f6, f7, f8⟩ := hm
  obtain rfl := Option.some.inj hbi
  exact SW.goal ⟨vals.length - (k + 1), by omega, (hJi _ _ _).2 ⟨k + 1, rfl, hci, rfl, f3, f6, f7, f8⟩⟩
 intro fr10 τ1 hm
 rw [hKLi] at hm
 clear hKLi hruni
 clear f3 f6 f7 f8
 obtain ⟨rfl, rfl, f3⟩ := hm
 simp only [Out.on] at hoi
 refine SW.seq ?_
 refine SW.regX (fun f_ t_ => σ0 = t_ ∧ f_ 2 = AV.int (0)) (fun M hM => ?_) (fun fr11 τz8 hm => ?_)
 ·simp [go_sem, f3]
  refine (hM _ _).2 ⟨rfl, ?_⟩ <;> simp [go_sem, f3]
 clear f3
 obtain ⟨rfl, f2⟩ := hm
 obtain rfl := Option.some.inj hoi
 exact SW.ret ⟨AV.int (0), by simp [go_sem, f2], .lit _, Keeps.refl _⟩
set_option maxHeartbeats 4000000 in
theorem w_difference_Holds (x : GTest) (values : List Int) (r : (Bool)) (h : s_difference_Holds x values = some r) : PureA Tryz.prog 122 [AV.agg [AV.int (x.kind), AV.int (x.left.var), AV.int (x.left.add), AV.int (x.right.var), AV.int (x.right.add)], intsA (values)] (AV.bool (r)) := by
 refine pureA_of_SW (N := 60) Tryz.func122 (by kernel_rfl) rfl (by rw [Tryz.ntmps122]; rfl) (fun σ0 => ?_)
 rw [Tryz.results122]
 obtain ⟨fr0, hfr⟩ : ∃ fr, fr = initFr [AV.agg [AV.int (x.kind), AV.int (x.left.var), AV.int (x.left.add), AV.int (x.right.var), AV.int (x.right.add)], intsA (values)] := ⟨_, rfl⟩
 rw [← hfr]
 have f0 : fr0 0 = AV.agg [AV.int (x.kind), AV.int (x.left.var), AV.int (x.left.add), AV.int (x.right.var), AV.int (x.right.add)] := by rw [hfr]; rfl
 have f1 : fr0 1 = intsA (values) := by rw [hfr]; rfl
 clear hfr
 simp only [s_difference_Holds] at h
 refine SW.seq ?_
 refine SW.regX (fun f_ t_ => ∃ b2 : Nat, ∃ b3 : Nat, f_ 2 = AV.ptr b2 0 ∧ f_ 3 = AV.ptr b3 0 ∧ Kept σ0 t_ ∧ σ0.next ≤ t_.next ∧ t_.get b2 = some [AV.int (x.kind), AV.int (x.left.var), AV.int (x.left.add), AV.int (x.right.var), AV.int (x.right.add)] ∧ b2 < t_.next ∧ t_.get b3 = some [intsA (values)] ∧ b3 < t_.next ∧ σ0.next ≤ b2 ∧ σ0.next ≤ b3 ∧ ¬ b2 = b3) (fun M hM => ?_) (fun fr1 τ hm => ?_)
 ·simp [go_sem, f0, f1]
  refine (hM _ _).2 ⟨σ0.next, (σ0.next + 1), ?_, ?_, by intro j hj; simp [go_sem, show ¬ j = σ0.next by omega, show ¬ j = σ0.next + 1 by omega], by first | omega | (simp [go_sem]; done) | (simp [go_sem]; omega), by simp (disch := omega) [get_alloc_ne, get_set_ne, get_kill_ne, go_sem, f0, f1], by first | omega | (simp [go_sem]; done) | (simp [go_sem]; omega), by simp (disch := omega) [get_alloc_ne, get_set_ne, get_kill_ne, go_sem, f0, f1], by first | omega | (simp [go_sem]; done) | (simp [go_sem]; omega), by omega, by omega, by omega⟩ <;> simp [go_sem, f0, f1]
 clear f0 f1
 obtain ⟨b2, b3, f2, f3, hK, hN, gb2, ub2, gb3, ub3, wb2, wb3, eb2b3⟩ := hm
 refine SW.seq ?_
 refine SW.regX (fun f_ t_ => τ = t_ ∧ f_ 2 = AV.ptr b2 0 ∧ f_ 5 = AV.fn 163 [AV.ptr b3 0]) (fun M hM => ?_) (fun fr2 τz hm => ?_)
 ·simp [go_sem, f2, f3, gb2, gb3]
  refine (hM _ _).2 ⟨rfl, ?_, ?_⟩ <;> simp [go_sem, f2, f3, gb2, gb3]
 clear f2 f3
 obtain ⟨rfl, f2, f5⟩ := hm
 refine SW.seq ?_
 obtain ⟨rx, hrx, h⟩ := obind h
 refine SW.regX (fun f_ t_ => τ = t_ ∧ f_ 2 = AV.ptr b2 0 ∧ f_ 5 = AV.fn 163 [AV.ptr b3 0] ∧ f_ 6 = AV.int (rx.1) ∧ f_ 7 = AV.lit (.int .u64 (rx.2.1)) ∧ f_ 8 = AV.bool (rx.2.2)) (fun M hM => ?_) (fun fr3 τz1 hm => ?_)
 ·simp [go_sem, f2, f5, gb2, gb3]
  refine EWcall_frz (w_difference_Holds_c1 x.left values _ hrx) rfl (frzL_c (frz_aggL (frzL_c (.lit _) (frzL_c (.lit _) (frzL_n)))) (frzL_c (frz_ptrL (Nat.zero_le _) gb3 (frzL_c ((DataA.imm (DataL.map (fun _ => .lit _) values)) _ _) (frzL_n))) (frzL_n))) ?_
  simp [go_sem, f2, f5, gb2, gb3]
  refine (hM _ _).2 ⟨rfl, ?_, ?_, ?_, ?_, ?_⟩ <;> simp [go_sem, f2, f5, gb2, gb3]
 clear f2 f5
 obtain ⟨rfl, f2, f5, f6, f7, f8⟩ := hm
 refine SW.seq ?_
 obtain ⟨rx1, hrx1, h⟩ := obind h
 refine SW.regX (fun f_ t_ => τ = t_ ∧ f_ 2 = AV.ptr b2 0 ∧ f_ 6 = AV.int (rx.1) ∧ f_ 7 = AV.lit (.int .u64 (rx.2.1)) ∧ f_ 8 = AV.bool (rx.2.2) ∧ f_ 9 = AV.int (rx1.1) ∧ f_ 10 = AV.lit (.int .u64 (rx1.2.1)) ∧ f_ 11 = AV.bool (rx1.2.2)) (fun M hM => ?_) (fun fr4 τz2 hm => ?_)
 ·simp [go_sem, f2, f5, f6, f7, f8, gb2, gb3]
  refine EWcall_frz (w_difference_Holds_c1 x.right values _ hrx1) rfl (frzL_c (frz_aggL (frzL_c (.lit _) (frzL_c (.lit _) (frzL_n)))) (frzL_c (frz_ptrL (Nat.zero_le _) gb3 (frzL_c ((DataA.imm (DataL.map (fun _ => .lit _) values)) _ _) (frzL_n))) (frzL_n))) ?_
  simp [go_sem, f2, f5, f6, f7, f8, gb2, gb3]
  refine (hM _ _).2 ⟨rfl, ?_, ?_, ?_, ?_, ?_, ?_, ?_⟩ <;> simp [go_sem, f2, f5, f6, f7, f8, gb2, gb3]
 clear f2 f5 f6 f7 f8
 obtain ⟨rfl, f2, f6, f7, f8, f9, f10, f11⟩ := hm
 refine SW.seq ?_
 refine SW.seq ?_
 refine SW.regX (fun f_ t_ => τ = t_ ∧ f_ 2 = AV.ptr b2 0 ∧ f_ 6 = AV.int (rx.1) ∧ f_ 7 = AV.lit (.int .u64 (rx.2.1)) ∧ f_ 9 = AV.int (rx1.1) ∧ f_ 10 = AV.lit (.int .u64 (rx1.2.1)) ∧ f_ 35 = AV.bool ((((!rx.2.2)) || ((!rx1.2.2))))) (fun M hM => ?_) (fun fr5 τz3 hm => ?_)
 ·rcases Bool.eq_false_or_eq_true ((!rx.2.2)) with y0 | y0
  ·have y0' := y0
   try simp at y0'
   simp [go_sem, f10, f11, f2, f6, f7, f8, f9, gb2, y0, y0']
   refine (hM _ _).2 ⟨rfl, ?_, ?_, ?_, ?_, ?_, ?_⟩ <;> simp [go_sem, f10, f11, f2, f6, f7, f8, f9, gb2, y0, y0']
  ·have y0' := y0
   try simp at y0'
   simp [go_sem, f10, f11, f2, f6, f7, f8, f9, gb2, y0, y0']
   refine (hM _ _).2 ⟨rfl, ?_, ?_, ?_, ?_, ?_, ?_⟩ <;> simp [go_sem, f10, f11, f2, f6, f7, f8, f9, gb2, y0, y0']
 clear f10 f11 f2 f6 f7 f8 f9
 obtain ⟨rfl, f2, f6, f7, f9, f10, f35⟩ := hm
 refine SW.cond _ f35 (fun vh => ?_) (fun vh => ?_)
 ·have h := condT h vh
  refine SW.seq ?_
  refine SW.regX (fun f_ t_ => τ = t_ ∧ f_ 4 = AV.bool (false)) (fun M hM => ?_) (fun fr6 τz4 hm => ?_)
  ·simp [go_sem, f10, f2, f35, f6, f7, f9, gb2]
   refine (hM _ _).2 ⟨rfl, ?_⟩ <;> simp [go_sem, f10, f2, f35, f6, f7, f9, gb2]
  clear f10 f2 f35 f6 f7 f9
  obtain ⟨rfl, f4⟩ := hm
  obtain rfl := Option.some.inj h
  exact SW.ret ⟨AV.bool (false), by simp [go_sem, f4], .lit _, hK.keeps⟩
 have h := condF h vh
 refine SW.skip ?_
 refine SW.seq ?_
 obtain ⟨n, hn, h⟩ := obind h
 obtain ⟨n1, hn1, h⟩ := obind h
 obtain ⟨n2, hn2, h⟩ := obind h
 refine SW.regX (fun f_ t_ => f_ 2 = AV.ptr b2 0 ∧ f_ 12 = AV.int (n2) ∧ Kept σ0 t_ ∧ σ0.next ≤ t_.next ∧ t_.get b2 = some [AV.int (x.kind), AV.int (x.left.var), AV.int (x.left.add), AV.int (x.right.var), AV.int (x.right.add)] ∧ b2 < t_.next) (fun M hM => ?_) (fun fr7 τ1 hm => ?_)
 ·have nb2_0 : ¬ b2 = τ.next := by omega
  simp [go_sem, f10, f2, f35, f6, f7, f9, gb2, nb2_0]
  refine EWcall_pure (w_cmp_Compare_int rx.1 rx1.1 _ hn) ?_
  simp [go_sem, f10, f2, f35, f6, f7, f9, gb2, nb2_0]
  refine EWcall_pure (w_cmp_Compare_uint64 rx.2.1 rx1.2.1 _ hn1) ?_
  simp [go_sem, f10, f2, f35, f6, f7, f9, gb2, nb2_0]
  refine EWcall_frz (w_cmp_Or_int ([n, n1] : List Int) _ hn2) rfl (frzL_c (frz_arrL (cs := [AV.int (n), AV.int (n1)]) (Nat.zero_le _) (by first | (simp [go_sem, f10, f2, f35, f6, f7, f9, gb2, nb2_0]; done) | (simp [go_sem, f10, f2, f35, f6, f7, f9, gb2, nb2_0]; rfl)) (frzL_c (.lit _) (frzL_c (.lit _) (frzL_n)))) (frzL_n)) ?_
  simp [go_sem, f10, f2, f35, f6, f7, f9, gb2, nb2_0]
  refine (hM _ _).2 ⟨?_, ?_, by intro j hj; have hj_ := hK j hj; simp [go_sem, hj_.1, hj_.2, show ¬ j = τ.next by omega], by first | omega | (simp [go_sem]; done) | (simp [go_sem]; omega), by simp (disch := omega) [get_alloc_ne, get_set_ne, get_kill_ne, go_sem, f10, f2, f35, f6, f7, f9, gb2, nb2_0], by first | omega | (simp [go_sem]; done) | (simp [go_sem]; omega)⟩ <;> simp [go_sem, f10, f2, f35, f6, f7, f9, gb2, nb2_0]
 clear f10 f2 f35 f6 f7 f9 hK hN gb2 ub2
 obtain ⟨f2, f12, hK, hN, gb2, ub2⟩ := hm
 refine SW.seq ?_
 refine SW.regX (fun f_ t_ => τ1 = t_ ∧ f_ 4 = AV.bool ((bif (decide (x.kind = 1)) then (((decide (n2 ≤ 0))) || ((((decide (x.kind = 2))) && ((decide (n2 = 0)))))) else (((decide (x.kind = 2))) && ((decide (n2 = 0))))))) (fun M hM => ?_) (fun fr8 τz5 hm => ?_)
 ·rcases Bool.eq_false_or_eq_true ((decide (x.kind = 1))) with y0 | y0
  ·have y0' := y0
   try simp at y0'
   rcases Bool.eq_false_or_eq_true ((decide (n2 ≤ 0))) with y2 | y2
   ·have y2' := y2
    try simp [y0'] at y2'
    all_goals
     simp [go_sem, f12, f2, gb2, y0, y0', y2, y2']
     refine (hM _ _).2 ⟨rfl, ?_⟩ <;> simp [go_sem, f12, f2, gb2, y0, y0', y2, y2']
   ·have y2' := y2
    try simp [y0'] at y2'
    all_goals
     rcases Bool.eq_false_or_eq_true ((decide (x.kind = 2))) with y4 | y4
     ·have y4' := y4
      try simp [y0', y2'] at y4'
      all_goals
       simp [go_sem, f12, f2, gb2, y0, y0', y2, y2', y4, y4']
       refine (hM _ _).2 ⟨rfl, ?_⟩ <;> simp [go_sem, f12, f2, gb2, y0, y0', y2, y2', y4, y4']
     ·have y4' := y4
      try simp [y0', y2'] at y4'
      all_goals
       simp [go_sem, f12, f2, gb2, y0, y0', y2, y2', y4, y4']
       refine (hM _ _).2 ⟨rfl, ?_⟩ <;> simp [go_sem, f12, f2, gb2, y0, y0', y2, y2', y4, y4']
  ·have y0' := y0
   try simp at y0'
   rcases Bool.eq_false_or_eq_true ((decide (x.kind = 2))) with y2 | y2
   ·have y2' := y2
    try simp [y0'] at y2'
    all_goals
     simp [go_sem, f12, f2, gb2, y0, y0', y2, y2']
     refine (hM _ _).2 ⟨rfl, ?_⟩ <;> simp [go_sem, f12, f2, gb2, y0, y0', y2, y2']
   ·have y2' := y2
    try simp [y0'] at y2'
    all_goals
     simp [go_sem, f12, f2, gb2, y0, y0', y2, y2']
     refine (hM _ _).2 ⟨rfl, ?_⟩ <;> simp [go_sem, f12, f2, gb2, y0, y0', y2, y2']
 clear f12 f2
 obtain ⟨rfl, f4⟩ := hm
 obtain rfl := Option.some.inj h
 exact SW.ret ⟨AV.bool ((bif (decide (x.kind = 1)) then (((decide (n2 ≤ 0))) || ((((decide (x.kind = 2))) && ((decide (n2 = 0)))))) else (((decide (x.kind = 2))) && ((decide (n2 = 0)))))), by simp [go_sem, f4], .lit _, hK.keeps⟩
end Go.Proofs.YtippinddoldhkaaGreat
