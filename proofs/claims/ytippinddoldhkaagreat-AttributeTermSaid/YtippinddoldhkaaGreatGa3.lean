/-
  Plain functions and the walks that lead to them, by a program of ours (gen.py): scarfjoint/difference.Valid, slices.Index___bool_bool_, slices.Contains___bool_bool_.
-/
import Derived.Test.YtippinddoldhkaaGreatGd
import Derived.Test.YtippinddoldhkaaGreatGT
import Derived.Test.YtippinddoldhkaaGreatB3
import Derived.Test.YtippinddoldhkaaGreatB7
import Derived.Test.YtippinddoldhkaaGreatGS
import Derived.Test.YtippinddoldhkaaGreatLg
import Derived.Test.YtippinddoldhkaaGreatGa2
set_option linter.unusedSimpArgs false
set_option linter.unusedVariables false
namespace Go.Proofs.YtippinddoldhkaaGreat
open Go Go.Ew Go.Proofs Go.RowKit
set_option maxRecDepth 100000
set_option maxHeartbeats 4000000 in
theorem w_difference_Valid (n : Int) (l : List GTest) (r : (Int)) (h : s_difference_Valid n l = some r) : PureA Tryz.prog 56 [AV.int (n), sl_GTest (l)] (AV.int (r)) := by
 refine pureA_of_SW (N := 30) Tryz.func56 (by kernel_rfl) rfl (by rw [Tryz.ntmps56]; rfl) (fun σ0 => ?_)
 rw [Tryz.results56]
 obtain ⟨fr0, hfr⟩ : ∃ fr, fr = initFr [AV.int (n), sl_GTest (l)] := ⟨_, rfl⟩
 rw [← hfr]
 have f0 : fr0 0 = AV.int (n) := by rw [hfr]; rfl
 have f1 : fr0 1 = sl_GTest (l) := by rw [hfr]; rfl
 clear hfr
 simp only [s_difference_Valid] at h
 refine SW.seq ?_
 refine SW.regX (fun f_ t_ => σ0 = t_ ∧ f_ 0 = AV.int (n) ∧ f_ 1 = sl_GTest (l)) (fun M hM => ?_) (fun fr1 τz hm => ?_)
 ·simp [go_sem, f0, f1]
  refine (hM _ _).2 ⟨rfl, ?_, ?_⟩ <;> simp [go_sem, f0, f1]
 clear f0 f1
 obtain ⟨rfl, f0, f1⟩ := hm
 refine SW.seq ?_
 refine SW.seq ?_
 refine SW.regX (fun f_ t_ => σ0 = t_ ∧ f_ 0 = AV.int (n) ∧ f_ 1 = sl_GTest (l) ∧ f_ 13 = AV.bool ((((decide (n < 0))) || ((decide (12 < n)))))) (fun M hM => ?_) (fun fr2 τz1 hm => ?_)
 ·rcases Bool.eq_false_or_eq_true ((decide (n < 0))) with y0 | y0
  ·have y0' := y0
   try simp at y0'
   simp [go_sem, f0, f1, y0, y0']
   refine (hM _ _).2 ⟨rfl, ?_, ?_, ?_⟩ <;> simp [go_sem, f0, f1, y0, y0']
  ·have y0' := y0
   try simp at y0'
   simp [go_sem, f0, f1, y0, y0']
   refine (hM _ _).2 ⟨rfl, ?_, ?_, ?_⟩ <;> simp [go_sem, f0, f1, y0, y0']
 clear f0 f1
 obtain ⟨rfl, f0, f1, f13⟩ := hm
 refine SW.cond _ f13 (fun vh => ?_) (fun vh => ?_)
 ·have h := condT h vh
  refine SW.seq ?_
  refine SW.regX (fun f_ t_ => σ0 = t_ ∧ f_ 4 = AV.int (6)) (fun M hM => ?_) (fun fr3 τz2 hm => ?_)
  ·simp [go_sem, f0, f1, f13]
   refine (hM _ _).2 ⟨rfl, ?_⟩ <;> simp [go_sem, f0, f1, f13]
  clear f0 f1 f13
  obtain ⟨rfl, f4⟩ := hm
  obtain rfl := Option.some.inj h
  exact SW.ret ⟨AV.int (6), by simp [go_sem, f4], .lit _, Keeps.refl _⟩
 have h := condF h vh
 refine SW.skip ?_
 refine SW.seq ?_
 refine SW.seq ?_
 refine SW.regX (fun f_ t_ => σ0 = t_ ∧ f_ 0 = AV.int (n) ∧ f_ 1 = sl_GTest (l) ∧ f_ 16 = AV.bool ((decide (40 < ((l.length : Nat) : Int))))) (fun M hM => ?_) (fun fr4 τz3 hm => ?_)
 ·simp [go_sem, f0, f1, f13]
  refine (hM _ _).2 ⟨rfl, ?_, ?_, ?_⟩ <;> simp [go_sem, f0, f1, f13]
 clear f0 f1 f13
 obtain ⟨rfl, f0, f1, f16⟩ := hm
 refine SW.cond _ f16 (fun vh1 => ?_) (fun vh1 => ?_)
 ·have h := condT h vh1
  refine SW.seq ?_
  refine SW.regX (fun f_ t_ => σ0 = t_ ∧ f_ 4 = AV.int (3)) (fun M hM => ?_) (fun fr5 τz4 hm => ?_)
  ·simp [go_sem, f0, f1, f16]
   refine (hM _ _).2 ⟨rfl, ?_⟩ <;> simp [go_sem, f0, f1, f16]
  clear f0 f1 f16
  obtain ⟨rfl, f4⟩ := hm
  obtain rfl := Option.some.inj h
  exact SW.ret ⟨AV.int (3), by simp [go_sem, f4], .lit _, Keeps.refl _⟩
 have h := condF h vh1
 refine SW.skip ?_
 refine SW.seq ?_
 refine SW.seq ?_
 refine SW.regX (fun f_ t_ => σ0 = t_ ∧ f_ 0 = AV.int (n) ∧ f_ 17 = sl_GTest (l) ∧ f_ 18 = AV.int (((l.length : Nat) : Int)) ∧ f_ 19 = AV.int (0)) (fun M hM => ?_) (fun fr6 τz5 hm => ?_)
 ·simp [go_sem, f0, f1, f16]
  refine (hM _ _).2 ⟨rfl, ?_, ?_, ?_, ?_⟩ <;> simp [go_sem, f0, f1, f16]
 clear f0 f1 f16
 obtain ⟨rfl, f0, f17, f18, f19⟩ := hm
 obtain ⟨oi, hruni, hoi⟩ := obind h
 refine SW.len 17 f17 (fun hbigi => ?_)
 obtain ⟨KLi, hKLi⟩ : ∃ KL : Fr → Mem → Prop, ∀ fr' τ', KL fr' τ' ↔ (oi = .done () ∧ Kept σ0 τ' ∧ σ0.next ≤ τ'.next) := ⟨_, fun _ _ => Iff.rfl⟩
 refine SW.cut KLi ?_ ?_
 ·refine SW.block ?_
  obtain ⟨Ji, hJi⟩ : ∃ J : Nat → Fr → Mem → Prop, ∀ m_ fr' τ', J m_ fr' τ' ↔ (∃ k : Nat, m_ = l.length - k ∧ forN (b1_difference_Valid n l) (l.length - k) k () = some oi ∧ fr' 0 = AV.int (n) ∧ fr' 17 = sl_GTest (l) ∧ fr' 18 = AV.int (((l.length : Nat) : Int)) ∧ fr' 19 = AV.int (((k : Nat) : Int)) ∧ Kept σ0 τ' ∧ σ0.next ≤ τ'.next) := ⟨_, fun _ _ _ => Iff.rfl⟩
  refine SW.loop Ji (l.length - 0) ((hJi _ _ _).2 ⟨0, rfl, hruni, f0, f17, f18, f19, Kept.refl _, Nat.le_refl _⟩) ?_
  clear hruni
  intro m_ fr7 τ hm
  rw [hJi] at hm
  clear f0 f17 f18 f19
  obtain ⟨k, rfl, hruni, f0, f17, f18, f19, hK, hN⟩ := hm
  refine SW.seq ?_
  refine SW.regX (fun f_ t_ => τ = t_ ∧ f_ 0 = AV.int (n) ∧ f_ 17 = sl_GTest (l) ∧ f_ 18 = AV.int (((l.length : Nat) : Int)) ∧ f_ 19 = AV.int (((k : Nat) : Int)) ∧ f_ 20 = AV.bool ((decide (k < l.length)))) (fun M hM => ?_) (fun fr8 τz6 hm => ?_)
  ·simp [go_sem, f0, f17, f18, f19]
   refine (hM _ _).2 ⟨rfl, ?_, ?_, ?_, ?_, ?_⟩ <;> simp [go_sem, f0, f17, f18, f19]
  clear f0 f17 f18 f19
  obtain ⟨rfl, f0, f17, f18, f19, f20⟩ := hm
  refine SW.seq ?_
  refine SW.cond _ f20 (fun vh2 => ?_) (fun vh2 => ?_)
  rotate_left
  ·have hk : ¬ k < l.length := by have := of_decide_eq_false vh2; omega
   refine SW.exit rfl ?_
   exact SW.goal ((hKLi _ _).2 ⟨forN_end hruni hk, hK, hN⟩)
  have hkk : k < l.length := by have := of_decide_eq_true vh2; omega
  have hwk : IntKind.i64.wrap ((k : Int) + 1) = ((k + 1 : Nat) : Int) := by rw [wrap64_of _ (by omega) (by omega)]; rfl
  obtain ⟨ci, hbi, hci⟩ := forN_step hruni hkk
  simp only [b1_difference_Valid] at hbi
  refine SW.skip ?_
  refine SW.seq ?_
  refine SW.block ?_
  refine SW.seq ?_
  obtain ⟨x, hx, hbi⟩ := obind hbi
  have xlx := getN_lt hx
  have xdx := getN_flat GTestC 5 (fun _ => rfl) hx
  refine SW.regX (fun f_ t_ => ∃ b6 : Nat, f_ 0 = AV.int (n) ∧ f_ 6 = AV.ptr b6 0 ∧ f_ 17 = sl_GTest (l) ∧ f_ 18 = AV.int (((l.length : Nat) : Int)) ∧ f_ 19 = AV.int (((k : Nat) : Int)) ∧ Kept σ0 t_ ∧ σ0.next ≤ t_.next ∧ t_.get b6 = some [AV.int (x.kind), AV.int (x.left.var), AV.int (x.left.add), AV.int (x.right.var), AV.int (x.right.add)] ∧ b6 < t_.next ∧ σ0.next ≤ b6) (fun M hM => ?_) (fun fr9 τ1 hm => ?_)
  ·simp [go_sem, f0, f17, f18, f19, f20, xlx, xdx, GTestC]
   refine (hM _ _).2 ⟨τ.next, ?_, ?_, ?_, ?_, ?_, by intro j hj; have hj_ := hK j hj; simp [go_sem, hj_.1, hj_.2, show ¬ j = τ.next by omega], by first | omega | (simp [go_sem]; done) | (simp [go_sem]; omega), by simp (disch := omega) [get_alloc_ne, get_set_ne, get_kill_ne, go_sem, f0, f17, f18, f19, f20, xlx, xdx, GTestC], by first | omega | (simp [go_sem]; done) | (simp [go_sem]; omega), by omega⟩ <;> simp [go_sem, f0, f17, f18, f19, f20, xlx, xdx, GTestC]
  clear f0 f17 f18 f19 f20 hK hN
  obtain ⟨b6, f0, f6, f17, f18, f19, hK, hN, gb6, ub6, wb6⟩ := hm
  refine SW.seq ?_
  obtain ⟨n1, hn1, hbi⟩ := obind hbi
  refine SW.regX (fun f_ t_ => τ1 = t_ ∧ f_ 0 = AV.int (n) ∧ f_ 7 = AV.int (n1) ∧ f_ 17 = sl_GTest (l) ∧ f_ 18 = AV.int (((l.length : Nat) : Int)) ∧ f_ 19 = AV.int (((k : Nat) : Int))) (fun M hM => ?_) (fun fr10 τz7 hm => ?_)
  ·simp [go_sem, f0, f17, f18, f19, f6, gb6]
   refine EWcall_pure (w_difference_one n x _ hn1) ?_
   simp [go_sem, f0, f17, f18, f19, f6, gb6]
   refine (hM _ _).2 ⟨rfl, ?_, ?_, ?_, ?_, ?_⟩ <;> simp [go_sem, f0, f17, f18, f19, f6, gb6]
  clear f0 f17 f18 f19 f6
  obtain ⟨rfl, f0, f7, f17, f18, f19⟩ := hm
  refine SW.seq ?_
  refine SW.regX (fun f_ t_ => τ1 = t_ ∧ f_ 0 = AV.int (n) ∧ f_ 7 = AV.int (n1) ∧ f_ 17 = sl_GTest (l) ∧ f_ 18 = AV.int (((l.length : Nat) : Int)) ∧ f_ 19 = AV.int (((k : Nat) : Int)) ∧ f_ 27 = AV.bool ((!decide (n1 = 0)))) (fun M hM => ?_) (fun fr11 τz8 hm => ?_)
  ·simp [go_sem, f0, f17, f18, f19, f7]
   refine (hM _ _).2 ⟨rfl, ?_, ?_, ?_, ?_, ?_, ?_⟩ <;> simp [go_sem, f0, f17, f18, f19, f7]
  clear f0 f17 f18 f19 f7
  obtain ⟨rfl, f0, f7, f17, f18, f19, f27⟩ := hm
  refine SW.cond _ f27 (fun vh3 => ?_) (fun vh3 => ?_)
  ·have hbi := condT hbi vh3
   refine SW.seq ?_
   refine SW.regX (fun f_ t_ => τ1 = t_ ∧ f_ 4 = AV.int (n1)) (fun M hM => ?_) (fun fr12 τz9 hm => ?_)
   ·simp [go_sem, f0, f17, f18, f19, f27, f7]
    refine (hM _ _).2 ⟨rfl, ?_⟩ <;> simp [go_sem, f0, f17, f18, f19, f27, f7]
   clear f0 f17 f18 f19 f27 f7
   obtain ⟨rfl, f4⟩ := hm
   obtain rfl := Option.some.inj hbi
   obtain rfl := Option.some.inj hci
   obtain rfl := Option.some.inj hoi
   exact SW.ret ⟨AV.int (n1), by simp [go_sem, f4], .lit _, hK.keeps⟩
  have hbi := condF hbi vh3
  refine SW.skip ?_
  refine SW.blk ?_
  refine SW.regX (fun f_ t_ => τ1 = t_ ∧ f_ 0 = AV.int (n) ∧ f_ 17 = sl_GTest (l) ∧ f_ 18 = AV.int (((l.length : Nat) : Int)) ∧ f_ 19 = AV.int (((k + 1 : Nat) : Int))) (fun M hM => ?_) (fun fr13 τz10 hm => ?_)
  ·simp [go_sem, f0, f17, f18, f19, f27, f7, hwk]
   refine (hM _ _).2 ⟨rfl, ?_, ?_, ?_, ?_⟩ <;> simp [go_sem, f0, f17, f18, f19, f27, f7, hwk]
  clear f0 f17 f18 f19 f27 f7
  obtain ⟨rfl, f0, f17, f18, f19⟩ := hm
  obtain rfl := Option.some.inj hbi
  exact SW.goal ⟨l.length - (k + 1), by omega, (hJi _ _ _).2 ⟨k + 1, rfl, hci, f0, f17, f18, f19, hK, hN⟩⟩
 intro fr14 τ2 hm
 rw [hKLi] at hm
 clear hKLi hruni
 clear f0 f17 f18 f19
 obtain ⟨rfl, hK, hN⟩ := hm
 simp only [Out.on] at hoi
 refine SW.seq ?_
 refine SW.regX (fun f_ t_ => τ2 = t_ ∧ f_ 4 = AV.int (0)) (fun M hM => ?_) (fun fr15 τz11 hm => ?_)
 ·simp [go_sem]
  refine (hM _ _).2 ⟨rfl, ?_⟩ <;> simp [go_sem]
 obtain ⟨rfl, f4⟩ := hm
 obtain rfl := Option.some.inj hoi
 exact SW.ret ⟨AV.int (0), by simp [go_sem, f4], .lit _, hK.keeps⟩
set_option maxHeartbeats 4000000 in
theorem w_slices_Index_bool (s : List Bool) (v : Bool) (r : (Int)) (h : s_slices_Index_bool s v = some r) : PureA Tryz.prog 110 [boolsA (s), AV.bool (v)] (AV.int (r)) := by
 refine pureA_of_SW (N := 19) Tryz.func110 (by kernel_rfl) rfl (by rw [Tryz.ntmps110]; rfl) (fun σ0 => ?_)
 rw [Tryz.results110]
 obtain ⟨fr0, hfr⟩ : ∃ fr, fr = initFr [boolsA (s), AV.bool (v)] := ⟨_, rfl⟩
 rw [← hfr]
 have f0 : fr0 0 = boolsA (s) := by rw [hfr]; rfl
 have f1 : fr0 1 = AV.bool (v) := by rw [hfr]; rfl
 clear hfr
 simp only [s_slices_Index_bool] at h
 refine SW.seq ?_
 refine SW.regX (fun f_ t_ => σ0 = t_ ∧ f_ 0 = boolsA (s) ∧ f_ 1 = AV.bool (v)) (fun M hM => ?_) (fun fr1 τz hm => ?_)
 ·simp [go_sem, f0, f1]
  refine (hM _ _).2 ⟨rfl, ?_, ?_⟩ <;> simp [go_sem, f0, f1]
 clear f0 f1
 obtain ⟨rfl, f0, f1⟩ := hm
 refine SW.seq ?_
 refine SW.seq ?_
 refine SW.regX (fun f_ t_ => σ0 = t_ ∧ f_ 0 = boolsA (s) ∧ f_ 1 = AV.bool (v) ∧ f_ 7 = AV.int (((s.length : Nat) : Int)) ∧ f_ 8 = AV.int (0)) (fun M hM => ?_) (fun fr2 τz1 hm => ?_)
 ·simp [go_sem, f0, f1]
  refine (hM _ _).2 ⟨rfl, ?_, ?_, ?_, ?_⟩ <;> simp [go_sem, f0, f1]
 clear f0 f1
 obtain ⟨rfl, f0, f1, f7, f8⟩ := hm
 obtain ⟨oi, hruni, hoi⟩ := obind h
 refine SW.len 0 f0 (fun hbigi => ?_)
 obtain ⟨KLi, hKLi⟩ : ∃ KL : Fr → Mem → Prop, ∀ fr' τ', KL fr' τ' ↔ (oi = .done () ∧ σ0 = τ') := ⟨_, fun _ _ => Iff.rfl⟩
 refine SW.cut KLi ?_ ?_
 ·refine SW.block ?_
  obtain ⟨Ji, hJi⟩ : ∃ J : Nat → Fr → Mem → Prop, ∀ m_ fr' τ', J m_ fr' τ' ↔ (∃ k : Nat, m_ = s.length - k ∧ forN (b1_slices_Index_bool s v) (s.length - k) k () = some oi ∧ σ0 = τ' ∧ fr' 0 = boolsA (s) ∧ fr' 1 = AV.bool (v) ∧ fr' 7 = AV.int (((s.length : Nat) : Int)) ∧ fr' 8 = AV.int (((k : Nat) : Int))) := ⟨_, fun _ _ _ => Iff.rfl⟩
  refine SW.loop Ji (s.length - 0) ((hJi _ _ _).2 ⟨0, rfl, hruni, rfl, f0, f1, f7, f8⟩) ?_
  clear hruni
  intro m_ fr3 τ hm
  rw [hJi] at hm
  clear f0 f1 f7 f8
  obtain ⟨k, rfl, hruni, rfl, f0, f1, f7, f8⟩ := hm
  refine SW.seq ?_
  refine SW.regX (fun f_ t_ => σ0 = t_ ∧ f_ 0 = boolsA (s) ∧ f_ 1 = AV.bool (v) ∧ f_ 7 = AV.int (((s.length : Nat) : Int)) ∧ f_ 8 = AV.int (((k : Nat) : Int)) ∧ f_ 9 = AV.bool ((decide (k < s.length)))) (fun M hM => ?_) (fun fr4 τz2 hm => ?_)
  ·simp [go_sem, f0, f1, f7, f8]
   refine (hM _ _).2 ⟨rfl, ?_, ?_, ?_, ?_, ?_⟩ <;> simp [go_sem, f0, f1, f7, f8]
  clear f0 f1 f7 f8
  obtain ⟨rfl, f0, f1, f7, f8, f9⟩ := hm
  refine SW.seq ?_
  refine SW.cond _ f9 (fun vh => ?_) (fun vh => ?_)
  rotate_left
  ·have hk : ¬ k < s.length := by have := of_decide_eq_false vh; omega
   refine SW.exit rfl ?_
   exact SW.goal ((hKLi _ _).2 ⟨forN_end hruni hk, rfl⟩)
  have hkk : k < s.length := by have := of_decide_eq_true vh; omega
  have hwk : IntKind.i64.wrap ((k : Int) + 1) = ((k + 1 : Nat) : Int) := by rw [wrap64_of _ (by omega) (by omega)]; rfl
  obtain ⟨ci, hbi, hci⟩ := forN_step hruni hkk
  simp only [b1_slices_Index_bool] at hbi
  refine SW.skip ?_
  refine SW.seq ?_
  refine SW.block ?_
  refine SW.seq ?_
  refine SW.regX (fun f_ t_ => σ0 = t_ ∧ f_ 0 = boolsA (s) ∧ f_ 1 = AV.bool (v) ∧ f_ 5 = AV.int (((k : Nat) : Int)) ∧ f_ 7 = AV.int (((s.length : Nat) : Int)) ∧ f_ 8 = AV.int (((k : Nat) : Int))) (fun M hM => ?_) (fun fr5 τz3 hm => ?_)
  ·simp [go_sem, f0, f1, f7, f8, f9]
   refine (hM _ _).2 ⟨rfl, ?_, ?_, ?_, ?_, ?_⟩ <;> simp [go_sem, f0, f1, f7, f8, f9]
  clear f0 f1 f7 f8 f9
  obtain ⟨rfl, f0, f1, f5, f7, f8⟩ := hm
  refine SW.seq ?_
  obtain ⟨q, hq, hbi⟩ := obind hbi
  have xlq := getN_lt hq
  have xdq := getN_map AV.bool hq
  refine SW.regX (fun f_ t_ => σ0 = t_ ∧ f_ 0 = boolsA (s) ∧ f_ 1 = AV.bool (v) ∧ f_ 5 = AV.int (((k : Nat) : Int)) ∧ f_ 7 = AV.int (((s.length : Nat) : Int)) ∧ f_ 8 = AV.int (((k : Nat) : Int)) ∧ f_ 16 = AV.bool ((v == q))) (fun M hM => ?_) (fun fr6 τz4 hm => ?_)
  ·simp [go_sem, f0, f1, f5, f7, f8, xlq, xdq]
   refine (hM _ _).2 ⟨rfl, ?_, ?_, ?_, ?_, ?_, ?_⟩ <;> simp [go_sem, f0, f1, f5, f7, f8, xlq, xdq]
  clear f0 f1 f5 f7 f8
  obtain ⟨rfl, f0, f1, f5, f7, f8, f16⟩ := hm
  refine SW.cond _ f16 (fun vh1 => ?_) (fun vh1 => ?_)
  ·have hbi := condT hbi vh1
   refine SW.seq ?_
   refine SW.regX (fun f_ t_ => σ0 = t_ ∧ f_ 4 = AV.int (((k : Nat) : Int))) (fun M hM => ?_) (fun fr7 τz5 hm => ?_)
   ·simp [go_sem, f0, f1, f16, f5, f7, f8]
    refine (hM _ _).2 ⟨rfl, ?_⟩ <;> simp [go_sem, f0, f1, f16, f5, f7, f8]
   clear f0 f1 f16 f5 f7 f8
   obtain ⟨rfl, f4⟩ := hm
   obtain rfl := Option.some.inj hbi
   obtain rfl := Option.some.inj hci
   obtain rfl := Option.some.inj hoi
   exact SW.ret ⟨AV.int (((k : Nat) : Int)), by simp [go_sem, f4], .lit _, Keeps.refl _⟩
  have hbi := condF hbi vh1
  refine SW.skip ?_
  refine SW.blk ?_
  refine SW.regX (fun f_ t_ => σ0 = t_ ∧ f_ 0 = boolsA (s) ∧ f_ 1 = AV.bool (v) ∧ f_ 7 = AV.int (((s.length : Nat) : Int)) ∧ f_ 8 = AV.int (((k + 1 : Nat) : Int))) (fun M hM => ?_) (fun fr8 τz6 hm => ?_)
  ·simp [go_sem, f0, f1, f16, f5, f7, f8, hwk]
   refine (hM _ _).2 ⟨rfl, ?_, ?_, ?_, ?_⟩ <;> simp [go_sem, f0, f1, f16, f5, f7, f8, hwk]
  clear f0 f1 f16 f5 f7 f8
  obtain ⟨rfl, f0, f1, f7, f8⟩ := hm
  obtain rfl := Option.some.inj hbi
  exact SW.goal ⟨s.length - (k + 1), by omega, (hJi _ _ _).2 ⟨k + 1, rfl, hci, rfl, f0, f1, f7, f8⟩⟩
 intro fr9 τ1 hm
 rw [hKLi] at hm
 clear hKLi hruni
 clear f0 f1 f7 f8
 obtain ⟨rfl, rfl⟩ := hm
 simp only [Out.on] at hoi
 refine SW.seq ?_
 refine SW.regX (fun f_ t_ => σ0 = t_ ∧ f_ 4 = AV.int (-1)) (fun M hM => ?_) (fun fr10 τz7 hm => ?_)
 ·simp [go_sem]
  refine (hM _ _).2 ⟨rfl, ?_⟩ <;> simp [go_sem]
 obtain ⟨rfl, f4⟩ := hm
 obtain rfl := Option.some.inj hoi
 exact SW.ret ⟨AV.int (-1), by simp [go_sem, f4], .lit _, Keeps.refl _⟩
set_option maxHeartbeats 4000000 in
theorem w_slices_Contains_bool (s : List Bool) (v : Bool) (r : (Bool)) (h : s_slices_Contains_bool s v = some r) : PureA Tryz.prog 57 [boolsA (s), AV.bool (v)] (AV.bool (r)) := by
 refine pureA_of_SW (N := 9) Tryz.func57 (by kernel_rfl) rfl (by rw [Tryz.ntmps57]; rfl) (fun σ0 => ?_)
 rw [Tryz.results57]
 obtain ⟨fr0, hfr⟩ : ∃ fr, fr = initFr [boolsA (s), AV.bool (v)] := ⟨_, rfl⟩
 rw [← hfr]
 have f0 : fr0 0 = boolsA (s) := by rw [hfr]; rfl
 have f1 : fr0 1 = AV.bool (v) := by rw [hfr]; rfl
 clear hfr
 simp only [s_slices_Contains_bool] at h
 refine SW.seq ?_
 refine SW.regX (fun f_ t_ => σ0 = t_ ∧ f_ 0 = boolsA (s) ∧ f_ 1 = AV.bool (v)) (fun M hM => ?_) (fun fr1 τz hm => ?_)
 ·simp [go_sem, f0, f1]
  refine (hM _ _).2 ⟨rfl, ?_, ?_⟩ <;> simp [go_sem, f0, f1]
 clear f0 f1
 obtain ⟨rfl, f0, f1⟩ := hm
 refine SW.seq ?_
 obtain ⟨n, hn, h⟩ := obind h
 refine SW.regX (fun f_ t_ => σ0 = t_ ∧ f_ 4 = AV.bool ((decide (0 ≤ n)))) (fun M hM => ?_) (fun fr2 τz1 hm => ?_)
 ·simp [go_sem, f0, f1]
  refine EWcall_pure (w_slices_Index_bool s v _ hn) ?_
  simp [go_sem, f0, f1]
  refine (hM _ _).2 ⟨rfl, ?_⟩ <;> simp [go_sem, f0, f1]
 clear f0 f1
 obtain ⟨rfl, f4⟩ := hm
 obtain rfl := Option.some.inj h
 exact SW.ret ⟨AV.bool ((decide (0 ≤ n))), by simp [go_sem, f4], .lit _, Keeps.refl _⟩
end Go.Proofs.YtippinddoldhkaaGreat
