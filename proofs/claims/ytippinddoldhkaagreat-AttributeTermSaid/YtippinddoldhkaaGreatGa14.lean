/-
  Plain functions and the walks that lead to them, by a program of ours (gen.py): scarfjoint/scarfjointref21.Term, scarfjoint/scarfjointlaw21.AttributeTerm.
-/
import Derived.Test.YtippinddoldhkaaGreatGd
import Derived.Test.YtippinddoldhkaaGreatGT
import Derived.Test.YtippinddoldhkaaGreatB3
import Derived.Test.YtippinddoldhkaaGreatB7
import Derived.Test.YtippinddoldhkaaGreatGS
import Derived.Test.YtippinddoldhkaaGreatLg
import Derived.Test.YtippinddoldhkaaGreatGa13
import Derived.Test.YtippinddoldhkaaGreatGa7
set_option linter.unusedSimpArgs false
set_option linter.unusedVariables false
namespace Go.Proofs.YtippinddoldhkaaGreat
open Go Go.Ew Go.Proofs Go.RowKit
set_option maxRecDepth 100000
set_option maxHeartbeats 4000000 in
theorem w_ref21_Term (x : GTerm) (values : List Int) (r : (Int × Int)) (h : s_ref21_Term x values = some r) : PureA Tryz.prog 12 [AV.agg [AV.int (x.var), AV.int (x.add)], intsA (values)] (AV.tup [AV.int (r.1), AV.int (r.2)]) := by
 refine pureA_of_SW (N := 19) Tryz.func12 (by kernel_rfl) rfl (by rw [Tryz.ntmps12]; rfl) (fun σ0 => ?_)
 rw [Tryz.results12]
 obtain ⟨fr0, hfr⟩ : ∃ fr, fr = initFr [AV.agg [AV.int (x.var), AV.int (x.add)], intsA (values)] := ⟨_, rfl⟩
 rw [← hfr]
 have f0 : fr0 0 = AV.agg [AV.int (x.var), AV.int (x.add)] := by rw [hfr]; rfl
 have f1 : fr0 1 = intsA (values) := by rw [hfr]; rfl
 clear hfr
 simp only [s_ref21_Term] at h
 refine SW.seq ?_
 refine SW.regX (fun f_ t_ => ∃ b2 : Nat, f_ 1 = intsA (values) ∧ f_ 2 = AV.ptr b2 0 ∧ Kept σ0 t_ ∧ σ0.next ≤ t_.next ∧ t_.get b2 = some [AV.int (x.var), AV.int (x.add)] ∧ b2 < t_.next ∧ σ0.next ≤ b2) (fun M hM => ?_) (fun fr1 τ hm => ?_)
 ·simp [go_sem, f0, f1]
  refine (hM _ _).2 ⟨σ0.next, ?_, ?_, by intro j hj; simp [go_sem, show ¬ j = σ0.next by omega], by first | omega | (simp [go_sem]; done) | (simp [go_sem]; omega), by simp (disch := omega) [get_alloc_ne, get_set_ne, get_kill_ne, go_sem, f0, f1], by first | omega | (simp [go_sem]; done) | (simp [go_sem]; omega), by omega⟩ <;> simp [go_sem, f0, f1]
 clear f0 f1
 obtain ⟨b2, f1, f2, hK, hN, gb2, ub2, wb2⟩ := hm
 refine SW.seq ?_
 refine SW.seq ?_
 refine SW.regX (fun f_ t_ => τ = t_ ∧ f_ 1 = intsA (values) ∧ f_ 2 = AV.ptr b2 0 ∧ f_ 15 = AV.bool ((((decide (x.var < -1))) || ((decide (((values.length : Nat) : Int) ≤ x.var)))))) (fun M hM => ?_) (fun fr2 τz hm => ?_)
 ·rcases Bool.eq_false_or_eq_true ((decide (x.var < -1))) with y0 | y0
  ·have y0' := y0
   try simp at y0'
   simp [go_sem, f1, f2, gb2, y0, y0']
   refine (hM _ _).2 ⟨rfl, ?_, ?_, ?_⟩ <;> simp [go_sem, f1, f2, gb2, y0, y0']
  ·have y0' := y0
   try simp at y0'
   simp [go_sem, f1, f2, gb2, y0, y0']
   refine (hM _ _).2 ⟨rfl, ?_, ?_, ?_⟩ <;> simp [go_sem, f1, f2, gb2, y0, y0']
 clear f1 f2
 obtain ⟨rfl, f1, f2, f15⟩ := hm
 refine SW.cond _ f15 (fun vh => ?_) (fun vh => ?_)
 ·have h := condT h vh
  refine SW.seq ?_
  refine SW.regX (fun f_ t_ => τ = t_ ∧ f_ 4 = AV.int (0) ∧ f_ 5 = AV.int (6)) (fun M hM => ?_) (fun fr3 τz1 hm => ?_)
  ·simp [go_sem, f1, f15, f2, gb2]
   refine (hM _ _).2 ⟨rfl, ?_, ?_⟩ <;> simp [go_sem, f1, f15, f2, gb2]
  clear f1 f15 f2
  obtain ⟨rfl, f4, f5⟩ := hm
  obtain rfl := Option.some.inj h
  exact SW.ret ⟨AV.tup [AV.int (0), AV.int (6)], by simp [go_sem, f4, f5], frz_tupL (frzL_c (.lit _) (frzL_c (.lit _) (frzL_n))), hK.keeps⟩
 have h := condF h vh
 refine SW.skip ?_
 refine SW.seq ?_
 obtain ⟨n, hn, h⟩ := obind h
 refine SW.regX (fun f_ t_ => τ = t_ ∧ f_ 4 = AV.int (n) ∧ f_ 5 = AV.int (0)) (fun M hM => ?_) (fun fr4 τz2 hm => ?_)
 ·simp [go_sem, f1, f15, f2, gb2]
  refine EWcall_pure (w_ref21_value x values _ hn) ?_
  simp [go_sem, f1, f15, f2, gb2]
  refine (hM _ _).2 ⟨rfl, ?_, ?_⟩ <;> simp [go_sem, f1, f15, f2, gb2]
 clear f1 f15 f2
 obtain ⟨rfl, f4, f5⟩ := hm
 obtain rfl := Option.some.inj h
 exact SW.ret ⟨AV.tup [AV.int (n), AV.int (0)], by simp [go_sem, f4, f5], frz_tupL (frzL_c (.lit _) (frzL_c (.lit _) (frzL_n))), hK.keeps⟩
set_option maxHeartbeats 4000000 in
theorem w_law21_AttributeTerm (F : Nat) (x : GTerm) (values : List Int) (r : (Bool)) (h : s_law21_AttributeTerm F x values = some r) : PureA Tryz.prog 3 [AV.agg [AV.int (x.var), AV.int (x.add)], sl_Int_i32 (values)] (AV.bool (r)) := by
 refine pureA_of_SW (N := 63) Tryz.func3 (by kernel_rfl) rfl (by rw [Tryz.ntmps3]; rfl) (fun σ0 => ?_)
 rw [Tryz.results3]
 obtain ⟨fr0, hfr⟩ : ∃ fr, fr = initFr [AV.agg [AV.int (x.var), AV.int (x.add)], sl_Int_i32 (values)] := ⟨_, rfl⟩
 rw [← hfr]
 have f0 : fr0 0 = AV.agg [AV.int (x.var), AV.int (x.add)] := by rw [hfr]; rfl
 have f1 : fr0 1 = sl_Int_i32 (values) := by rw [hfr]; rfl
 clear hfr
 simp only [s_law21_AttributeTerm] at h
 refine SW.seq ?_
 refine SW.regX (fun f_ t_ => ∃ b2 : Nat, f_ 1 = sl_Int_i32 (values) ∧ f_ 2 = AV.ptr b2 0 ∧ Kept σ0 t_ ∧ σ0.next ≤ t_.next ∧ t_.get b2 = some [AV.int (x.var), AV.int (x.add)] ∧ b2 < t_.next ∧ σ0.next ≤ b2) (fun M hM => ?_) (fun fr1 τ hm => ?_)
 ·simp [go_sem, f0, f1]
  refine (hM _ _).2 ⟨σ0.next, ?_, ?_, by intro j hj; simp [go_sem, show ¬ j = σ0.next by omega], by first | omega | (simp [go_sem]; done) | (simp [go_sem]; omega), by simp (disch := omega) [get_alloc_ne, get_set_ne, get_kill_ne, go_sem, f0, f1], by first | omega | (simp [go_sem]; done) | (simp [go_sem]; omega), by omega⟩ <;> simp [go_sem, f0, f1]
 clear f0 f1
 obtain ⟨b2, f1, f2, hK, hN, gb2, ub2, wb2⟩ := hm
 refine SW.seq ?_
 refine SW.seq ?_
 obtain ⟨q, hq, h⟩ := obind h
 refine SW.regX (fun f_ t_ => τ = t_ ∧ f_ 1 = sl_Int_i32 (values) ∧ f_ 2 = AV.ptr b2 0 ∧ f_ 28 = AV.bool ((((!q)) || ((((decide (100 < ((values.length : Nat) : Int)))) || ((((decide (x.add < -1099511627776))) || ((decide (1099511627776 < x.add)))))))))) (fun M hM => ?_) (fun fr2 τz hm => ?_)
 ·rcases Bool.eq_false_or_eq_true ((!q)) with y0 | y0
  ·have y0' := y0
   try simp at y0'
   simp [go_sem, f1, f2, gb2, y0, y0']
   refine EWcall_pure (w_law21_awake F _ hq) ?_
   simp [go_sem, f1, f2, gb2, y0, y0']
   refine (hM _ _).2 ⟨rfl, ?_, ?_, ?_⟩ <;> simp [go_sem, f1, f2, gb2, y0, y0']
  ·have y0' := y0
   try simp at y0'
   rcases Bool.eq_false_or_eq_true ((decide (100 < ((values.length : Nat) : Int)))) with y2 | y2
   ·have y2' := y2
    try simp [y0'] at y2'
    all_goals
     simp [go_sem, f1, f2, gb2, y0, y0', y2, y2']
     refine EWcall_pure (w_law21_awake F _ hq) ?_
     simp [go_sem, f1, f2, gb2, y0, y0', y2, y2']
     refine (hM _ _).2 ⟨rfl, ?_, ?_, ?_⟩ <;> simp [go_sem, f1, f2, gb2, y0, y0', y2, y2']
   ·have y2' := y2
    try simp [y0'] at y2'
    all_goals
     rcases Bool.eq_false_or_eq_true ((decide (x.add < -1099511627776))) with y4 | y4
     ·have y4' := y4
      try simp [y0', y2'] at y4'
      all_goals
       simp [go_sem, f1, f2, gb2, y0, y0', y2, y2', y4, y4']
       refine EWcall_pure (w_law21_awake F _ hq) ?_
       simp [go_sem, f1, f2, gb2, y0, y0', y2, y2', y4, y4']
       refine (hM _ _).2 ⟨rfl, ?_, ?_, ?_⟩ <;> simp [go_sem, f1, f2, gb2, y0, y0', y2, y2', y4, y4']
     ·have y4' := y4
      try simp [y0', y2'] at y4'
      all_goals
       simp [go_sem, f1, f2, gb2, y0, y0', y2, y2', y4, y4']
       refine EWcall_pure (w_law21_awake F _ hq) ?_
       simp [go_sem, f1, f2, gb2, y0, y0', y2, y2', y4, y4']
       refine (hM _ _).2 ⟨rfl, ?_, ?_, ?_⟩ <;> simp [go_sem, f1, f2, gb2, y0, y0', y2, y2', y4, y4']
 clear f1 f2
 obtain ⟨rfl, f1, f2, f28⟩ := hm
 refine SW.cond _ f28 (fun vh => ?_) (fun vh => ?_)
 ·have h := condT h vh
  refine SW.seq ?_
  obtain ⟨q1, hq1, h⟩ := obind h
  refine SW.regX (fun f_ t_ => τ = t_ ∧ f_ 4 = AV.bool (q1)) (fun M hM => ?_) (fun fr3 τz1 hm => ?_)
  ·simp [go_sem, f1, f2, f28, gb2]
   refine EWcall_pure (w_law21_awake F _ hq1) ?_
   simp [go_sem, f1, f2, f28, gb2]
   refine (hM _ _).2 ⟨rfl, ?_⟩ <;> simp [go_sem, f1, f2, f28, gb2]
  clear f1 f2 f28
  obtain ⟨rfl, f4⟩ := hm
  obtain rfl := Option.some.inj h
  exact SW.ret ⟨AV.bool (q1), by simp [go_sem, f4], .lit _, hK.keeps⟩
 have h := condF h vh
 refine SW.skip ?_
 refine SW.seq ?_
 refine SW.regX (fun f_ t_ => τ = t_ ∧ f_ 1 = sl_Int_i32 (values) ∧ f_ 2 = AV.ptr b2 0 ∧ f_ 5 = AV.nils) (fun M hM => ?_) (fun fr4 τz2 hm => ?_)
 ·simp [go_sem, f1, f2, f28, gb2]
  refine (hM _ _).2 ⟨rfl, ?_, ?_, ?_⟩ <;> simp [go_sem, f1, f2, f28, gb2]
 clear f1 f2 f28
 obtain ⟨rfl, f1, f2, f5⟩ := hm
 refine SW.seq ?_
 refine SW.seq ?_
 refine SW.regX (fun f_ t_ => τ = t_ ∧ f_ 2 = AV.ptr b2 0 ∧ f_ 5 = AV.nils ∧ f_ 30 = sl_Int_i32 (values) ∧ f_ 31 = AV.int (((values.length : Nat) : Int)) ∧ f_ 32 = AV.int (0)) (fun M hM => ?_) (fun fr5 τz3 hm => ?_)
 ·simp [go_sem, f1, f2, f5, gb2]
  refine (hM _ _).2 ⟨rfl, ?_, ?_, ?_, ?_, ?_⟩ <;> simp [go_sem, f1, f2, f5, gb2]
 clear f1 f2 f5
 obtain ⟨rfl, f2, f5, f30, f31, f32⟩ := hm
 obtain ⟨oi, hruni, hoi⟩ := obind h
 refine SW.len 30 f30 (fun hbigi => ?_)
 obtain ⟨KLi, hKLi⟩ : ∃ KL : Fr → Mem → Prop, ∀ fr' τ', KL fr' τ' ↔ (∃ l : List Int, ∃ v : AV, oi = .done l ∧ fr' 2 = AV.ptr b2 0 ∧ fr' 5 = v ∧ Kept σ0 τ' ∧ σ0.next ≤ τ'.next ∧ τ'.get b2 = some [AV.int (x.var), AV.int (x.add)] ∧ b2 < τ'.next ∧ ArrAt σ0.next τ' v 3 (l.map AV.int) l.length 1 ∧ (∀ i, idOf v = some i → ¬ i = b2)) := ⟨_, fun _ _ => Iff.rfl⟩
 refine SW.cut KLi ?_ ?_
 ·refine SW.block ?_
  obtain ⟨Ji, hJi⟩ : ∃ J : Nat → Fr → Mem → Prop, ∀ m_ fr' τ', J m_ fr' τ' ↔ (∃ k : Nat, ∃ l : List Int, ∃ v : AV, m_ = values.length - k ∧ forN (b1_law21_AttributeTerm values) (values.length - k) k l = some oi ∧ fr' 2 = AV.ptr b2 0 ∧ fr' 5 = v ∧ fr' 30 = sl_Int_i32 (values) ∧ fr' 31 = AV.int (((values.length : Nat) : Int)) ∧ fr' 32 = AV.int (((k : Nat) : Int)) ∧ Kept σ0 τ' ∧ σ0.next ≤ τ'.next ∧ τ'.get b2 = some [AV.int (x.var), AV.int (x.add)] ∧ b2 < τ'.next ∧ ArrAt σ0.next τ' v 3 (l.map AV.int) l.length 1 ∧ (∀ i, idOf v = some i → ¬ i = b2)) := ⟨_, fun _ _ _ => Iff.rfl⟩
  refine SW.loop Ji (values.length - 0) ((hJi _ _ _).2 ⟨0, ([] : List Int), AV.nils, rfl, hruni, f2, f5, f30, f31, f32, hK, hN, gb2, ub2, .inl ⟨rfl, rfl, rfl⟩, (fun i h => by cases h)⟩) ?_
  clear hruni
  intro m_ fr6 τ1 hm
  rw [hJi] at hm
  clear f2 f30 f31 f32 f5 hK hN gb2 ub2
  obtain ⟨k, l, v, rfl, hruni, f2, f5, f30, f31, f32, hK, hN, gb2, ub2, av, evb2⟩ := hm
  refine SW.seq ?_
  refine SW.regX (fun f_ t_ => τ1 = t_ ∧ f_ 2 = AV.ptr b2 0 ∧ f_ 5 = v ∧ f_ 30 = sl_Int_i32 (values) ∧ f_ 31 = AV.int (((values.length : Nat) : Int)) ∧ f_ 32 = AV.int (((k : Nat) : Int)) ∧ f_ 33 = AV.bool ((decide (k < values.length)))) (fun M hM => ?_) (fun fr7 τz4 hm => ?_)
  ·simp [go_sem, f2, f30, f31, f32, f5, gb2]
   refine (hM _ _).2 ⟨rfl, ?_, ?_, ?_, ?_, ?_, ?_⟩ <;> simp [go_sem, f2, f30, f31, f32, f5, gb2]
  clear f2 f30 f31 f32 f5
  obtain ⟨rfl, f2, f5, f30, f31, f32, f33⟩ := hm
  refine SW.seq ?_
  refine SW.cond _ f33 (fun vh1 => ?_) (fun vh1 => ?_)
  rotate_left
  ·have hk : ¬ k < values.length := by have := of_decide_eq_false vh1; omega
   refine SW.exit rfl ?_
   exact SW.goal ((hKLi _ _).2 ⟨l, v, forN_end hruni hk, f2, f5, hK, hN, gb2, ub2, av, evb2⟩)
  have hkk : k < values.length := by have := of_decide_eq_true vh1; omega
  have hwk : IntKind.i64.wrap ((k : Int) + 1) = ((k + 1 : Nat) : Int) := by rw [wrap64_of _ (by omega) (by omega)]; rfl
  obtain ⟨ci, hbi, hci⟩ := forN_step hruni hkk
  simp only [b1_law21_AttributeTerm] at hbi
  refine SW.skip ?_
  refine SW.seq ?_
  refine SW.block ?_
  refine SW.seq ?_
  obtain ⟨n, hn, hbi⟩ := obind hbi
  have xln := getN_lt hn
  have xdn := getN_map (fun n => AV.lit (.int .i32 n)) hn
  refine SW.regX (fun f_ t_ => τ1 = t_ ∧ f_ 2 = AV.ptr b2 0 ∧ f_ 5 = v ∧ f_ 7 = AV.lit (.int .i32 (n)) ∧ f_ 30 = sl_Int_i32 (values) ∧ f_ 31 = AV.int (((values.length : Nat) : Int)) ∧ f_ 32 = AV.int (((k : Nat) : Int))) (fun M hM => ?_) (fun fr8 τz5 hm => ?_)
  ·simp [go_sem, f2, f30, f31, f32, f33, f5, gb2, xln, xdn]
   refine (hM _ _).2 ⟨rfl, ?_, ?_, ?_, ?_, ?_, ?_⟩ <;> simp [go_sem, f2, f30, f31, f32, f33, f5, gb2, xln, xdn]
  clear f2 f30 f31 f32 f33 f5
  obtain ⟨rfl, f2, f5, f7, f30, f31, f32⟩ := hm
  obtain ⟨a, ha, hbi⟩ := obind hbi
  obtain ⟨la, ea⟩ := catL_spec ha
  refine SW.regX (fun f_ t_ => ∃ v1 : AV, f_ 2 = AV.ptr b2 0 ∧ f_ 5 = v1 ∧ f_ 30 = sl_Int_i32 (values) ∧ f_ 31 = AV.int (((values.length : Nat) : Int)) ∧ f_ 32 = AV.int (((k : Nat) : Int)) ∧ Kept σ0 t_ ∧ σ0.next ≤ t_.next ∧ t_.get b2 = some [AV.int (x.var), AV.int (x.add)] ∧ b2 < t_.next ∧ ArrAt σ0.next t_ v1 3 (a.map AV.int) a.length 1 ∧ (∀ i, idOf v1 = some i → ¬ i = b2)) (fun M hM => ?_) (fun fr9 τ2 hm => ?_)
  ·have nb2_0 : ¬ b2 = τ1.next := by omega
   have nb2_1 : ¬ b2 = τ1.next + 1 := by omega
   have zv := av
   rcases zv with ⟨rfl, nv, mv⟩ | ⟨ov, rfl, gov, tov, lov, hiv⟩
   ·simp [go_sem, f2, f30, f31, f32, f5, f7, gb2, nb2_0, nb2_1, nv, mv]
    refine (hM _ _).2 ⟨AV.arr (τ1.next + 1) 0 a.length 1, ?_, ?_, ?_, ?_, ?_, by intro j hj; have hj_ := hK j hj; simp [go_sem, hj_.1, hj_.2, show ¬ j = τ1.next by omega, show ¬ j = τ1.next + 1 by omega], by first | omega | (simp [go_sem]; done) | (simp [go_sem]; omega), by simp (disch := omega) [get_alloc_ne, get_set_ne, get_kill_ne, go_sem, f2, f30, f31, f32, f5, f7, gb2, nb2_0, nb2_1, nv, mv, ea], by first | omega | (simp [go_sem]; done) | (simp [go_sem]; omega), .inr ⟨(τ1.next + 1), rfl, by simp (disch := omega) [get_alloc_ne, get_set_ne, get_kill_ne, go_sem, f2, f30, f31, f32, f5, f7, gb2, nb2_0, nb2_1, nv, mv, ea], by simp [go_sem, f2, f30, f31, f32, f5, f7, gb2, nb2_0, nb2_1, nv, mv, ea], by omega, by first | (simp [go_sem]; done) | (simp [go_sem]; omega)⟩, by intro i hi; first | (simp [idOf] at hi; done) | (simp [idOf] at hi; omega)⟩ <;> simp [go_sem, f2, f30, f31, f32, f5, f7, gb2, nb2_0, nb2_1, nv, mv, ea]
   ·have nv_0 : ¬ ov = τ1.next := by omega
    have nv_1 : ¬ ov = τ1.next + 1 := by omega
    have nv_b2 : ¬ ov = b2 := evb2 _ rfl
    have nb2_v : ¬ b2 = ov := fun e => evb2 _ rfl e.symm
    have ca_0 : l.length ≤ 9223372036854775806 := by have c_ := la; (try simp at c_); omega
    have ca_1 : (l.length + 1) * 8 ≤ 140737488355328 := by have c_ := la; (try simp at c_); omega
    simp [go_sem, f2, f30, f31, f32, f5, f7, gb2, nb2_0, nb2_1, gov, tov, nv_0, nv_1, nv_b2, nb2_v, ca_0, ca_1]
    refine (hM _ _).2 ⟨AV.arr (τ1.next + 1) 0 a.length 1, ?_, ?_, ?_, ?_, ?_, by intro j hj; have hj_ := hK j hj; simp [go_sem, hj_.1, hj_.2, show ¬ j = τ1.next by omega, show ¬ j = τ1.next + 1 by omega, show ¬ j = ov by omega], by first | omega | (simp [go_sem]; done) | (simp [go_sem]; omega), by simp (disch := omega) [get_alloc_ne, get_set_ne, get_kill_ne, go_sem, f2, f30, f31, f32, f5, f7, gb2, nb2_0, nb2_1, gov, tov, nv_0, nv_1, nv_b2, nb2_v, ca_0, ca_1, ea], by first | omega | (simp [go_sem]; done) | (simp [go_sem]; omega), .inr ⟨(τ1.next + 1), rfl, by simp (disch := omega) [get_alloc_ne, get_set_ne, get_kill_ne, go_sem, f2, f30, f31, f32, f5, f7, gb2, nb2_0, nb2_1, gov, tov, nv_0, nv_1, nv_b2, nb2_v, ca_0, ca_1, ea], by simp [go_sem, f2, f30, f31, f32, f5, f7, gb2, nb2_0, nb2_1, gov, tov, nv_0, nv_1, nv_b2, nb2_v, ca_0, ca_1, ea], by omega, by first | (simp [go_sem]; done) | (simp [go_sem]; omega)⟩, by intro i hi; first | (simp [idOf] at hi; done) | (simp [idOf] at hi; omega)⟩ <;> simp [go_sem, f2, f30, f31, f32, f5, f7, gb2, nb2_0, nb2_1, gov, tov, nv_0, nv_1, nv_b2, nb2_v, ca_0, ca_1, ea]
  clear f2 f30 f31 f32 f5 f7 hK hN gb2 ub2 av
  obtain ⟨v1, f2, f5, f30, f31, f32, hK, hN, gb2, ub2, av1, ev1b2⟩ := hm
  refine SW.blk ?_
  refine SW.regX (fun f_ t_ => τ2 = t_ ∧ f_ 2 = AV.ptr b2 0 ∧ f_ 5 = v1 ∧ f_ 30 = sl_Int_i32 (values) ∧ f_ 31 = AV.int (((values.length : Nat) : Int)) ∧ f_ 32 = AV.int (((k + 1 : Nat) : Int))) (fun M hM => ?_) (fun fr10 τz6 hm => ?_)
  ·simp [go_sem, f2, f30, f31, f32, f5, gb2, hwk]
   refine (hM _ _).2 ⟨rfl, ?_, ?_, ?_, ?_, ?_⟩ <;> simp [go_sem, f2, f30, f31, f32, f5, gb2, hwk]
  clear f2 f30 f31 f32 f5
  obtain ⟨rfl, f2, f5, f30, f31, f32⟩ := hm
  obtain rfl := Option.some.inj hbi
  exact SW.goal ⟨values.length - (k + 1), by omega, (hJi _ _ _).2 ⟨k + 1, a, v1, rfl, hci, f2, f5, f30, f31, f32, hK, hN, gb2, ub2, av1, ev1b2⟩⟩
 intro fr11 τ3 hm
 rw [hKLi] at hm
 clear hKLi hruni
 clear f2 f30 f31 f32 f5 hK hN gb2 ub2
 obtain ⟨l, v, rfl, f2, f5, hK, hN, gb2, ub2, av, evb2⟩ := hm
 simp only [Out.on] at hoi
 refine SW.seq ?_
 obtain ⟨rx, hrx, hoi⟩ := obind hoi
 obtain ⟨rx1, hrx1, hoi⟩ := obind hoi
 refine SW.regX (fun f_ t_ => f_ 2 = AV.ptr b2 0 ∧ f_ 5 = v ∧ f_ 8 = AV.int (rx1.1) ∧ f_ 9 = AV.int (rx1.2) ∧ Kept σ0 t_ ∧ σ0.next ≤ t_.next ∧ t_.get b2 = some [AV.int (x.var), AV.int (x.add)] ∧ b2 < t_.next ∧ ArrAt σ0.next t_ v 3 (l.map AV.int) l.length 1) (fun M hM => ?_) (fun fr12 τ4 hm => ?_)
 ·have zv := av
  rcases zv with ⟨rfl, nv, mv⟩ | ⟨ov, rfl, gov, tov, lov, hiv⟩
  ·refine EW_regionY τ3 9 (.q false 0 (.q false 1 (.s 2 (.s 3 (.q false 4 (.q false 5 (.q false 6 (.q false 7 (.q false 8 .done))))))))) (by kernel_rfl) (by kernel_rfl) (fun _ _ h => h) (fun hfin => ?_)
   have hsub : Sub τ3 τ3 := (fun _ _ h => h)
   have nz_τ3 := Nat.le_refl τ3.next
   simp (maxDischargeDepth := 12) [go_sem, f2, f5, gb2, nv, mv, sub_set, sub_killAll, hsub]
   refine ⟨_, callA_own_args (fun σ => o_slices_CloneO_int l _ hrx σ) (frzL_c (ArrAt.frzle av (Nat.zero_le _) (DataL.map (fun _ => .lit _) l)) (frzL_n)) (os_slices_CloneO_int _), ?_⟩
   rintro xq τc ⟨⟨v2, hxq, av2⟩, kc, nc⟩
   have nz_τc := Nat.le_trans nz_τ3 nc
   obtain rfl := hxq.symm
   have ks := kc
   have hsub : Sub τ3 τc := fun i cs h_ => ks.sub hfin i cs ((fun _ _ h => h) i cs h_)
   refine ⟨hsub, ?_⟩
   have hK := hK.trans kc hN
   have hN := Nat.le_trans hN nc
   have ev2b2 : ∀ i, idOf v2 = some i → ¬ i = b2 := fun i hi => by have := arrAt_lt av2 i hi; omega
   have ev2v := apart_of av2 av (by omega)
   have av := av.same' nc (fun i hi => kc i (arrAt_lt av i hi).2)
   have av2 := av2.lo (n1 := σ0.next) (by omega)
   have gb2 := (kc b2 ub2).1.trans gb2
   have ub2 := Nat.lt_of_lt_of_le ub2 nc
   simp [go_sem, f2, f5, gb2, nv, mv, sub_set, sub_killAll, hsub]
   refine EWzc_frz (w_attribute_Term x rx _ hrx1) rfl (frzL_c (frz_aggL (frzL_c (.lit _) (frzL_c (.lit _) (frzL_n)))) (frzL_c (ArrAt.frzle av2 (Nat.zero_le _) (DataL.map (fun _ => .lit _) rx)) (frzL_n))) (by first | exact hsub | simp (maxDischargeDepth := 12) [go_sem, f2, f5, gb2, nv, mv, sub_set, sub_killAll, hsub]) ?_
   simp (maxDischargeDepth := 12) [go_sem, f2, f5, gb2, nv, mv, sub_set, sub_killAll, hsub]
   refine (hM _ _).2 ⟨?_, ?_, ?_, ?_, by intro j hj; have hj_ := hK j hj; simp [go_sem, hj_.1, hj_.2], by first | omega | (simp [go_sem]; done) | (simp [go_sem]; omega), by simp (disch := omega) [get_alloc_ne, get_set_ne, get_kill_ne, go_sem, f2, f5, gb2, nv, mv, sub_set, sub_killAll, hsub], by first | omega | (simp [go_sem]; done) | (simp [go_sem]; omega), av⟩ <;> simp [go_sem, f2, f5, gb2, nv, mv, sub_set, sub_killAll, hsub]
  ·have nv_b2 : ¬ ov = b2 := evb2 _ rfl
   have nb2_v : ¬ b2 = ov := fun e => evb2 _ rfl e.symm
   refine EW_regionY τ3 9 (.q false 0 (.q false 1 (.s 2 (.s 3 (.q false 4 (.q false 5 (.q false 6 (.q false 7 (.q false 8 .done))))))))) (by kernel_rfl) (by kernel_rfl) (fun _ _ h => h) (fun hfin => ?_)
   have hsub : Sub τ3 τ3 := (fun _ _ h => h)
   have nz_τ3 := Nat.le_refl τ3.next
   simp (maxDischargeDepth := 12) [go_sem, f2, f5, gb2, gov, tov, nv_b2, nb2_v, sub_set, sub_killAll, hsub]
   refine ⟨_, callA_own_args (fun σ => o_slices_CloneO_int l _ hrx σ) (frzL_c (ArrAt.frzle av (Nat.zero_le _) (DataL.map (fun _ => .lit _) l)) (frzL_n)) (os_slices_CloneO_int _), ?_⟩
   rintro xq τc ⟨⟨v2, hxq, av2⟩, kc, nc⟩
   have nz_τc := Nat.le_trans nz_τ3 nc
   obtain rfl := hxq.symm
   have ks := kc
   have hsub : Sub τ3 τc := fun i cs h_ => ks.sub hfin i cs ((fun _ _ h => h) i cs h_)
   refine ⟨hsub, ?_⟩
   have hK := hK.trans kc hN
   have hN := Nat.le_trans hN nc
   have ev2b2 : ∀ i, idOf v2 = some i → ¬ i = b2 := fun i hi => by have := arrAt_lt av2 i hi; omega
   have ev2v := apart_of av2 av (by omega)
   have av := av.same' nc (fun i hi => kc i (arrAt_lt av i hi).2)
   have av2 := av2.lo (n1 := σ0.next) (by omega)
   have gb2 := (kc b2 ub2).1.trans gb2
   have ub2 := Nat.lt_of_lt_of_le ub2 nc
   simp [go_sem, f2, f5, gb2, gov, tov, nv_b2, nb2_v, sub_set, sub_killAll, hsub]
   refine EWzc_frz (w_attribute_Term x rx _ hrx1) rfl (frzL_c (frz_aggL (frzL_c (.lit _) (frzL_c (.lit _) (frzL_n)))) (frzL_c (ArrAt.frzle av2 (Nat.zero_le _) (DataL.map (fun _ => .lit _) rx)) (frzL_n))) (by first | exact hsub | simp (maxDischargeDepth := 12) [go_sem, f2, f5, gb2, gov, tov, nv_b2, nb2_v, sub_set, sub_killAll, hsub]) ?_
   simp (maxDischargeDepth := 12) [go_sem, f2, f5, gb2, gov, tov, nv_b2, nb2_v, sub_set, sub_killAll, hsub]
   refine (hM _ _).2 ⟨?_, ?_, ?_, ?_, by intro j hj; have hj_ := hK j hj; simp [go_sem, hj_.1, hj_.2], by first | omega | (simp [go_sem]; done) | (simp [go_sem]; omega), by simp (disch := omega) [get_alloc_ne, get_set_ne, get_kill_ne, go_sem, f2, f5, gb2, gov, tov, nv_b2, nb2_v, sub_set, sub_killAll, hsub], by first | omega | (simp [go_sem]; done) | (simp [go_sem]; omega), av⟩ <;> simp [go_sem, f2, f5, gb2, gov, tov, nv_b2, nb2_v, sub_set, sub_killAll, hsub]
 clear f2 f5 hK hN gb2 ub2 av
 obtain ⟨f2, f5, f8, f9, hK, hN, gb2, ub2, av⟩ := hm
 refine SW.seq ?_
 obtain ⟨rx2, hrx2, hoi⟩ := obind hoi
 refine SW.regX (fun f_ t_ => τ4 = t_ ∧ f_ 8 = AV.int (rx1.1) ∧ f_ 9 = AV.int (rx1.2) ∧ f_ 10 = AV.int (rx2.1) ∧ f_ 11 = AV.int (rx2.2)) (fun M hM => ?_) (fun fr13 τz7 hm => ?_)
 ·have zv := av
  rcases zv with ⟨rfl, nv, mv⟩ | ⟨ov, rfl, gov, tov, lov, hiv⟩
  ·simp [go_sem, f2, f5, f8, f9, gb2, nv, mv]
   refine EWcall_frz (w_ref21_Term x l _ hrx2) rfl (frzL_c (frz_aggL (frzL_c (.lit _) (frzL_c (.lit _) (frzL_n)))) (frzL_c (ArrAt.frzle av (Nat.zero_le _) (DataL.map (fun _ => .lit _) l)) (frzL_n))) ?_
   simp [go_sem, f2, f5, f8, f9, gb2, nv, mv]
   refine (hM _ _).2 ⟨rfl, ?_, ?_, ?_, ?_⟩ <;> simp [go_sem, f2, f5, f8, f9, gb2, nv, mv]
  ·simp [go_sem, f2, f5, f8, f9, gb2, gov, tov]
   refine EWcall_frz (w_ref21_Term x l _ hrx2) rfl (frzL_c (frz_aggL (frzL_c (.lit _) (frzL_c (.lit _) (frzL_n)))) (frzL_c (ArrAt.frzle av (Nat.zero_le _) (DataL.map (fun _ => .lit _) l)) (frzL_n))) ?_
   simp [go_sem, f2, f5, f8, f9, gb2, gov, tov]
   refine (hM _ _).2 ⟨rfl, ?_, ?_, ?_, ?_⟩ <;> simp [go_sem, f2, f5, f8, f9, gb2, gov, tov]
 clear f2 f5 f8 f9
 obtain ⟨rfl, f8, f9, f10, f11⟩ := hm
 refine SW.seq ?_
 refine SW.regX (fun f_ t_ => τ4 = t_ ∧ f_ 4 = AV.bool ((((decide (rx1.1 = rx2.1))) && ((decide (rx1.2 = rx2.2)))))) (fun M hM => ?_) (fun fr14 τz8 hm => ?_)
 ·rcases Bool.eq_false_or_eq_true ((decide (rx1.1 = rx2.1))) with y0 | y0
  ·have y0' := y0
   try simp at y0'
   simp [go_sem, f10, f11, f8, f9, y0, y0']
   refine (hM _ _).2 ⟨rfl, ?_⟩ <;> simp [go_sem, f10, f11, f8, f9, y0, y0']
  ·have y0' := y0
   try simp at y0'
   simp [go_sem, f10, f11, f8, f9, y0, y0']
   refine (hM _ _).2 ⟨rfl, ?_⟩ <;> simp [go_sem, f10, f11, f8, f9, y0, y0']
 clear f10 f11 f8 f9
 obtain ⟨rfl, f4⟩ := hm
 obtain rfl := Option.some.inj hoi
 exact SW.ret ⟨AV.bool ((((decide (rx1.1 = rx2.1))) && ((decide (rx1.2 = rx2.2))))), by simp [go_sem, f4], .lit _, hK.keeps⟩
end Go.Proofs.YtippinddoldhkaaGreat
