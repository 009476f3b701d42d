/-
  Plain functions and the walks that lead to them, by a program of ours (gen.py): scarfjoint/scarfjointlaw17.awake, scarfjoint/scarfjointref04.Below1.
-/
import Derived.Test.YtdacgjleiloooaaGreatGd
import Derived.Test.YtdacgjleiloooaaGreatGT
import Derived.Test.YtdacgjleiloooaaGreatB3
import Derived.Test.YtdacgjleiloooaaGreatGS
import Derived.Test.YtdacgjleiloooaaGreatGa1
import Derived.Test.YtdacgjleiloooaaGreatGa2
import Derived.Test.YtdacgjleiloooaaGreatGa4
set_option linter.unusedSimpArgs false
set_option linter.unusedVariables false
namespace Go.Proofs.YtdacgjleiloooaaGreat
open Go Go.Ew Go.Proofs Go.RowKit
set_option maxRecDepth 100000
set_option maxHeartbeats 4000000 in
theorem w_law17_awake (r : (Bool)) (h : s_law17_awake = some r) : PureA Tryz.prog 9 [] (AV.bool (r)) := by
 refine pureA_of_SW (N := 64) Tryz.func9 (by kernel_rfl) rfl (by rw [Tryz.ntmps9]; rfl) (fun σ0 => ?_)
 rw [Tryz.results9]
 obtain ⟨fr0, hfr⟩ : ∃ fr, fr = initFr [] := ⟨_, rfl⟩
 rw [← hfr]
 clear hfr
 simp only [s_law17_awake] at h
 refine SW.seq ?_
 refine SW.regX (fun f_ t_ => σ0 = t_) (fun M hM => ?_) (fun fr1 τz hm => ?_)
 ·simp [go_sem]
  exact (hM _ _).2 (rfl)
 obtain ⟨rfl⟩ := hm
 refine SW.seq ?_
 obtain ⟨rx, hrx, h⟩ := obind h
 refine SW.regX (fun f_ t_ => ∃ b1 : Nat, ∃ b2 : Nat, ∃ v : AV, f_ 1 = AV.ptr b1 0 ∧ f_ 2 = AV.ptr b2 0 ∧ Kept σ0 t_ ∧ σ0.next ≤ t_.next ∧ t_.get b1 = some [nodesA (rx.nodes), edgesA (rx.edges)] ∧ b1 < t_.next ∧ t_.get b2 = some [v, AV.nils] ∧ b2 < t_.next ∧ ArrAt σ0.next t_ v 3 ((([0, 0] : List Int)).map AV.int) (([0, 0] : List Int)).length 1 ∧ σ0.next ≤ b1 ∧ (∀ i, idOf v = some i → ¬ i = b1) ∧ σ0.next ≤ b2 ∧ ¬ b1 = b2 ∧ (∀ i, idOf v = some i → ¬ i = b2)) (fun M hM => ?_) (fun fr2 τ hm => ?_)
 ·simp [go_sem]
  refine EWcall_pure (w_ref04_Example _ hrx) ?_
  simp [go_sem]
  refine (hM _ _).2 ⟨(σ0.next + 1), (σ0.next + 2), AV.arr σ0.next 0 (([0, 0] : List Int)).length 1, ?_, ?_, by intro j hj; simp [go_sem, show ¬ j = σ0.next by omega, show ¬ j = σ0.next + 1 by omega, show ¬ j = σ0.next + 2 by omega], by first | omega | (simp [go_sem]; done) | (simp [go_sem]; omega), by simp (disch := omega) [get_alloc_ne, get_set_ne, get_kill_ne, go_sem], by first | omega | (simp [go_sem]; done) | (simp [go_sem]; omega), by simp (disch := omega) [get_alloc_ne, get_set_ne, get_kill_ne, go_sem], by first | omega | (simp [go_sem]; done) | (simp [go_sem]; omega), .inr ⟨σ0.next, rfl, by simp (disch := omega) [get_alloc_ne, get_set_ne, get_kill_ne, go_sem], by simp [go_sem], by omega, by first | (simp [go_sem]; done) | (simp [go_sem]; omega)⟩, by omega, by intro i hi; first | (simp [idOf] at hi; done) | (simp [idOf] at hi; omega), by omega, by omega, by intro i hi; first | (simp [idOf] at hi; done) | (simp [idOf] at hi; omega)⟩ <;> simp [go_sem]
 obtain ⟨b1, b2, v, f1, f2, hK, hN, gb1, ub1, gb2, ub2, av, wb1, evb1, wb2, eb1b2, evb2⟩ := hm
 refine SW.seq ?_
 refine SW.frzB b2 0 av gb2 rfl (fun h => evb2 _ h rfl) ?_
 obtain ⟨τ1, hτ⟩ : ∃ x, x = (τ.killA v).set b2 ([v, AV.nils].set 0 (AV.imm (([0, 0] : List Int)).length ((([0, 0] : List Int)).map AV.int))) := ⟨_, rfl⟩
 rw [← hτ]
 have hK : Kept σ0 τ1 := by rw [hτ]; exact (hK.killA av).set wb2
 have hN : σ0.next ≤ τ1.next := by rw [hτ]; simp only [next_set, killA_next]; exact hN
 have gb1 : τ1.get b1 = some [nodesA (rx.nodes), edgesA (rx.edges)] := by rw [hτ, get_set, if_neg (by first | exact eb1b2 | exact fun e => eb2b1 e.symm), killA_get _ _ (fun h => evb1 _ h rfl)]; exact gb1
 have ub1 : b1 < τ1.next := by rw [hτ]; simp only [next_set, killA_next]; exact ub1
 have gb2 : τ1.get b2 = some [intsA (([0, 0] : List Int)), AV.nils] := by rw [hτ, get_set, if_pos rfl]; rfl
 have ub2 : b2 < τ1.next := by rw [hτ]; simp only [next_set, killA_next]; exact ub2
 clear hτ
 obtain ⟨rx3, hrx3, h⟩ := obind h
 obtain ⟨rx4, hrx4, h⟩ := obind h
 refine SW.regX (fun f_ t_ => τ1 = t_ ∧ f_ 1 = AV.ptr b1 0 ∧ f_ 2 = AV.ptr b2 0 ∧ f_ 3 = morphsA (rx4.1) ∧ f_ 4 = AV.int (rx4.2)) (fun M hM => ?_) (fun fr4 τz1 hm => ?_)
 ·refine EW_regionY τ1 9 (.q false 0 (.q false 1 (.q true 2 (.s 3 (.q false 4 (.q false 5 (.q false 6 (.q false 7 (.q false 8 .done))))))))) (by kernel_rfl) (by kernel_rfl) (fun _ _ h => h) (fun hfin => ?_)
  have hsub : Sub τ1 τ1 := (fun _ _ h => h)
  simp (maxDischargeDepth := 12) [go_sem, f1, f2, gb1, gb2, sub_set, sub_killAll, hsub]
  refine EWzp_pure (w_law17_bank _ hrx3) ?_
  simp (maxDischargeDepth := 12) [go_sem, f1, f2, gb1, gb2, sub_set, sub_killAll, hsub]
  refine EWzc_frzN (w_search_All rx (⟨([0, 0] : List Int), ([] : List E3)⟩ : Graph) rx3 true _ hrx4) (frzL_c (frz_aggL (frzL_c ((DataA.imm (DataL.flatMap gd_nodeC rx.nodes)) _ _) (frzL_c ((DataA.imm (DataL.flatMap gd_edgeC rx.edges)) _ _) (frzL_n)))) (frzL_c (frz_aggL (frzL_c ((DataA.imm (DataL.map (fun _ => .lit _) (([0, 0] : List Int)))) _ _) (frzL_c (.nils) (frzL_n)))) (frzL_c (frz_aggL (frzL_c ((DataA.imm (DataL.map (fun _ => .lit _) rx3.nodes)) _ _) (frzL_c ((DataA.imm (DataL.flatMap gd_e3C rx3.edges)) _ _) (frzL_n)))) (frzL_c (.lit _) (frzL_n))))) (by first | exact hsub | simp (maxDischargeDepth := 12) [go_sem, f1, f2, gb1, gb2, sub_set, sub_killAll, hsub]) ?_
  simp (maxDischargeDepth := 12) [go_sem, f1, f2, gb1, gb2, sub_set, sub_killAll, hsub]
  refine (hM _ _).2 ⟨rfl, ?_, ?_, ?_, ?_⟩ <;> simp [go_sem, f1, f2, gb1, gb2, sub_set, sub_killAll, hsub]
 clear f1 f2
 obtain ⟨rfl, f1, f2, f3, f4⟩ := hm
 refine SW.seq ?_
 obtain ⟨rx5, hrx5, h⟩ := obind h
 obtain ⟨rx6, hrx6, h⟩ := obind h
 refine SW.regX (fun f_ t_ => τ1 = t_ ∧ f_ 1 = AV.ptr b1 0 ∧ f_ 2 = AV.ptr b2 0 ∧ f_ 3 = morphsA (rx4.1) ∧ f_ 4 = AV.int (rx4.2) ∧ f_ 5 = AV.int (rx6.1) ∧ f_ 6 = AV.int (rx6.2)) (fun M hM => ?_) (fun fr5 τz2 hm => ?_)
 ·refine EW_regionY τ1 9 (.q false 0 (.q false 1 (.q true 2 (.s 3 (.q false 4 (.q false 5 (.q false 6 (.q false 7 (.q false 8 .done))))))))) (by kernel_rfl) (by kernel_rfl) (fun _ _ h => h) (fun hfin => ?_)
  have hsub : Sub τ1 τ1 := (fun _ _ h => h)
  simp (maxDischargeDepth := 12) [go_sem, f1, f2, f3, f4, gb1, gb2, sub_set, sub_killAll, hsub]
  refine EWzp_pure (w_law17_bank _ hrx5) ?_
  simp (maxDischargeDepth := 12) [go_sem, f1, f2, f3, f4, gb1, gb2, sub_set, sub_killAll, hsub]
  refine EWzc_frz (w_search_Count rx (⟨([0, 0] : List Int), ([] : List E3)⟩ : Graph) rx5 false _ hrx6) rfl (frzL_c (frz_aggL (frzL_c ((DataA.imm (DataL.flatMap gd_nodeC rx.nodes)) _ _) (frzL_c ((DataA.imm (DataL.flatMap gd_edgeC rx.edges)) _ _) (frzL_n)))) (frzL_c (frz_aggL (frzL_c ((DataA.imm (DataL.map (fun _ => .lit _) (([0, 0] : List Int)))) _ _) (frzL_c (.nils) (frzL_n)))) (frzL_c (frz_aggL (frzL_c ((DataA.imm (DataL.map (fun _ => .lit _) rx5.nodes)) _ _) (frzL_c ((DataA.imm (DataL.flatMap gd_e3C rx5.edges)) _ _) (frzL_n)))) (frzL_c (.lit _) (frzL_n))))) (by first | exact hsub | simp (maxDischargeDepth := 12) [go_sem, f1, f2, f3, f4, gb1, gb2, sub_set, sub_killAll, hsub]) ?_
  simp (maxDischargeDepth := 12) [go_sem, f1, f2, f3, f4, gb1, gb2, sub_set, sub_killAll, hsub]
  refine (hM _ _).2 ⟨rfl, ?_, ?_, ?_, ?_, ?_, ?_⟩ <;> simp [go_sem, f1, f2, f3, f4, gb1, gb2, sub_set, sub_killAll, hsub]
 clear f1 f2 f3 f4
 obtain ⟨rfl, f1, f2, f3, f4, f5, f6⟩ := hm
 refine SW.seq ?_
 obtain ⟨rx7, hrx7, h⟩ := obind h
 obtain ⟨rx8, hrx8, h⟩ := obind h
 refine SW.regX (fun f_ t_ => ∃ b7 : Nat, f_ 3 = morphsA (rx4.1) ∧ f_ 4 = AV.int (rx4.2) ∧ f_ 5 = AV.int (rx6.1) ∧ f_ 6 = AV.int (rx6.2) ∧ f_ 7 = AV.ptr b7 0 ∧ f_ 8 = AV.int (rx8.2) ∧ Kept σ0 t_ ∧ σ0.next ≤ t_.next ∧ t_.get b7 = some [intsA (rx8.1.nodes), e3sA (rx8.1.edges)] ∧ b7 < t_.next ∧ σ0.next ≤ b7) (fun M hM => ?_) (fun fr6 τ2 hm => ?_)
 ·have nb1_0 : ¬ b1 = τ1.next := by omega
  have nb1_1 : ¬ b1 = τ1.next + 1 := by omega
  have nb2_0 : ¬ b2 = τ1.next := by omega
  have nb2_1 : ¬ b2 = τ1.next + 1 := by omega
  have nb1_b2 : ¬ b1 = b2 := by omega
  have nb2_b1 : ¬ b2 = b1 := by omega
  refine EW_regionY τ1 12 (.q false 0 (.q false 1 (.q true 2 (.both (.s 3 (.q false 4 (.both (.s 5 (.q false 6 (.q false 7 (.q false 8 (.s 9 (.s 10 (.q false 11 .done))))))) (.s 9 (.s 5 (.q false 6 (.q false 7 (.q false 8 (.s 10 (.q false 11 .done)))))))))) (.s 9 (.s 3 (.q false 4 (.s 5 (.q false 6 (.q false 7 (.q false 8 (.s 10 (.q false 11 .done))))))))))))) (by kernel_rfl) (by kernel_rfl) (fun _ _ h => h) (fun hfin => ?_)
  have m0_ : τ1.get (τ1.next) = none := hfin _ (by omega)
  have m1_ : τ1.get (τ1.next + 1) = none := hfin _ (by omega)
  have hsub : Sub τ1 τ1 := (fun _ _ h => h)
  simp (maxDischargeDepth := 12) [go_sem, f1, f2, f3, f4, f5, f6, gb1, gb2, nb1_0, nb1_1, nb2_0, nb2_1, nb1_b2, nb2_b1, m0_, m1_, sub_set, sub_killAll, hsub]
  refine EWzp_pure (w_law17_bank _ hrx7) ?_
  simp (maxDischargeDepth := 12) [go_sem, f1, f2, f3, f4, f5, f6, gb1, gb2, nb1_0, nb1_1, nb2_0, nb2_1, nb1_b2, nb2_b1, m0_, m1_, sub_set, sub_killAll, hsub]
  refine ⟨?_, ?_⟩
  ·refine ⟨?_, ?_⟩
   ·refine EWzc_kill [τ1.next] (w_search_Instance rx (⟨([0, 0] : List Int), ([] : List E3)⟩ : Graph) rx7 (⟨([1, 2] : List Int), ([] : List Int)⟩ : Morph) _ hrx8) (frzSL_c (.keep _) (frzSL_c (.aggL (frzSL_c (.keep _) (frzSL_c (.nil) (frzSL_n)))) (frzSL_c (.keep _) (frzSL_c (.aggL (frzSL_c (.arrL (cs := [AV.int (1), AV.int (2)]) (by simp) (by first | (simp [go_sem, f1, f2, f3, f4, f5, f6, gb1, gb2, nb1_0, nb1_1, nb2_0, nb2_1, nb1_b2, nb2_b1, m0_, m1_, sub_set, sub_killAll, hsub]; done) | (simp [go_sem, f1, f2, f3, f4, f5, f6, gb1, gb2, nb1_0, nb1_1, nb2_0, nb2_1, nb1_b2, nb2_b1, m0_, m1_, sub_set, sub_killAll, hsub]; rfl)) (frzSL_c (.keep _) (frzSL_c (.keep _) (frzSL_n)))) (frzSL_c (.nil) (frzSL_n)))) (frzSL_n))))) (by simp (maxDischargeDepth := 12) [sub_killAll, go_sem, f1, f2, f3, f4, f5, f6, gb1, gb2, nb1_0, nb1_1, nb2_0, nb2_1, nb1_b2, nb2_b1, m0_, m1_, sub_set, sub_killAll, hsub]) ?_
    simp (maxDischargeDepth := 12) [go_sem, f1, f2, f3, f4, f5, f6, gb1, gb2, nb1_0, nb1_1, nb2_0, nb2_1, nb1_b2, nb2_b1, m0_, m1_, sub_set, sub_killAll, hsub]
    refine (hM _ _).2 ⟨(τ1.next + 1), ?_, ?_, ?_, ?_, ?_, ?_, by intro j hj; have hj_ := hK j hj; simp [go_sem, hj_.1, hj_.2, show ¬ j = τ1.next by omega, show ¬ j = τ1.next + 1 by omega], by first | omega | (simp [go_sem]; done) | (simp [go_sem]; omega), by simp (disch := omega) [get_alloc_ne, get_set_ne, get_kill_ne, go_sem, f1, f2, f3, f4, f5, f6, gb1, gb2, nb1_0, nb1_1, nb2_0, nb2_1, nb1_b2, nb2_b1, m0_, m1_, sub_set, sub_killAll, hsub], by first | omega | (simp [go_sem]; done) | (simp [go_sem]; omega), by omega⟩ <;> simp [go_sem, f1, f2, f3, f4, f5, f6, gb1, gb2, nb1_0, nb1_1, nb2_0, nb2_1, nb1_b2, nb2_b1, m0_, m1_, sub_set, sub_killAll, hsub]
   ·refine EWzc_kill [τ1.next] (w_search_Instance rx (⟨([0, 0] : List Int), ([] : List E3)⟩ : Graph) rx7 (⟨([1, 2] : List Int), ([] : List Int)⟩ : Morph) _ hrx8) (frzSL_c (.keep _) (frzSL_c (.aggL (frzSL_c (.keep _) (frzSL_c (.nil) (frzSL_n)))) (frzSL_c (.keep _) (frzSL_c (.aggL (frzSL_c (.arrL (cs := [AV.int (1), AV.int (2)]) (by simp) (by first | (simp [go_sem, f1, f2, f3, f4, f5, f6, gb1, gb2, nb1_0, nb1_1, nb2_0, nb2_1, nb1_b2, nb2_b1, m0_, m1_, sub_set, sub_killAll, hsub]; done) | (simp [go_sem, f1, f2, f3, f4, f5, f6, gb1, gb2, nb1_0, nb1_1, nb2_0, nb2_1, nb1_b2, nb2_b1, m0_, m1_, sub_set, sub_killAll, hsub]; rfl)) (frzSL_c (.keep _) (frzSL_c (.keep _) (frzSL_n)))) (frzSL_c (.nil) (frzSL_n)))) (frzSL_n))))) (by simp (maxDischargeDepth := 12) [sub_killAll, go_sem, f1, f2, f3, f4, f5, f6, gb1, gb2, nb1_0, nb1_1, nb2_0, nb2_1, nb1_b2, nb2_b1, m0_, m1_, sub_set, sub_killAll, hsub]) ?_
    simp (maxDischargeDepth := 12) [go_sem, f1, f2, f3, f4, f5, f6, gb1, gb2, nb1_0, nb1_1, nb2_0, nb2_1, nb1_b2, nb2_b1, m0_, m1_, sub_set, sub_killAll, hsub]
    refine (hM _ _).2 ⟨(τ1.next + 1), ?_, ?_, ?_, ?_, ?_, ?_, by intro j hj; have hj_ := hK j hj; simp [go_sem, hj_.1, hj_.2, show ¬ j = τ1.next by omega, show ¬ j = τ1.next + 1 by omega], by first | omega | (simp [go_sem]; done) | (simp [go_sem]; omega), by simp (disch := omega) [get_alloc_ne, get_set_ne, get_kill_ne, go_sem, f1, f2, f3, f4, f5, f6, gb1, gb2, nb1_0, nb1_1, nb2_0, nb2_1, nb1_b2, nb2_b1, m0_, m1_, sub_set, sub_killAll, hsub], by first | omega | (simp [go_sem]; done) | (simp [go_sem]; omega), by omega⟩ <;> simp [go_sem, f1, f2, f3, f4, f5, f6, gb1, gb2, nb1_0, nb1_1, nb2_0, nb2_1, nb1_b2, nb2_b1, m0_, m1_, sub_set, sub_killAll, hsub]
  ·refine EWzc_kill [(τ1.next + 1)] (w_search_Instance rx (⟨([0, 0] : List Int), ([] : List E3)⟩ : Graph) rx7 (⟨([1, 2] : List Int), ([] : List Int)⟩ : Morph) _ hrx8) (frzSL_c (.keep _) (frzSL_c (.aggL (frzSL_c (.keep _) (frzSL_c (.nil) (frzSL_n)))) (frzSL_c (.keep _) (frzSL_c (.aggL (frzSL_c (.arrL (cs := [AV.int (1), AV.int (2)]) (by simp) (by first | (simp [go_sem, f1, f2, f3, f4, f5, f6, gb1, gb2, nb1_0, nb1_1, nb2_0, nb2_1, nb1_b2, nb2_b1, m0_, m1_, sub_set, sub_killAll, hsub]; done) | (simp [go_sem, f1, f2, f3, f4, f5, f6, gb1, gb2, nb1_0, nb1_1, nb2_0, nb2_1, nb1_b2, nb2_b1, m0_, m1_, sub_set, sub_killAll, hsub]; rfl)) (frzSL_c (.keep _) (frzSL_c (.keep _) (frzSL_n)))) (frzSL_c (.nil) (frzSL_n)))) (frzSL_n))))) (by simp (maxDischargeDepth := 12) [sub_killAll, go_sem, f1, f2, f3, f4, f5, f6, gb1, gb2, nb1_0, nb1_1, nb2_0, nb2_1, nb1_b2, nb2_b1, m0_, m1_, sub_set, sub_killAll, hsub]) ?_
   simp (maxDischargeDepth := 12) [go_sem, f1, f2, f3, f4, f5, f6, gb1, gb2, nb1_0, nb1_1, nb2_0, nb2_1, nb1_b2, nb2_b1, m0_, m1_, sub_set, sub_killAll, hsub]
   refine (hM _ _).2 ⟨τ1.next, ?_, ?_, ?_, ?_, ?_, ?_, by intro j hj; have hj_ := hK j hj; simp [go_sem, hj_.1, hj_.2, show ¬ j = τ1.next by omega, show ¬ j = τ1.next + 1 by omega], by first | omega | (simp [go_sem]; done) | (simp [go_sem]; omega), by simp (disch := omega) [get_alloc_ne, get_set_ne, get_kill_ne, go_sem, f1, f2, f3, f4, f5, f6, gb1, gb2, nb1_0, nb1_1, nb2_0, nb2_1, nb1_b2, nb2_b1, m0_, m1_, sub_set, sub_killAll, hsub], by first | omega | (simp [go_sem]; done) | (simp [go_sem]; omega), by omega⟩ <;> simp [go_sem, f1, f2, f3, f4, f5, f6, gb1, gb2, nb1_0, nb1_1, nb2_0, nb2_1, nb1_b2, nb2_b1, m0_, m1_, sub_set, sub_killAll, hsub]
 clear f1 f2 f3 f4 f5 f6 hK hN gb1 ub1 gb2 ub2
 obtain ⟨b7, f3, f4, f5, f6, f7, f8, hK, hN, gb7, ub7, wb7⟩ := hm
 refine SW.seq ?_
 obtain ⟨c, hc, h⟩ := obind h
 refine SW.regX (fun f_ t_ => f_ 0 = AV.bool (c) ∧ Kept σ0 t_ ∧ σ0.next ≤ t_.next) (fun M hM => ?_) (fun fr7 τ3 hm => ?_)
 ·rcases Bool.eq_false_or_eq_true ((decide (rx4.2 = 0))) with y0 | y0
  ·have y0' := y0
   try simp at y0'
   have ky0 := condT hc y0
   obtain ⟨q, hq, ky0⟩ := obind ky0
   rcases Bool.eq_false_or_eq_true q with y2 | y2
   ·have y2' := y2
    try simp [y0'] at y2'
    have ky2 := condT ky0 y2
    rcases Bool.eq_false_or_eq_true ((decide (rx6.2 = 0))) with y4 | y4
    ·have y4' := y4
     try simp [y0', y2'] at y4'
     have ky4 := condT ky2 y4
     rcases Bool.eq_false_or_eq_true ((decide (rx6.1 = 4))) with y6 | y6
     ·have y6' := y6
      try simp [y0', y2', y4'] at y6'
      have ky6 := condT ky4 y6
      rcases Bool.eq_false_or_eq_true ((decide (rx8.2 = 0))) with y8 | y8
      ·have y8' := y8
       try simp [y0', y2', y4', y6'] at y8'
       have ky8 := condT ky6 y8
       obtain ⟨q1, hq1, ky8⟩ := obind ky8
       have ec := Option.some.inj ky8
       have nb7_0 : ¬ b7 = τ2.next := by omega
       have nb7_1 : ¬ b7 = τ2.next + 1 := by omega
       have nb7_2 : ¬ b7 = τ2.next + 2 := by omega
       have nb7_3 : ¬ b7 = τ2.next + 3 := by omega
       simp [go_sem, f3, f4, f5, f6, f7, f8, gb7, y0, y0', y2, y2', y4, y4', y6, y6', y8, y8', nb7_0, nb7_1, nb7_2, nb7_3]
       refine EWcall_frz (w_ref17_SameAll rx4.1 ([(⟨([1, 2] : List Int), ([] : List Int)⟩ : Morph), (⟨([2, 1] : List Int), ([] : List Int)⟩ : Morph)] : List Morph) _ hq) rfl (frzL_c ((DataA.imm (DataL.flatMap gd_morphC rx4.1)) _ _) (frzL_c (frz_arrL (cs := [AV.arr τ2.next 0 2 1, AV.nils, AV.arr (τ2.next + 1) 0 2 1, AV.nils]) (Nat.zero_le _) (by first | (simp [go_sem, f3, f4, f5, f6, f7, f8, gb7, y0, y0', y2, y2', y4, y4', y6, y6', y8, y8', nb7_0, nb7_1, nb7_2, nb7_3]; done) | (simp [go_sem, f3, f4, f5, f6, f7, f8, gb7, y0, y0', y2, y2', y4, y4', y6, y6', y8, y8', nb7_0, nb7_1, nb7_2, nb7_3]; rfl)) (frzL_c (frz_arrL (cs := [AV.int (1), AV.int (2)]) (Nat.zero_le _) (by first | (simp [go_sem, f3, f4, f5, f6, f7, f8, gb7, y0, y0', y2, y2', y4, y4', y6, y6', y8, y8', nb7_0, nb7_1, nb7_2, nb7_3]; done) | (simp [go_sem, f3, f4, f5, f6, f7, f8, gb7, y0, y0', y2, y2', y4, y4', y6, y6', y8, y8', nb7_0, nb7_1, nb7_2, nb7_3]; rfl)) (frzL_c (.lit _) (frzL_c (.lit _) (frzL_n)))) (frzL_c (.nils) (frzL_c (frz_arrL (cs := [AV.int (2), AV.int (1)]) (Nat.zero_le _) (by first | (simp [go_sem, f3, f4, f5, f6, f7, f8, gb7, y0, y0', y2, y2', y4, y4', y6, y6', y8, y8', nb7_0, nb7_1, nb7_2, nb7_3]; done) | (simp [go_sem, f3, f4, f5, f6, f7, f8, gb7, y0, y0', y2, y2', y4, y4', y6, y6', y8, y8', nb7_0, nb7_1, nb7_2, nb7_3]; rfl)) (frzL_c (.lit _) (frzL_c (.lit _) (frzL_n)))) (frzL_c (.nils) (frzL_n)))))) (frzL_n))) ?_
       simp [go_sem, f3, f4, f5, f6, f7, f8, gb7, y0, y0', y2, y2', y4, y4', y6, y6', y8, y8', nb7_0, nb7_1, nb7_2, nb7_3]
       refine EWcall_frz (w_slices_Equal_int rx8.1.nodes ([1, 1] : List Int) _ hq1) rfl (frzL_c ((DataA.imm (DataL.map (fun _ => .lit _) rx8.1.nodes)) _ _) (frzL_c (frz_arrL (cs := [AV.int (1), AV.int (1)]) (Nat.zero_le _) (by first | (simp [go_sem, f3, f4, f5, f6, f7, f8, gb7, y0, y0', y2, y2', y4, y4', y6, y6', y8, y8', nb7_0, nb7_1, nb7_2, nb7_3]; done) | (simp [go_sem, f3, f4, f5, f6, f7, f8, gb7, y0, y0', y2, y2', y4, y4', y6, y6', y8, y8', nb7_0, nb7_1, nb7_2, nb7_3]; rfl)) (frzL_c (.lit _) (frzL_c (.lit _) (frzL_n)))) (frzL_n))) ?_
       simp [go_sem, f3, f4, f5, f6, f7, f8, gb7, y0, y0', y2, y2', y4, y4', y6, y6', y8, y8', nb7_0, nb7_1, nb7_2, nb7_3]
       refine (hM _ _).2 ⟨?_, by intro j hj; have hj_ := hK j hj; simp [go_sem, hj_.1, hj_.2, show ¬ j = τ2.next by omega, show ¬ j = τ2.next + 1 by omega, show ¬ j = τ2.next + 2 by omega, show ¬ j = τ2.next + 3 by omega], by first | omega | (simp [go_sem]; done) | (simp [go_sem]; omega)⟩ <;> simp [go_sem, f3, f4, f5, f6, f7, f8, gb7, y0, y0', y2, y2', y4, y4', y6, y6', y8, y8', nb7_0, nb7_1, nb7_2, nb7_3, ← ec]
      ·have y8' := y8
       try simp [y0', y2', y4', y6'] at y8'
       have ky8 := condF ky6 y8
       have ec := Option.some.inj ky8
       simp [go_sem, f3, f4, f5, f6, f7, f8, gb7, y0, y0', y2, y2', y4, y4', y6, y6', y8, y8']
       refine EWcall_frz (w_ref17_SameAll rx4.1 ([(⟨([1, 2] : List Int), ([] : List Int)⟩ : Morph), (⟨([2, 1] : List Int), ([] : List Int)⟩ : Morph)] : List Morph) _ hq) rfl (frzL_c ((DataA.imm (DataL.flatMap gd_morphC rx4.1)) _ _) (frzL_c (frz_arrL (cs := [AV.arr τ2.next 0 2 1, AV.nils, AV.arr (τ2.next + 1) 0 2 1, AV.nils]) (Nat.zero_le _) (by first | (simp [go_sem, f3, f4, f5, f6, f7, f8, gb7, y0, y0', y2, y2', y4, y4', y6, y6', y8, y8']; done) | (simp [go_sem, f3, f4, f5, f6, f7, f8, gb7, y0, y0', y2, y2', y4, y4', y6, y6', y8, y8']; rfl)) (frzL_c (frz_arrL (cs := [AV.int (1), AV.int (2)]) (Nat.zero_le _) (by first | (simp [go_sem, f3, f4, f5, f6, f7, f8, gb7, y0, y0', y2, y2', y4, y4', y6, y6', y8, y8']; done) | (simp [go_sem, f3, f4, f5, f6, f7, f8, gb7, y0, y0', y2, y2', y4, y4', y6, y6', y8, y8']; rfl)) (frzL_c (.lit _) (frzL_c (.lit _) (frzL_n)))) (frzL_c (.nils) (frzL_c (frz_arrL (cs := [AV.int (2), AV.int (1)]) (Nat.zero_le _) (by first | (simp [go_sem, f3, f4, f5, f6, f7, f8, gb7, y0, y0', y2, y2', y4, y4', y6, y6', y8, y8']; done) | (simp [go_sem, f3, f4, f5, f6, f7, f8, gb7, y0, y0', y2, y2', y4, y4', y6, y6', y8, y8']; rfl)) (frzL_c (.lit _) (frzL_c (.lit _) (frzL_n)))) (frzL_c (.nils) (frzL_n)))))) (frzL_n))) ?_
       simp [go_sem, f3, f4, f5, f6, f7, f8, gb7, y0, y0', y2, y2', y4, y4', y6, y6', y8, y8']
       refine (hM _ _).2 ⟨?_, by intro j hj; have hj_ := hK j hj; simp [go_sem, hj_.1, hj_.2, show ¬ j = τ2.next by omega, show ¬ j = τ2.next + 1 by omega, show ¬ j = τ2.next + 2 by omega], by first | omega | (simp [go_sem]; done) | (simp [go_sem]; omega)⟩ <;> simp [go_sem, f3, f4, f5, f6, f7, f8, gb7, y0, y0', y2, y2', y4, y4', y6, y6', y8, y8', ← ec]
     ·have y6' := y6
      try simp [y0', y2', y4'] at y6'
      have ky6 := condF ky4 y6
      have ec := Option.some.inj ky6
      simp [go_sem, f3, f4, f5, f6, f7, f8, gb7, y0, y0', y2, y2', y4, y4', y6, y6']
      refine EWcall_frz (w_ref17_SameAll rx4.1 ([(⟨([1, 2] : List Int), ([] : List Int)⟩ : Morph), (⟨([2, 1] : List Int), ([] : List Int)⟩ : Morph)] : List Morph) _ hq) rfl (frzL_c ((DataA.imm (DataL.flatMap gd_morphC rx4.1)) _ _) (frzL_c (frz_arrL (cs := [AV.arr τ2.next 0 2 1, AV.nils, AV.arr (τ2.next + 1) 0 2 1, AV.nils]) (Nat.zero_le _) (by first | (simp [go_sem, f3, f4, f5, f6, f7, f8, gb7, y0, y0', y2, y2', y4, y4', y6, y6']; done) | (simp [go_sem, f3, f4, f5, f6, f7, f8, gb7, y0, y0', y2, y2', y4, y4', y6, y6']; rfl)) (frzL_c (frz_arrL (cs := [AV.int (1), AV.int (2)]) (Nat.zero_le _) (by first | (simp [go_sem, f3, f4, f5, f6, f7, f8, gb7, y0, y0', y2, y2', y4, y4', y6, y6']; done) | (simp [go_sem, f3, f4, f5, f6, f7, f8, gb7, y0, y0', y2, y2', y4, y4', y6, y6']; rfl)) (frzL_c (.lit _) (frzL_c (.lit _) (frzL_n)))) (frzL_c (.nils) (frzL_c (frz_arrL (cs := [AV.int (2), AV.int (1)]) (Nat.zero_le _) (by first | (simp [go_sem, f3, f4, f5, f6, f7, f8, gb7, y0, y0', y2, y2', y4, y4', y6, y6']; done) | (simp [go_sem, f3, f4, f5, f6, f7, f8, gb7, y0, y0', y2, y2', y4, y4', y6, y6']; rfl)) (frzL_c (.lit _) (frzL_c (.lit _) (frzL_n)))) (frzL_c (.nils) (frzL_n)))))) (frzL_n))) ?_
      simp [go_sem, f3, f4, f5, f6, f7, f8, gb7, y0, y0', y2, y2', y4, y4', y6, y6']
      refine (hM _ _).2 ⟨?_, by intro j hj; have hj_ := hK j hj; simp [go_sem, hj_.1, hj_.2, show ¬ j = τ2.next by omega, show ¬ j = τ2.next + 1 by omega, show ¬ j = τ2.next + 2 by omega], by first | omega | (simp [go_sem]; done) | (simp [go_sem]; omega)⟩ <;> simp [go_sem, f3, f4, f5, f6, f7, f8, gb7, y0, y0', y2, y2', y4, y4', y6, y6', ← ec]
    ·have y4' := y4
     try simp [y0', y2'] at y4'
     have ky4 := condF ky2 y4
     have ec := Option.some.inj ky4
     simp [go_sem, f3, f4, f5, f6, f7, f8, gb7, y0, y0', y2, y2', y4, y4']
     refine EWcall_frz (w_ref17_SameAll rx4.1 ([(⟨([1, 2] : List Int), ([] : List Int)⟩ : Morph), (⟨([2, 1] : List Int), ([] : List Int)⟩ : Morph)] : List Morph) _ hq) rfl (frzL_c ((DataA.imm (DataL.flatMap gd_morphC rx4.1)) _ _) (frzL_c (frz_arrL (cs := [AV.arr τ2.next 0 2 1, AV.nils, AV.arr (τ2.next + 1) 0 2 1, AV.nils]) (Nat.zero_le _) (by first | (simp [go_sem, f3, f4, f5, f6, f7, f8, gb7, y0, y0', y2, y2', y4, y4']; done) | (simp [go_sem, f3, f4, f5, f6, f7, f8, gb7, y0, y0', y2, y2', y4, y4']; rfl)) (frzL_c (frz_arrL (cs := [AV.int (1), AV.int (2)]) (Nat.zero_le _) (by first | (simp [go_sem, f3, f4, f5, f6, f7, f8, gb7, y0, y0', y2, y2', y4, y4']; done) | (simp [go_sem, f3, f4, f5, f6, f7, f8, gb7, y0, y0', y2, y2', y4, y4']; rfl)) (frzL_c (.lit _) (frzL_c (.lit _) (frzL_n)))) (frzL_c (.nils) (frzL_c (frz_arrL (cs := [AV.int (2), AV.int (1)]) (Nat.zero_le _) (by first | (simp [go_sem, f3, f4, f5, f6, f7, f8, gb7, y0, y0', y2, y2', y4, y4']; done) | (simp [go_sem, f3, f4, f5, f6, f7, f8, gb7, y0, y0', y2, y2', y4, y4']; rfl)) (frzL_c (.lit _) (frzL_c (.lit _) (frzL_n)))) (frzL_c (.nils) (frzL_n)))))) (frzL_n))) ?_
     simp [go_sem, f3, f4, f5, f6, f7, f8, gb7, y0, y0', y2, y2', y4, y4']
     refine (hM _ _).2 ⟨?_, by intro j hj; have hj_ := hK j hj; simp [go_sem, hj_.1, hj_.2, show ¬ j = τ2.next by omega, show ¬ j = τ2.next + 1 by omega, show ¬ j = τ2.next + 2 by omega], by first | omega | (simp [go_sem]; done) | (simp [go_sem]; omega)⟩ <;> simp [go_sem, f3, f4, f5, f6, f7, f8, gb7, y0, y0', y2, y2', y4, y4', ← ec]
   ·have y2' := y2
    try simp [y0'] at y2'
    have ky2 := condF ky0 y2
    have ec := Option.some.inj ky2
    simp [go_sem, f3, f4, f5, f6, f7, f8, gb7, y0, y0', y2, y2']
    refine EWcall_frz (w_ref17_SameAll rx4.1 ([(⟨([1, 2] : List Int), ([] : List Int)⟩ : Morph), (⟨([2, 1] : List Int), ([] : List Int)⟩ : Morph)] : List Morph) _ hq) rfl (frzL_c ((DataA.imm (DataL.flatMap gd_morphC rx4.1)) _ _) (frzL_c (frz_arrL (cs := [AV.arr τ2.next 0 2 1, AV.nils, AV.arr (τ2.next + 1) 0 2 1, AV.nils]) (Nat.zero_le _) (by first | (simp [go_sem, f3, f4, f5, f6, f7, f8, gb7, y0, y0', y2, y2']; done) | (simp [go_sem, f3, f4, f5, f6, f7, f8, gb7, y0, y0', y2, y2']; rfl)) (frzL_c (frz_arrL (cs := [AV.int (1), AV.int (2)]) (Nat.zero_le _) (by first | (simp [go_sem, f3, f4, f5, f6, f7, f8, gb7, y0, y0', y2, y2']; done) | (simp [go_sem, f3, f4, f5, f6, f7, f8, gb7, y0, y0', y2, y2']; rfl)) (frzL_c (.lit _) (frzL_c (.lit _) (frzL_n)))) (frzL_c (.nils) (frzL_c (frz_arrL (cs := [AV.int (2), AV.int (1)]) (Nat.zero_le _) (by first | (simp [go_sem, f3, f4, f5, f6, f7, f8, gb7, y0, y0', y2, y2']; done) | (simp [go_sem, f3, f4, f5, f6, f7, f8, gb7, y0, y0', y2, y2']; rfl)) (frzL_c (.lit _) (frzL_c (.lit _) (frzL_n)))) (frzL_c (.nils) (frzL_n)))))) (frzL_n))) ?_
    simp [go_sem, f3, f4, f5, f6, f7, f8, gb7, y0, y0', y2, y2']
    refine (hM _ _).2 ⟨?_, by intro j hj; have hj_ := hK j hj; simp [go_sem, hj_.1, hj_.2, show ¬ j = τ2.next by omega, show ¬ j = τ2.next + 1 by omega, show ¬ j = τ2.next + 2 by omega], by first | omega | (simp [go_sem]; done) | (simp [go_sem]; omega)⟩ <;> simp [go_sem, f3, f4, f5, f6, f7, f8, gb7, y0, y0', y2, y2', ← ec]
  ·have y0' := y0
   try simp at y0'
   have ky0 := condF hc y0
   have ec := Option.some.inj ky0
   simp [go_sem, f3, f4, f5, f6, f7, f8, gb7, y0, y0']
   refine (hM _ _).2 ⟨?_, by intro j hj; have hj_ := hK j hj; simp [go_sem, hj_.1, hj_.2], by first | omega | (simp [go_sem]; done) | (simp [go_sem]; omega)⟩ <;> simp [go_sem, f3, f4, f5, f6, f7, f8, gb7, y0, y0', ← ec]
 clear f3 f4 f5 f6 f7 f8 hK hN gb7 ub7
 obtain ⟨f0, hK, hN⟩ := hm
 obtain rfl := Option.some.inj h
 exact SW.ret ⟨AV.bool (c), by simp [go_sem, f0], .lit _, hK.keeps⟩
set_option maxHeartbeats 4000000 in
theorem w_ref04_Below1 : ∀ (F : Nat) (t : Types) (a : Int) (b : Int) (r : (Bool)) (_ : s_ref04_Below1 F t a b = some r), PureA Tryz.prog 70 [AV.agg [nodesA (t.nodes), edgesA (t.edges)], AV.int (a), AV.int (b)] (AV.bool (r))
 | 0, _, _, _, _, h => by cases h
 | F + 1, t, a, b, r, h => by
  refine pureA_of_SW (N := 25) Tryz.func70 (by kernel_rfl) rfl (by rw [Tryz.ntmps70]; rfl) (fun σ0 => ?_)
  rw [Tryz.results70]
  obtain ⟨fr0, hfr⟩ : ∃ fr, fr = initFr [AV.agg [nodesA (t.nodes), edgesA (t.edges)], AV.int (a), AV.int (b)] := ⟨_, rfl⟩
  rw [← hfr]
  have f0 : fr0 0 = AV.agg [nodesA (t.nodes), edgesA (t.edges)] := by rw [hfr]; rfl
  have f1 : fr0 1 = AV.int (a) := by rw [hfr]; rfl
  have f2 : fr0 2 = AV.int (b) := by rw [hfr]; rfl
  clear hfr
  simp only [s_ref04_Below1] at h
  refine SW.seq ?_
  refine SW.regX (fun f_ t_ => ∃ b3 : Nat, f_ 1 = AV.int (a) ∧ f_ 2 = AV.int (b) ∧ f_ 3 = AV.ptr b3 0 ∧ Kept σ0 t_ ∧ σ0.next ≤ t_.next ∧ t_.get b3 = some [nodesA (t.nodes), edgesA (t.edges)] ∧ b3 < t_.next ∧ σ0.next ≤ b3) (fun M hM => ?_) (fun fr1 τ hm => ?_)
  ·simp [go_sem, f0, f1, f2]
   refine (hM _ _).2 ⟨σ0.next, ?_, ?_, ?_, by intro j hj; simp [go_sem, show ¬ j = σ0.next by omega], by first | omega | (simp [go_sem]; done) | (simp [go_sem]; omega), by simp (disch := omega) [get_alloc_ne, get_set_ne, get_kill_ne, go_sem, f0, f1, f2], by first | omega | (simp [go_sem]; done) | (simp [go_sem]; omega), by omega⟩ <;> simp [go_sem, f0, f1, f2]
  clear f0 f1 f2
  obtain ⟨b3, f1, f2, f3, hK, hN, gb3, ub3, wb3⟩ := hm
  refine SW.seq ?_
  obtain ⟨c, hc, h⟩ := obind h
  refine SW.regX (fun f_ t_ => τ = t_ ∧ f_ 6 = AV.bool (c)) (fun M hM => ?_) (fun fr2 τz hm => ?_)
  ·refine EW_regionD (by kernel_rfl) (by kernel_rfl) ?_
   rcases Bool.eq_false_or_eq_true ((decide (a = b))) with y0 | y0
   ·have y0' := y0
    try simp at y0'
    have ky0 := condT hc y0
    have ec := Option.some.inj ky0
    simp [go_sem, f1, f2, f3, gb3, y0, y0']
    refine (hM _ _).2 ⟨rfl, ?_⟩ <;> simp [go_sem, f1, f2, f3, gb3, y0, y0', ← ec]
   ·have y0' := y0
    try simp at y0'
    have ky0 := condF hc y0
    rcases Bool.eq_false_or_eq_true ((decide (0 ≤ a))) with y2 | y2
    ·have y2' := y2
     try simp [y0'] at y2'
     have ky2 := condT ky0 y2
     obtain ⟨x, hx, ky2⟩ := obind ky2
     have xpx := getI_pos hx
     have xlx := getI_lt hx
     have xix := getI_N hx
     have xdx := getN_flat nodeC 4 (fun _ => rfl) xix
     obtain ⟨q, hq, ky2⟩ := obind ky2
     have ec := Option.some.inj ky2
     simp [go_sem, f1, f2, f3, gb3, y0, y0', y2, y2', xpx, xlx, xdx, nodeC]
     refine EWqcall_pure (w_ref04_Below1 F t x.parent b _ hq) rfl ?_
     simp [go_sem, f1, f2, f3, gb3, y0, y0', y2, y2', xpx, xlx, xdx, nodeC]
     refine (hM _ _).2 ⟨rfl, ?_⟩ <;> simp [go_sem, f1, f2, f3, gb3, y0, y0', y2, y2', xpx, xlx, xdx, nodeC, ← ec]
    ·have y2' := y2
     try simp [y0'] at y2'
     have ky2 := condF ky0 y2
     have ec := Option.some.inj ky2
     simp [go_sem, f1, f2, f3, gb3, y0, y0', y2, y2']
     refine (hM _ _).2 ⟨rfl, ?_⟩ <;> simp [go_sem, f1, f2, f3, gb3, y0, y0', y2, y2', ← ec]
  clear f1 f2 f3
  obtain ⟨rfl, f6⟩ := hm
  obtain rfl := Option.some.inj h
  exact SW.ret ⟨AV.bool (c), by simp [go_sem, f6], .lit _, hK.keeps⟩
end Go.Proofs.YtdacgjleiloooaaGreat
