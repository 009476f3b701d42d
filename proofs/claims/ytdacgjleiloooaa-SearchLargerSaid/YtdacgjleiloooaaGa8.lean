/-
  Plain functions and the walks that lead to them, by a program of ours (gen.py): scarfjoint/scarfjointlaw17.awake, scarfjoint/scarfjointref05.kind, scarfjoint/scarfjointref05.right, scarfjoint/scarfjointref05.Valid.
-/
import Derived.Test.YtdacgjleiloooaaGd
import Derived.Test.YtdacgjleiloooaaGT
import Derived.Test.YtdacgjleiloooaaB3
import Derived.Test.YtdacgjleiloooaaGa4
import Derived.Test.YtdacgjleiloooaaGa5
import Derived.Test.YtdacgjleiloooaaGa7
set_option linter.unusedSimpArgs false
set_option linter.unusedVariables false
namespace Go.Proofs.Ytdacgjleiloooaa
open Go Go.Ew Go.Proofs Go.RowKit
set_option maxRecDepth 100000
set_option maxHeartbeats 4000000 in
theorem w_law17_awake (r : (Bool)) (h : s_law17_awake = some r) : PureA Try.prog 5 [] (AV.bool (r)) := by
  refine pureA_of_SW (N := 64) Try.func5 (by kernel_rfl) rfl (by rw [Try.ntmps5]; rfl) (fun σ0 => ?_)
  rw [Try.results5]
  obtain ⟨fr0, hfr⟩ : ∃ fr, fr = initFr [] := ⟨_, rfl⟩
  rw [← hfr]
  clear hfr
  simp only [s_law17_awake] at h
  refine SW.seq ?_
  -- region 0
  refine SW.regX (fun f_ t_ => σ0 = t_) (fun M hM => ?_) (fun fr1 τz hm => ?_)
  · simp [go_sem]
    exact (hM _ _).2 (rfl)
  obtain ⟨rfl⟩ := hm
  refine SW.seq ?_
  -- region 1
  obtain ⟨rx, hrx, h⟩ := obind h
  refine SW.regX (fun f_ t_ => ∃ b1 : Nat, ∃ b2 : Nat, ∃ v : AV, f_ 1 = AV.ptr b1 0 ∧ f_ 2 = AV.ptr b2 0 ∧ Kept σ0 t_ ∧ σ0.next ≤ t_.next ∧ t_.get b1 = some [nodesA (rx.nodes), edgesA (rx.edges)] ∧ b1 < t_.next ∧ t_.get b2 = some [v, AV.nils] ∧ b2 < t_.next ∧ ArrAt σ0.next t_ v 3 ((([0, 0] : List Int)).map AV.int) (([0, 0] : List Int)).length 1 ∧ σ0.next ≤ b1 ∧ (∀ i, idOf v = some i → ¬ i = b1) ∧ σ0.next ≤ b2 ∧ ¬ b1 = b2 ∧ (∀ i, idOf v = some i → ¬ i = b2)) (fun M hM => ?_) (fun fr2 τ hm => ?_)
  · simp [go_sem]
    refine EWcall_pure (w_ref04_Example _ hrx) ?_
    simp [go_sem]
    refine (hM _ _).2 ⟨(σ0.next + 1), (σ0.next + 2), AV.arr σ0.next 0 (([0, 0] : List Int)).length 1, ?_, ?_, by intro j hj; simp [go_sem, show ¬ j = σ0.next by omega, show ¬ j = σ0.next + 1 by omega, show ¬ j = σ0.next + 2 by omega], by first | omega | (simp [go_sem]; done) | (simp [go_sem]; omega), by simp (disch := omega) [get_alloc_ne, get_set_ne, get_kill_ne, go_sem], by first | omega | (simp [go_sem]; done) | (simp [go_sem]; omega), by simp (disch := omega) [get_alloc_ne, get_set_ne, get_kill_ne, go_sem], by first | omega | (simp [go_sem]; done) | (simp [go_sem]; omega), .inr ⟨σ0.next, rfl, by simp (disch := omega) [get_alloc_ne, get_set_ne, get_kill_ne, go_sem], by simp [go_sem], by omega, by first | (simp [go_sem]; done) | (simp [go_sem]; omega)⟩, by omega, by intro i hi; first | (simp [idOf] at hi; done) | (simp [idOf] at hi; omega), by omega, by omega, by intro i hi; first | (simp [idOf] at hi; done) | (simp [idOf] at hi; omega)⟩ <;> simp [go_sem]
  obtain ⟨b1, b2, v, f1, f2, hK, hN, gb1, ub1, gb2, ub2, av, wb1, evb1, wb2, eb1b2, evb2⟩ := hm
  refine SW.seq ?_
  refine SW.frzB b2 0 av gb2 rfl (fun h => evb2 _ h rfl) ?_
  obtain ⟨τ1, hτ⟩ : ∃ x, x = (τ.killA v).set b2 ([v, AV.nils].set 0 (AV.imm (([0, 0] : List Int)).length ((([0, 0] : List Int)).map AV.int))) := ⟨_, rfl⟩
  rw [← hτ]
  have hK : Kept σ0 τ1 := by rw [hτ]; exact (hK.killA av).set wb2
  have hN : σ0.next ≤ τ1.next := by rw [hτ]; simp only [next_set, killA_next]; exact hN
  have gb1 : τ1.get b1 = some [nodesA (rx.nodes), edgesA (rx.edges)] := by rw [hτ, get_set, if_neg (by first | exact eb1b2 | exact fun e => eb2b1 e.symm), killA_get _ _ (fun h => evb1 _ h rfl)]; exact gb1
  have ub1 : b1 < τ1.next := by rw [hτ]; simp only [next_set, killA_next]; exact ub1
  have gb2 : τ1.get b2 = some [intsA (([0, 0] : List Int)), AV.nils] := by rw [hτ, get_set, if_pos rfl]; rfl
  have ub2 : b2 < τ1.next := by rw [hτ]; simp only [next_set, killA_next]; exact ub2
  clear hτ
  -- region 2
  obtain ⟨rx3, hrx3, h⟩ := obind h
  obtain ⟨rx4, hrx4, h⟩ := obind h
  refine SW.regX (fun f_ t_ => τ1 = t_ ∧ f_ 1 = AV.ptr b1 0 ∧ f_ 2 = AV.ptr b2 0 ∧ f_ 3 = morphsA (rx4.1) ∧ f_ 4 = AV.int (rx4.2)) (fun M hM => ?_) (fun fr4 τz1 hm => ?_)
  · refine EW_regionY τ1 9 (.q false 0 (.q false 1 (.q true 2 (.s 3 (.q false 4 (.q false 5 (.q false 6 (.q false 7 (.q false 8 .done))))))))) (by kernel_rfl) (by kernel_rfl) (fun _ _ h => h) (fun hfin => ?_)
    have hsub : Sub τ1 τ1 := (fun _ _ h => h)
    simp (maxDischargeDepth := 12) [go_sem, f1, f2, gb1, gb2, sub_set, sub_killAll, hsub]
    refine EWzp_pure (w_law17_bank _ hrx3) ?_
    simp (maxDischargeDepth := 12) [go_sem, f1, f2, gb1, gb2, sub_set, sub_killAll, hsub]
    refine EWzc_frzN (w_search_All rx (⟨([0, 0] : List Int), ([] : List E3)⟩ : Graph) rx3 true _ hrx4) (frzL_c (frz_aggL (frzL_c ((DataA.imm (DataL.flatMap gd_nodeC rx.nodes)) _ _) (frzL_c ((DataA.imm (DataL.flatMap gd_edgeC rx.edges)) _ _) (frzL_n)))) (frzL_c (frz_aggL (frzL_c ((DataA.imm (DataL.map (fun _ => .lit _) (([0, 0] : List Int)))) _ _) (frzL_c (.nils) (frzL_n)))) (frzL_c (frz_aggL (frzL_c ((DataA.imm (DataL.map (fun _ => .lit _) rx3.nodes)) _ _) (frzL_c ((DataA.imm (DataL.flatMap gd_e3C rx3.edges)) _ _) (frzL_n)))) (frzL_c (.lit _) (frzL_n))))) (by first | exact hsub | simp (maxDischargeDepth := 12) [go_sem, f1, f2, gb1, gb2, sub_set, sub_killAll, hsub]) ?_
    simp (maxDischargeDepth := 12) [go_sem, f1, f2, gb1, gb2, sub_set, sub_killAll, hsub]
    refine (hM _ _).2 ⟨rfl, ?_, ?_, ?_, ?_⟩ <;> simp [go_sem, f1, f2, gb1, gb2, sub_set, sub_killAll, hsub]
  clear f1 f2
  obtain ⟨rfl, f1, f2, f3, f4⟩ := hm
  refine SW.seq ?_
  -- region 3
  obtain ⟨rx5, hrx5, h⟩ := obind h
  obtain ⟨rx6, hrx6, h⟩ := obind h
  refine SW.regX (fun f_ t_ => τ1 = t_ ∧ f_ 1 = AV.ptr b1 0 ∧ f_ 2 = AV.ptr b2 0 ∧ f_ 3 = morphsA (rx4.1) ∧ f_ 4 = AV.int (rx4.2) ∧ f_ 5 = AV.int (rx6.1) ∧ f_ 6 = AV.int (rx6.2)) (fun M hM => ?_) (fun fr5 τz2 hm => ?_)
  · refine EW_regionY τ1 9 (.q false 0 (.q false 1 (.q true 2 (.s 3 (.q false 4 (.q false 5 (.q false 6 (.q false 7 (.q false 8 .done))))))))) (by kernel_rfl) (by kernel_rfl) (fun _ _ h => h) (fun hfin => ?_)
    have hsub : Sub τ1 τ1 := (fun _ _ h => h)
    simp (maxDischargeDepth := 12) [go_sem, f1, f2, f3, f4, gb1, gb2, sub_set, sub_killAll, hsub]
    refine EWzp_pure (w_law17_bank _ hrx5) ?_
    simp (maxDischargeDepth := 12) [go_sem, f1, f2, f3, f4, gb1, gb2, sub_set, sub_killAll, hsub]
    refine EWzc_frz (w_search_Count rx (⟨([0, 0] : List Int), ([] : List E3)⟩ : Graph) rx5 false _ hrx6) rfl (frzL_c (frz_aggL (frzL_c ((DataA.imm (DataL.flatMap gd_nodeC rx.nodes)) _ _) (frzL_c ((DataA.imm (DataL.flatMap gd_edgeC rx.edges)) _ _) (frzL_n)))) (frzL_c (frz_aggL (frzL_c ((DataA.imm (DataL.map (fun _ => .lit _) (([0, 0] : List Int)))) _ _) (frzL_c (.nils) (frzL_n)))) (frzL_c (frz_aggL (frzL_c ((DataA.imm (DataL.map (fun _ => .lit _) rx5.nodes)) _ _) (frzL_c ((DataA.imm (DataL.flatMap gd_e3C rx5.edges)) _ _) (frzL_n)))) (frzL_c (.lit _) (frzL_n))))) (by first | exact hsub | simp (maxDischargeDepth := 12) [go_sem, f1, f2, f3, f4, gb1, gb2, sub_set, sub_killAll, hsub]) ?_
    simp (maxDischargeDepth := 12) [go_sem, f1, f2, f3, f4, gb1, gb2, sub_set, sub_killAll, hsub]
    refine (hM _ _).2 ⟨rfl, ?_, ?_, ?_, ?_, ?_, ?_⟩ <;> simp [go_sem, f1, f2, f3, f4, gb1, gb2, sub_set, sub_killAll, hsub]
  clear f1 f2 f3 f4
  obtain ⟨rfl, f1, f2, f3, f4, f5, f6⟩ := hm
  refine SW.seq ?_
  -- region 4
  obtain ⟨rx7, hrx7, h⟩ := obind h
  obtain ⟨rx8, hrx8, h⟩ := obind h
  refine SW.regX (fun f_ t_ => ∃ b7 : Nat, f_ 3 = morphsA (rx4.1) ∧ f_ 4 = AV.int (rx4.2) ∧ f_ 5 = AV.int (rx6.1) ∧ f_ 6 = AV.int (rx6.2) ∧ f_ 7 = AV.ptr b7 0 ∧ f_ 8 = AV.int (rx8.2) ∧ Kept σ0 t_ ∧ σ0.next ≤ t_.next ∧ t_.get b7 = some [intsA (rx8.1.nodes), e3sA (rx8.1.edges)] ∧ b7 < t_.next ∧ σ0.next ≤ b7) (fun M hM => ?_) (fun fr6 τ2 hm => ?_)
  · have nb1_0 : ¬ b1 = τ1.next := by omega
    have nb1_1 : ¬ b1 = τ1.next + 1 := by omega
    have nb2_0 : ¬ b2 = τ1.next := by omega
    have nb2_1 : ¬ b2 = τ1.next + 1 := by omega
    have nb1_b2 : ¬ b1 = b2 := by omega
    have nb2_b1 : ¬ b2 = b1 := by omega
    refine EW_regionY τ1 12 (.q false 0 (.q false 1 (.q true 2 (.both (.s 3 (.q false 4 (.both (.s 5 (.q false 6 (.q false 7 (.q false 8 (.s 9 (.s 10 (.q false 11 .done))))))) (.s 9 (.s 5 (.q false 6 (.q false 7 (.q false 8 (.s 10 (.q false 11 .done)))))))))) (.s 9 (.s 3 (.q false 4 (.s 5 (.q false 6 (.q false 7 (.q false 8 (.s 10 (.q false 11 .done))))))))))))) (by kernel_rfl) (by kernel_rfl) (fun _ _ h => h) (fun hfin => ?_)
    have m0_ : τ1.get (τ1.next) = none := hfin _ (by omega)
    have m1_ : τ1.get (τ1.next + 1) = none := hfin _ (by omega)
    have hsub : Sub τ1 τ1 := (fun _ _ h => h)
    simp (maxDischargeDepth := 12) [go_sem, f1, f2, f3, f4, f5, f6, gb1, gb2, nb1_0, nb1_1, nb2_0, nb2_1, nb1_b2, nb2_b1, m0_, m1_, sub_set, sub_killAll, hsub]
    refine EWzp_pure (w_law17_bank _ hrx7) ?_
    simp (maxDischargeDepth := 12) [go_sem, f1, f2, f3, f4, f5, f6, gb1, gb2, nb1_0, nb1_1, nb2_0, nb2_1, nb1_b2, nb2_b1, m0_, m1_, sub_set, sub_killAll, hsub]
    refine ⟨?_, ?_⟩
    · refine ⟨?_, ?_⟩
      · refine EWzc_kill [τ1.next] (w_search_Instance rx (⟨([0, 0] : List Int), ([] : List E3)⟩ : Graph) rx7 (⟨([1, 2] : List Int), ([] : List Int)⟩ : Morph) _ hrx8) (frzSL_c (.keep _) (frzSL_c (.aggL (frzSL_c (.keep _) (frzSL_c (.nil) (frzSL_n)))) (frzSL_c (.keep _) (frzSL_c (.aggL (frzSL_c (.arrL (cs := [AV.int (1), AV.int (2)]) (by simp) (by first | (simp [go_sem, f1, f2, f3, f4, f5, f6, gb1, gb2, nb1_0, nb1_1, nb2_0, nb2_1, nb1_b2, nb2_b1, m0_, m1_, sub_set, sub_killAll, hsub]; done) | (simp [go_sem, f1, f2, f3, f4, f5, f6, gb1, gb2, nb1_0, nb1_1, nb2_0, nb2_1, nb1_b2, nb2_b1, m0_, m1_, sub_set, sub_killAll, hsub]; rfl)) (frzSL_c (.keep _) (frzSL_c (.keep _) (frzSL_n)))) (frzSL_c (.nil) (frzSL_n)))) (frzSL_n))))) (by simp (maxDischargeDepth := 12) [sub_killAll, go_sem, f1, f2, f3, f4, f5, f6, gb1, gb2, nb1_0, nb1_1, nb2_0, nb2_1, nb1_b2, nb2_b1, m0_, m1_, sub_set, sub_killAll, hsub]) ?_
        simp (maxDischargeDepth := 12) [go_sem, f1, f2, f3, f4, f5, f6, gb1, gb2, nb1_0, nb1_1, nb2_0, nb2_1, nb1_b2, nb2_b1, m0_, m1_, sub_set, sub_killAll, hsub]
        refine (hM _ _).2 ⟨(τ1.next + 1), ?_, ?_, ?_, ?_, ?_, ?_, by intro j hj; have hj_ := hK j hj; simp [go_sem, hj_.1, hj_.2, show ¬ j = τ1.next by omega, show ¬ j = τ1.next + 1 by omega], by first | omega | (simp [go_sem]; done) | (simp [go_sem]; omega), by simp (disch := omega) [get_alloc_ne, get_set_ne, get_kill_ne, go_sem, f1, f2, f3, f4, f5, f6, gb1, gb2, nb1_0, nb1_1, nb2_0, nb2_1, nb1_b2, nb2_b1, m0_, m1_, sub_set, sub_killAll, hsub], by first | omega | (simp [go_sem]; done) | (simp [go_sem]; omega), by omega⟩ <;> simp [go_sem, f1, f2, f3, f4, f5, f6, gb1, gb2, nb1_0, nb1_1, nb2_0, nb2_1, nb1_b2, nb2_b1, m0_, m1_, sub_set, sub_killAll, hsub]
      · refine EWzc_kill [τ1.next] (w_search_Instance rx (⟨([0, 0] : List Int), ([] : List E3)⟩ : Graph) rx7 (⟨([1, 2] : List Int), ([] : List Int)⟩ : Morph) _ hrx8) (frzSL_c (.keep _) (frzSL_c (.aggL (frzSL_c (.keep _) (frzSL_c (.nil) (frzSL_n)))) (frzSL_c (.keep _) (frzSL_c (.aggL (frzSL_c (.arrL (cs := [AV.int (1), AV.int (2)]) (by simp) (by first | (simp [go_sem, f1, f2, f3, f4, f5, f6, gb1, gb2, nb1_0, nb1_1, nb2_0, nb2_1, nb1_b2, nb2_b1, m0_, m1_, sub_set, sub_killAll, hsub]; done) | (simp [go_sem, f1, f2, f3, f4, f5, f6, gb1, gb2, nb1_0, nb1_1, nb2_0, nb2_1, nb1_b2, nb2_b1, m0_, m1_, sub_set, sub_killAll, hsub]; rfl)) (frzSL_c (.keep _) (frzSL_c (.keep _) (frzSL_n)))) (frzSL_c (.nil) (frzSL_n)))) (frzSL_n))))) (by simp (maxDischargeDepth := 12) [sub_killAll, go_sem, f1, f2, f3, f4, f5, f6, gb1, gb2, nb1_0, nb1_1, nb2_0, nb2_1, nb1_b2, nb2_b1, m0_, m1_, sub_set, sub_killAll, hsub]) ?_
        simp (maxDischargeDepth := 12) [go_sem, f1, f2, f3, f4, f5, f6, gb1, gb2, nb1_0, nb1_1, nb2_0, nb2_1, nb1_b2, nb2_b1, m0_, m1_, sub_set, sub_killAll, hsub]
        refine (hM _ _).2 ⟨(τ1.next + 1), ?_, ?_, ?_, ?_, ?_, ?_, by intro j hj; have hj_ := hK j hj; simp [go_sem, hj_.1, hj_.2, show ¬ j = τ1.next by omega, show ¬ j = τ1.next + 1 by omega], by first | omega | (simp [go_sem]; done) | (simp [go_sem]; omega), by simp (disch := omega) [get_alloc_ne, get_set_ne, get_kill_ne, go_sem, f1, f2, f3, f4, f5, f6, gb1, gb2, nb1_0, nb1_1, nb2_0, nb2_1, nb1_b2, nb2_b1, m0_, m1_, sub_set, sub_killAll, hsub], by first | omega | (simp [go_sem]; done) | (simp [go_sem]; omega), by omega⟩ <;> simp [go_sem, f1, f2, f3, f4, f5, f6, gb1, gb2, nb1_0, nb1_1, nb2_0, nb2_1, nb1_b2, nb2_b1, m0_, m1_, sub_set, sub_killAll, hsub]
    · refine EWzc_kill [(τ1.next + 1)] (w_search_Instance rx (⟨([0, 0] : List Int), ([] : List E3)⟩ : Graph) rx7 (⟨([1, 2] : List Int), ([] : List Int)⟩ : Morph) _ hrx8) (frzSL_c (.keep _) (frzSL_c (.aggL (frzSL_c (.keep _) (frzSL_c (.nil) (frzSL_n)))) (frzSL_c (.keep _) (frzSL_c (.aggL (frzSL_c (.arrL (cs := [AV.int (1), AV.int (2)]) (by simp) (by first | (simp [go_sem, f1, f2, f3, f4, f5, f6, gb1, gb2, nb1_0, nb1_1, nb2_0, nb2_1, nb1_b2, nb2_b1, m0_, m1_, sub_set, sub_killAll, hsub]; done) | (simp [go_sem, f1, f2, f3, f4, f5, f6, gb1, gb2, nb1_0, nb1_1, nb2_0, nb2_1, nb1_b2, nb2_b1, m0_, m1_, sub_set, sub_killAll, hsub]; rfl)) (frzSL_c (.keep _) (frzSL_c (.keep _) (frzSL_n)))) (frzSL_c (.nil) (frzSL_n)))) (frzSL_n))))) (by simp (maxDischargeDepth := 12) [sub_killAll, go_sem, f1, f2, f3, f4, f5, f6, gb1, gb2, nb1_0, nb1_1, nb2_0, nb2_1, nb1_b2, nb2_b1, m0_, m1_, sub_set, sub_killAll, hsub]) ?_
      simp (maxDischargeDepth := 12) [go_sem, f1, f2, f3, f4, f5, f6, gb1, gb2, nb1_0, nb1_1, nb2_0, nb2_1, nb1_b2, nb2_b1, m0_, m1_, sub_set, sub_killAll, hsub]
      refine (hM _ _).2 ⟨τ1.next, ?_, ?_, ?_, ?_, ?_, ?_, by intro j hj; have hj_ := hK j hj; simp [go_sem, hj_.1, hj_.2, show ¬ j = τ1.next by omega, show ¬ j = τ1.next + 1 by omega], by first | omega | (simp [go_sem]; done) | (simp [go_sem]; omega), by simp (disch := omega) [get_alloc_ne, get_set_ne, get_kill_ne, go_sem, f1, f2, f3, f4, f5, f6, gb1, gb2, nb1_0, nb1_1, nb2_0, nb2_1, nb1_b2, nb2_b1, m0_, m1_, sub_set, sub_killAll, hsub], by first | omega | (simp [go_sem]; done) | (simp [go_sem]; omega), by omega⟩ <;> simp [go_sem, f1, f2, f3, f4, f5, f6, gb1, gb2, nb1_0, nb1_1, nb2_0, nb2_1, nb1_b2, nb2_b1, m0_, m1_, sub_set, sub_killAll, hsub]
  clear f1 f2 f3 f4 f5 f6 hK hN gb1 ub1 gb2 ub2
  obtain ⟨b7, f3, f4, f5, f6, f7, f8, hK, hN, gb7, ub7, wb7⟩ := hm
  refine SW.seq ?_
  -- region 5
  obtain ⟨c, hc, h⟩ := obind h
  refine SW.regX (fun f_ t_ => f_ 0 = AV.bool (c) ∧ Kept σ0 t_ ∧ σ0.next ≤ t_.next) (fun M hM => ?_) (fun fr7 τ3 hm => ?_)
  · rcases Bool.eq_false_or_eq_true ((decide (rx4.2 = 0))) with y0 | y0
    · have y0' := y0
      try simp at y0'
      have ky0 := condT hc y0
      obtain ⟨q, hq, ky0⟩ := obind ky0
      rcases Bool.eq_false_or_eq_true q with y2 | y2
      · have y2' := y2
        try simp [y0'] at y2'
        have ky2 := condT ky0 y2
        rcases Bool.eq_false_or_eq_true ((decide (rx6.2 = 0))) with y4 | y4
        · have y4' := y4
          try simp [y0', y2'] at y4'
          have ky4 := condT ky2 y4
          rcases Bool.eq_false_or_eq_true ((decide (rx6.1 = 4))) with y6 | y6
          · have y6' := y6
            try simp [y0', y2', y4'] at y6'
            have ky6 := condT ky4 y6
            rcases Bool.eq_false_or_eq_true ((decide (rx8.2 = 0))) with y8 | y8
            · have y8' := y8
              try simp [y0', y2', y4', y6'] at y8'
              have ky8 := condT ky6 y8
              obtain ⟨q1, hq1, ky8⟩ := obind ky8
              have ec := Option.some.inj ky8
              have nb7_0 : ¬ b7 = τ2.next := by omega
              have nb7_1 : ¬ b7 = τ2.next + 1 := by omega
              have nb7_2 : ¬ b7 = τ2.next + 2 := by omega
              have nb7_3 : ¬ b7 = τ2.next + 3 := by omega
              simp [go_sem, f3, f4, f5, f6, f7, f8, gb7, y0, y0', y2, y2', y4, y4', y6, y6', y8, y8', nb7_0, nb7_1, nb7_2, nb7_3]
              refine EWcall_frz (w_ref17_SameAll rx4.1 ([(⟨([1, 2] : List Int), ([] : List Int)⟩ : Morph), (⟨([2, 1] : List Int), ([] : List Int)⟩ : Morph)] : List Morph) _ hq) rfl (frzL_c ((DataA.imm (DataL.flatMap gd_morphC rx4.1)) _ _) (frzL_c (frz_arrL (cs := [AV.arr τ2.next 0 2 1, AV.nils, AV.arr (τ2.next + 1) 0 2 1, AV.nils]) (Nat.zero_le _) (by first | (simp [go_sem, f3, f4, f5, f6, f7, f8, gb7, y0, y0', y2, y2', y4, y4', y6, y6', y8, y8', nb7_0, nb7_1, nb7_2, nb7_3]; done) | (simp [go_sem, f3, f4, f5, f6, f7, f8, gb7, y0, y0', y2, y2', y4, y4', y6, y6', y8, y8', nb7_0, nb7_1, nb7_2, nb7_3]; rfl)) (frzL_c (frz_arrL (cs := [AV.int (1), AV.int (2)]) (Nat.zero_le _) (by first | (simp [go_sem, f3, f4, f5, f6, f7, f8, gb7, y0, y0', y2, y2', y4, y4', y6, y6', y8, y8', nb7_0, nb7_1, nb7_2, nb7_3]; done) | (simp [go_sem, f3, f4, f5, f6, f7, f8, gb7, y0, y0', y2, y2', y4, y4', y6, y6', y8, y8', nb7_0, nb7_1, nb7_2, nb7_3]; rfl)) (frzL_c (.lit _) (frzL_c (.lit _) (frzL_n)))) (frzL_c (.nils) (frzL_c (frz_arrL (cs := [AV.int (2), AV.int (1)]) (Nat.zero_le _) (by first | (simp [go_sem, f3, f4, f5, f6, f7, f8, gb7, y0, y0', y2, y2', y4, y4', y6, y6', y8, y8', nb7_0, nb7_1, nb7_2, nb7_3]; done) | (simp [go_sem, f3, f4, f5, f6, f7, f8, gb7, y0, y0', y2, y2', y4, y4', y6, y6', y8, y8', nb7_0, nb7_1, nb7_2, nb7_3]; rfl)) (frzL_c (.lit _) (frzL_c (.lit _) (frzL_n)))) (frzL_c (.nils) (frzL_n)))))) (frzL_n))) ?_
              simp [go_sem, f3, f4, f5, f6, f7, f8, gb7, y0, y0', y2, y2', y4, y4', y6, y6', y8, y8', nb7_0, nb7_1, nb7_2, nb7_3]
              refine EWcall_frz (w_slices_Equal_int rx8.1.nodes ([1, 1] : List Int) _ hq1) rfl (frzL_c ((DataA.imm (DataL.map (fun _ => .lit _) rx8.1.nodes)) _ _) (frzL_c (frz_arrL (cs := [AV.int (1), AV.int (1)]) (Nat.zero_le _) (by first | (simp [go_sem, f3, f4, f5, f6, f7, f8, gb7, y0, y0', y2, y2', y4, y4', y6, y6', y8, y8', nb7_0, nb7_1, nb7_2, nb7_3]; done) | (simp [go_sem, f3, f4, f5, f6, f7, f8, gb7, y0, y0', y2, y2', y4, y4', y6, y6', y8, y8', nb7_0, nb7_1, nb7_2, nb7_3]; rfl)) (frzL_c (.lit _) (frzL_c (.lit _) (frzL_n)))) (frzL_n))) ?_
              simp [go_sem, f3, f4, f5, f6, f7, f8, gb7, y0, y0', y2, y2', y4, y4', y6, y6', y8, y8', nb7_0, nb7_1, nb7_2, nb7_3]
              refine (hM _ _).2 ⟨?_, by intro j hj; have hj_ := hK j hj; simp [go_sem, hj_.1, hj_.2, show ¬ j = τ2.next by omega, show ¬ j = τ2.next + 1 by omega, show ¬ j = τ2.next + 2 by omega, show ¬ j = τ2.next + 3 by omega], by first | omega | (simp [go_sem]; done) | (simp [go_sem]; omega)⟩ <;> simp [go_sem, f3, f4, f5, f6, f7, f8, gb7, y0, y0', y2, y2', y4, y4', y6, y6', y8, y8', nb7_0, nb7_1, nb7_2, nb7_3, ← ec]
            · have y8' := y8
              try simp [y0', y2', y4', y6'] at y8'
              have ky8 := condF ky6 y8
              have ec := Option.some.inj ky8
              simp [go_sem, f3, f4, f5, f6, f7, f8, gb7, y0, y0', y2, y2', y4, y4', y6, y6', y8, y8']
              refine EWcall_frz (w_ref17_SameAll rx4.1 ([(⟨([1, 2] : List Int), ([] : List Int)⟩ : Morph), (⟨([2, 1] : List Int), ([] : List Int)⟩ : Morph)] : List Morph) _ hq) rfl (frzL_c ((DataA.imm (DataL.flatMap gd_morphC rx4.1)) _ _) (frzL_c (frz_arrL (cs := [AV.arr τ2.next 0 2 1, AV.nils, AV.arr (τ2.next + 1) 0 2 1, AV.nils]) (Nat.zero_le _) (by first | (simp [go_sem, f3, f4, f5, f6, f7, f8, gb7, y0, y0', y2, y2', y4, y4', y6, y6', y8, y8']; done) | (simp [go_sem, f3, f4, f5, f6, f7, f8, gb7, y0, y0', y2, y2', y4, y4', y6, y6', y8, y8']; rfl)) (frzL_c (frz_arrL (cs := [AV.int (1), AV.int (2)]) (Nat.zero_le _) (by first | (simp [go_sem, f3, f4, f5, f6, f7, f8, gb7, y0, y0', y2, y2', y4, y4', y6, y6', y8, y8']; done) | (simp [go_sem, f3, f4, f5, f6, f7, f8, gb7, y0, y0', y2, y2', y4, y4', y6, y6', y8, y8']; rfl)) (frzL_c (.lit _) (frzL_c (.lit _) (frzL_n)))) (frzL_c (.nils) (frzL_c (frz_arrL (cs := [AV.int (2), AV.int (1)]) (Nat.zero_le _) (by first | (simp [go_sem, f3, f4, f5, f6, f7, f8, gb7, y0, y0', y2, y2', y4, y4', y6, y6', y8, y8']; done) | (simp [go_sem, f3, f4, f5, f6, f7, f8, gb7, y0, y0', y2, y2', y4, y4', y6, y6', y8, y8']; rfl)) (frzL_c (.lit _) (frzL_c (.lit _) (frzL_n)))) (frzL_c (.nils) (frzL_n)))))) (frzL_n))) ?_
              simp [go_sem, f3, f4, f5, f6, f7, f8, gb7, y0, y0', y2, y2', y4, y4', y6, y6', y8, y8']
              refine (hM _ _).2 ⟨?_, by intro j hj; have hj_ := hK j hj; simp [go_sem, hj_.1, hj_.2, show ¬ j = τ2.next by omega, show ¬ j = τ2.next + 1 by omega, show ¬ j = τ2.next + 2 by omega], by first | omega | (simp [go_sem]; done) | (simp [go_sem]; omega)⟩ <;> simp [go_sem, f3, f4, f5, f6, f7, f8, gb7, y0, y0', y2, y2', y4, y4', y6, y6', y8, y8', ← ec]
          · have y6' := y6
            try simp [y0', y2', y4'] at y6'
            have ky6 := condF ky4 y6
            have ec := Option.some.inj ky6
            simp [go_sem, f3, f4, f5, f6, f7, f8, gb7, y0, y0', y2, y2', y4, y4', y6, y6']
            refine EWcall_frz (w_ref17_SameAll rx4.1 ([(⟨([1, 2] : List Int), ([] : List Int)⟩ : Morph), (⟨([2, 1] : List Int), ([] : List Int)⟩ : Morph)] : List Morph) _ hq) rfl (frzL_c ((DataA.imm (DataL.flatMap gd_morphC rx4.1)) _ _) (frzL_c (frz_arrL (cs := [AV.arr τ2.next 0 2 1, AV.nils, AV.arr (τ2.next + 1) 0 2 1, AV.nils]) (Nat.zero_le _) (by first | (simp [go_sem, f3, f4, f5, f6, f7, f8, gb7, y0, y0', y2, y2', y4, y4', y6, y6']; done) | (simp [go_sem, f3, f4, f5, f6, f7, f8, gb7, y0, y0', y2, y2', y4, y4', y6, y6']; rfl)) (frzL_c (frz_arrL (cs := [AV.int (1), AV.int (2)]) (Nat.zero_le _) (by first | (simp [go_sem, f3, f4, f5, f6, f7, f8, gb7, y0, y0', y2, y2', y4, y4', y6, y6']; done) | (simp [go_sem, f3, f4, f5, f6, f7, f8, gb7, y0, y0', y2, y2', y4, y4', y6, y6']; rfl)) (frzL_c (.lit _) (frzL_c (.lit _) (frzL_n)))) (frzL_c (.nils) (frzL_c (frz_arrL (cs := [AV.int (2), AV.int (1)]) (Nat.zero_le _) (by first | (simp [go_sem, f3, f4, f5, f6, f7, f8, gb7, y0, y0', y2, y2', y4, y4', y6, y6']; done) | (simp [go_sem, f3, f4, f5, f6, f7, f8, gb7, y0, y0', y2, y2', y4, y4', y6, y6']; rfl)) (frzL_c (.lit _) (frzL_c (.lit _) (frzL_n)))) (frzL_c (.nils) (frzL_n)))))) (frzL_n))) ?_
            simp [go_sem, f3, f4, f5, f6, f7, f8, gb7, y0, y0', y2, y2', y4, y4', y6, y6']
            refine (hM _ _).2 ⟨?_, by intro j hj; have hj_ := hK j hj; simp [go_sem, hj_.1, hj_.2, show ¬ j = τ2.next by omega, show ¬ j = τ2.next + 1 by omega, show ¬ j = τ2.next + 2 by omega], by first | omega | (simp [go_sem]; done) | (simp [go_sem]; omega)⟩ <;> simp [go_sem, f3, f4, f5, f6, f7, f8, gb7, y0, y0', y2, y2', y4, y4', y6, y6', ← ec]
        · have y4' := y4
          try simp [y0', y2'] at y4'
          have ky4 := condF ky2 y4
          have ec := Option.some.inj ky4
          simp [go_sem, f3, f4, f5, f6, f7, f8, gb7, y0, y0', y2, y2', y4, y4']
          refine EWcall_frz (w_ref17_SameAll rx4.1 ([(⟨([1, 2] : List Int), ([] : List Int)⟩ : Morph), (⟨([2, 1] : List Int), ([] : List Int)⟩ : Morph)] : List Morph) _ hq) rfl (frzL_c ((DataA.imm (DataL.flatMap gd_morphC rx4.1)) _ _) (frzL_c (frz_arrL (cs := [AV.arr τ2.next 0 2 1, AV.nils, AV.arr (τ2.next + 1) 0 2 1, AV.nils]) (Nat.zero_le _) (by first | (simp [go_sem, f3, f4, f5, f6, f7, f8, gb7, y0, y0', y2, y2', y4, y4']; done) | (simp [go_sem, f3, f4, f5, f6, f7, f8, gb7, y0, y0', y2, y2', y4, y4']; rfl)) (frzL_c (frz_arrL (cs := [AV.int (1), AV.int (2)]) (Nat.zero_le _) (by first | (simp [go_sem, f3, f4, f5, f6, f7, f8, gb7, y0, y0', y2, y2', y4, y4']; done) | (simp [go_sem, f3, f4, f5, f6, f7, f8, gb7, y0, y0', y2, y2', y4, y4']; rfl)) (frzL_c (.lit _) (frzL_c (.lit _) (frzL_n)))) (frzL_c (.nils) (frzL_c (frz_arrL (cs := [AV.int (2), AV.int (1)]) (Nat.zero_le _) (by first | (simp [go_sem, f3, f4, f5, f6, f7, f8, gb7, y0, y0', y2, y2', y4, y4']; done) | (simp [go_sem, f3, f4, f5, f6, f7, f8, gb7, y0, y0', y2, y2', y4, y4']; rfl)) (frzL_c (.lit _) (frzL_c (.lit _) (frzL_n)))) (frzL_c (.nils) (frzL_n)))))) (frzL_n))) ?_
          simp [go_sem, f3, f4, f5, f6, f7, f8, gb7, y0, y0', y2, y2', y4, y4']
          refine (hM _ _).2 ⟨?_, by intro j hj; have hj_ := hK j hj; simp [go_sem, hj_.1, hj_.2, show ¬ j = τ2.next by omega, show ¬ j = τ2.next + 1 by omega, show ¬ j = τ2.next + 2 by omega], by first | omega | (simp [go_sem]; done) | (simp [go_sem]; omega)⟩ <;> simp [go_sem, f3, f4, f5, f6, f7, f8, gb7, y0, y0', y2, y2', y4, y4', ← ec]
      · have y2' := y2
        try simp [y0'] at y2'
        have ky2 := condF ky0 y2
        have ec := Option.some.inj ky2
        simp [go_sem, f3, f4, f5, f6, f7, f8, gb7, y0, y0', y2, y2']
        refine EWcall_frz (w_ref17_SameAll rx4.1 ([(⟨([1, 2] : List Int), ([] : List Int)⟩ : Morph), (⟨([2, 1] : List Int), ([] : List Int)⟩ : Morph)] : List Morph) _ hq) rfl (frzL_c ((DataA.imm (DataL.flatMap gd_morphC rx4.1)) _ _) (frzL_c (frz_arrL (cs := [AV.arr τ2.next 0 2 1, AV.nils, AV.arr (τ2.next + 1) 0 2 1, AV.nils]) (Nat.zero_le _) (by first | (simp [go_sem, f3, f4, f5, f6, f7, f8, gb7, y0, y0', y2, y2']; done) | (simp [go_sem, f3, f4, f5, f6, f7, f8, gb7, y0, y0', y2, y2']; rfl)) (frzL_c (frz_arrL (cs := [AV.int (1), AV.int (2)]) (Nat.zero_le _) (by first | (simp [go_sem, f3, f4, f5, f6, f7, f8, gb7, y0, y0', y2, y2']; done) | (simp [go_sem, f3, f4, f5, f6, f7, f8, gb7, y0, y0', y2, y2']; rfl)) (frzL_c (.lit _) (frzL_c (.lit _) (frzL_n)))) (frzL_c (.nils) (frzL_c (frz_arrL (cs := [AV.int (2), AV.int (1)]) (Nat.zero_le _) (by first | (simp [go_sem, f3, f4, f5, f6, f7, f8, gb7, y0, y0', y2, y2']; done) | (simp [go_sem, f3, f4, f5, f6, f7, f8, gb7, y0, y0', y2, y2']; rfl)) (frzL_c (.lit _) (frzL_c (.lit _) (frzL_n)))) (frzL_c (.nils) (frzL_n)))))) (frzL_n))) ?_
        simp [go_sem, f3, f4, f5, f6, f7, f8, gb7, y0, y0', y2, y2']
        refine (hM _ _).2 ⟨?_, by intro j hj; have hj_ := hK j hj; simp [go_sem, hj_.1, hj_.2, show ¬ j = τ2.next by omega, show ¬ j = τ2.next + 1 by omega, show ¬ j = τ2.next + 2 by omega], by first | omega | (simp [go_sem]; done) | (simp [go_sem]; omega)⟩ <;> simp [go_sem, f3, f4, f5, f6, f7, f8, gb7, y0, y0', y2, y2', ← ec]
    · have y0' := y0
      try simp at y0'
      have ky0 := condF hc y0
      have ec := Option.some.inj ky0
      simp [go_sem, f3, f4, f5, f6, f7, f8, gb7, y0, y0']
      refine (hM _ _).2 ⟨?_, by intro j hj; have hj_ := hK j hj; simp [go_sem, hj_.1, hj_.2], by first | omega | (simp [go_sem]; done) | (simp [go_sem]; omega)⟩ <;> simp [go_sem, f3, f4, f5, f6, f7, f8, gb7, y0, y0', ← ec]
  clear f3 f4 f5 f6 f7 f8 hK hN gb7 ub7
  obtain ⟨f0, hK, hN⟩ := hm
  obtain rfl := Option.some.inj h
  exact SW.ret ⟨AV.bool (c), by simp [go_sem, f0], .lit _, hK.keeps⟩
set_option maxHeartbeats 4000000 in
theorem w_ref05_kind (n : Int) (r : (Bool)) (h : s_ref05_kind n = some r) : PureA Try.prog 30 [AV.int (n)] (AV.bool (r)) := by
  refine pureA_of_SW (N := 9) Try.func30 (by kernel_rfl) rfl (by rw [Try.ntmps30]; rfl) (fun σ0 => ?_)
  rw [Try.results30]
  obtain ⟨fr0, hfr⟩ : ∃ fr, fr = initFr [AV.int (n)] := ⟨_, rfl⟩
  rw [← hfr]
  have f0 : fr0 0 = AV.int (n) := by rw [hfr]; rfl
  clear hfr
  simp only [s_ref05_kind] at h
  refine SW.seq ?_
  -- region 0
  refine SW.regX (fun f_ t_ => σ0 = t_ ∧ f_ 0 = AV.int (n)) (fun M hM => ?_) (fun fr1 τz hm => ?_)
  · simp [go_sem, f0]
    refine (hM _ _).2 ⟨rfl, ?_⟩ <;> simp [go_sem, f0]
  clear f0
  obtain ⟨rfl, f0⟩ := hm
  refine SW.seq ?_
  -- region 1
  refine SW.regX (fun f_ t_ => σ0 = t_ ∧ f_ 2 = AV.bool ((((decide (0 ≤ n))) && ((decide (n ≤ 99)))))) (fun M hM => ?_) (fun fr2 τz1 hm => ?_)
  · rcases Bool.eq_false_or_eq_true ((decide (0 ≤ n))) with y0 | y0
    · have y0' := y0
      try simp at y0'
      simp [go_sem, f0, y0, y0']
      refine (hM _ _).2 ⟨rfl, ?_⟩ <;> simp [go_sem, f0, y0, y0']
    · have y0' := y0
      try simp at y0'
      simp [go_sem, f0, y0, y0']
      refine (hM _ _).2 ⟨rfl, ?_⟩ <;> simp [go_sem, f0, y0, y0']
  clear f0
  obtain ⟨rfl, f2⟩ := hm
  obtain rfl := Option.some.inj h
  exact SW.ret ⟨AV.bool ((((decide (0 ≤ n))) && ((decide (n ≤ 99))))), by simp [go_sem, f2], .lit _, Keeps.refl _⟩
set_option maxHeartbeats 4000000 in
theorem w_ref05_right (e : E3) (nodes : Int) (r : (Bool)) (h : s_ref05_right e nodes = some r) : PureA Try.prog 31 [AV.agg [AV.int (e.kind), AV.int (e.src), AV.int (e.tgt)], AV.int (nodes)] (AV.bool (r)) := by
  refine pureA_of_SW (N := 30) Try.func31 (by kernel_rfl) rfl (by rw [Try.ntmps31]; rfl) (fun σ0 => ?_)
  rw [Try.results31]
  obtain ⟨fr0, hfr⟩ : ∃ fr, fr = initFr [AV.agg [AV.int (e.kind), AV.int (e.src), AV.int (e.tgt)], AV.int (nodes)] := ⟨_, rfl⟩
  rw [← hfr]
  have f0 : fr0 0 = AV.agg [AV.int (e.kind), AV.int (e.src), AV.int (e.tgt)] := by rw [hfr]; rfl
  have f1 : fr0 1 = AV.int (nodes) := by rw [hfr]; rfl
  clear hfr
  simp only [s_ref05_right] at h
  refine SW.seq ?_
  -- region 0
  refine SW.regX (fun f_ t_ => ∃ b2 : Nat, f_ 1 = AV.int (nodes) ∧ f_ 2 = AV.ptr b2 0 ∧ Kept σ0 t_ ∧ σ0.next ≤ t_.next ∧ t_.get b2 = some [AV.int (e.kind), AV.int (e.src), AV.int (e.tgt)] ∧ b2 < t_.next ∧ σ0.next ≤ b2) (fun M hM => ?_) (fun fr1 τ hm => ?_)
  · simp [go_sem, f0, f1]
    refine (hM _ _).2 ⟨σ0.next, ?_, ?_, by intro j hj; simp [go_sem, show ¬ j = σ0.next by omega], by first | omega | (simp [go_sem]; done) | (simp [go_sem]; omega), by simp (disch := omega) [get_alloc_ne, get_set_ne, get_kill_ne, go_sem, f0, f1], by first | omega | (simp [go_sem]; done) | (simp [go_sem]; omega), by omega⟩ <;> simp [go_sem, f0, f1]
  clear f0 f1
  obtain ⟨b2, f1, f2, hK, hN, gb2, ub2, wb2⟩ := hm
  refine SW.seq ?_
  -- region 1
  obtain ⟨q, hq, h⟩ := obind h
  refine SW.regX (fun f_ t_ => τ = t_ ∧ f_ 4 = AV.bool ((q && ((((decide (0 ≤ e.src))) && ((((decide (e.src < nodes))) && ((((decide (0 ≤ e.tgt))) && ((decide (e.tgt < nodes)))))))))))) (fun M hM => ?_) (fun fr2 τz hm => ?_)
  · rcases Bool.eq_false_or_eq_true q with y0 | y0
    · have y0' := y0
      try simp at y0'
      rcases Bool.eq_false_or_eq_true ((decide (0 ≤ e.src))) with y2 | y2
      · have y2' := y2
        try simp [y0'] at y2'
        rcases Bool.eq_false_or_eq_true ((decide (e.src < nodes))) with y4 | y4
        · have y4' := y4
          try simp [y0', y2'] at y4'
          rcases Bool.eq_false_or_eq_true ((decide (0 ≤ e.tgt))) with y6 | y6
          · have y6' := y6
            try simp [y0', y2', y4'] at y6'
            simp [go_sem, f1, f2, gb2, y0, y0', y2, y2', y4, y4', y6, y6']
            refine EWcall_pure (w_ref05_kind e.kind _ hq) ?_
            simp [go_sem, f1, f2, gb2, y0, y0', y2, y2', y4, y4', y6, y6']
            refine (hM _ _).2 ⟨rfl, ?_⟩ <;> simp [go_sem, f1, f2, gb2, y0, y0', y2, y2', y4, y4', y6, y6']
          · have y6' := y6
            try simp [y0', y2', y4'] at y6'
            simp [go_sem, f1, f2, gb2, y0, y0', y2, y2', y4, y4', y6, y6']
            refine EWcall_pure (w_ref05_kind e.kind _ hq) ?_
            simp [go_sem, f1, f2, gb2, y0, y0', y2, y2', y4, y4', y6, y6']
            refine (hM _ _).2 ⟨rfl, ?_⟩ <;> simp [go_sem, f1, f2, gb2, y0, y0', y2, y2', y4, y4', y6, y6']
        · have y4' := y4
          try simp [y0', y2'] at y4'
          simp [go_sem, f1, f2, gb2, y0, y0', y2, y2', y4, y4']
          refine EWcall_pure (w_ref05_kind e.kind _ hq) ?_
          simp [go_sem, f1, f2, gb2, y0, y0', y2, y2', y4, y4']
          refine (hM _ _).2 ⟨rfl, ?_⟩ <;> simp [go_sem, f1, f2, gb2, y0, y0', y2, y2', y4, y4']
      · have y2' := y2
        try simp [y0'] at y2'
        simp [go_sem, f1, f2, gb2, y0, y0', y2, y2']
        refine EWcall_pure (w_ref05_kind e.kind _ hq) ?_
        simp [go_sem, f1, f2, gb2, y0, y0', y2, y2']
        refine (hM _ _).2 ⟨rfl, ?_⟩ <;> simp [go_sem, f1, f2, gb2, y0, y0', y2, y2']
    · have y0' := y0
      try simp at y0'
      simp [go_sem, f1, f2, gb2, y0, y0']
      refine EWcall_pure (w_ref05_kind e.kind _ hq) ?_
      simp [go_sem, f1, f2, gb2, y0, y0']
      refine (hM _ _).2 ⟨rfl, ?_⟩ <;> simp [go_sem, f1, f2, gb2, y0, y0']
  clear f1 f2
  obtain ⟨rfl, f4⟩ := hm
  obtain rfl := Option.some.inj h
  exact SW.ret ⟨AV.bool ((q && ((((decide (0 ≤ e.src))) && ((((decide (e.src < nodes))) && ((((decide (0 ≤ e.tgt))) && ((decide (e.tgt < nodes))))))))))), by simp [go_sem, f4], .lit _, hK.keeps⟩
set_option maxHeartbeats 4000000 in
theorem w_ref05_Valid (g : Graph) (r : (Int)) (h : s_ref05_Valid g = some r) : PureA Try.prog 19 [AV.agg [intsA (g.nodes), e3sA (g.edges)]] (AV.int (r)) := by
  refine pureA_of_SW (N := 46) Try.func19 (by kernel_rfl) rfl (by rw [Try.ntmps19]; rfl) (fun σ0 => ?_)
  rw [Try.results19]
  obtain ⟨fr0, hfr⟩ : ∃ fr, fr = initFr [AV.agg [intsA (g.nodes), e3sA (g.edges)]] := ⟨_, rfl⟩
  rw [← hfr]
  have f0 : fr0 0 = AV.agg [intsA (g.nodes), e3sA (g.edges)] := by rw [hfr]; rfl
  clear hfr
  simp only [s_ref05_Valid] at h
  refine SW.seq ?_
  -- region 0
  refine SW.regX (fun f_ t_ => ∃ b1 : Nat, f_ 1 = AV.ptr b1 0 ∧ Kept σ0 t_ ∧ σ0.next ≤ t_.next ∧ t_.get b1 = some [intsA (g.nodes), e3sA (g.edges)] ∧ b1 < t_.next ∧ σ0.next ≤ b1) (fun M hM => ?_) (fun fr1 τ hm => ?_)
  · simp [go_sem, f0]
    refine (hM _ _).2 ⟨σ0.next, ?_, by intro j hj; simp [go_sem, show ¬ j = σ0.next by omega], by first | omega | (simp [go_sem]; done) | (simp [go_sem]; omega), by simp (disch := omega) [get_alloc_ne, get_set_ne, get_kill_ne, go_sem, f0], by first | omega | (simp [go_sem]; done) | (simp [go_sem]; omega), by omega⟩ <;> simp [go_sem, f0]
  clear f0
  obtain ⟨b1, f1, hK, hN, gb1, ub1, wb1⟩ := hm
  refine SW.seq ?_
  refine SW.seq ?_
  -- region 1
  refine SW.regX (fun f_ t_ => τ = t_ ∧ f_ 1 = AV.ptr b1 0 ∧ f_ 14 = AV.bool ((((decide (40 < ((g.nodes.length : Nat) : Int)))) || ((decide (80 < ((g.edges.length : Nat) : Int))))))) (fun M hM => ?_) (fun fr2 τz hm => ?_)
  · rcases Bool.eq_false_or_eq_true ((decide (40 < ((g.nodes.length : Nat) : Int)))) with y0 | y0
    · have y0' := y0
      try simp at y0'
      simp [go_sem, f1, gb1, y0, y0']
      refine (hM _ _).2 ⟨rfl, ?_, ?_⟩ <;> simp [go_sem, f1, gb1, y0, y0']
    · have y0' := y0
      try simp at y0'
      simp [go_sem, f1, gb1, y0, y0']
      refine (hM _ _).2 ⟨rfl, ?_, ?_⟩ <;> simp [go_sem, f1, gb1, y0, y0']
  clear f1
  obtain ⟨rfl, f1, f14⟩ := hm
  refine SW.cond _ f14 (fun hx => ?_) (fun hx => ?_)
  · have h := condT h hx
    refine SW.seq ?_
    -- region 2
    refine SW.regX (fun f_ t_ => τ = t_ ∧ f_ 2 = AV.int (3)) (fun M hM => ?_) (fun fr3 τz1 hm => ?_)
    · simp [go_sem, f1, f14, gb1]
      refine (hM _ _).2 ⟨rfl, ?_⟩ <;> simp [go_sem, f1, f14, gb1]
    clear f1 f14
    obtain ⟨rfl, f2⟩ := hm
    obtain rfl := Option.some.inj h
    exact SW.ret ⟨AV.int (3), by simp [go_sem, f2], .lit _, hK.keeps⟩
  have h := condF h hx
  refine SW.skip ?_
  refine SW.seq ?_
  refine SW.seq ?_
  -- region 3
  refine SW.regX (fun f_ t_ => τ = t_ ∧ f_ 1 = AV.ptr b1 0 ∧ f_ 3 = AV.int (0)) (fun M hM => ?_) (fun fr4 τz2 hm => ?_)
  · simp [go_sem, f1, f14, gb1]
    refine (hM _ _).2 ⟨rfl, ?_, ?_⟩ <;> simp [go_sem, f1, f14, gb1]
  clear f1 f14
  obtain ⟨rfl, f1, f3⟩ := hm
  obtain ⟨oi1, hruni1, hoi1⟩ := obind h
  refine SW.lenB b1 0 gb1 rfl (fun hbigi1 => ?_)
  obtain ⟨KL, hKL⟩ : ∃ KL : Fr → Mem → Prop, ∀ fr' τ', KL fr' τ' ↔ (oi1 = .done () ∧ τ = τ' ∧ fr' 1 = AV.ptr b1 0) := ⟨_, fun _ _ => Iff.rfl⟩
  refine SW.cut KL ?_ ?_
  · refine SW.block ?_
    obtain ⟨J, hJ⟩ : ∃ J : Nat → Fr → Mem → Prop, ∀ m_ fr' τ', J m_ fr' τ' ↔ (∃ i : Nat, m_ = g.nodes.length - i ∧ forN (b1_ref05_Valid g) (g.nodes.length - i) i () = some oi1 ∧ τ = τ' ∧ fr' 1 = AV.ptr b1 0 ∧ fr' 3 = AV.int (((i : Nat) : Int))) := ⟨_, fun _ _ _ => Iff.rfl⟩
    refine SW.loop J (g.nodes.length - 0) ((hJ _ _ _).2 ⟨0, rfl, hruni1, rfl, f1, f3⟩) ?_
    clear hruni1
    intro m_ fr5 τ1 hm
    rw [hJ] at hm
    clear f1 f3
    obtain ⟨i, rfl, hruni1, rfl, f1, f3⟩ := hm
    refine SW.seq ?_
    refine SW.seq ?_
    -- region 4
    refine SW.regX (fun f_ t_ => τ = t_ ∧ f_ 1 = AV.ptr b1 0 ∧ f_ 3 = AV.int (((i : Nat) : Int)) ∧ f_ 19 = AV.bool ((decide (i < g.nodes.length)))) (fun M hM => ?_) (fun fr6 τz3 hm => ?_)
    · simp [go_sem, f1, f3, gb1]
      refine (hM _ _).2 ⟨rfl, ?_, ?_, ?_⟩ <;> simp [go_sem, f1, f3, gb1]
    clear f1 f3
    obtain ⟨rfl, f1, f3, f19⟩ := hm
    refine SW.cond _ f19 (fun hx1 => ?_) (fun hx1 => ?_)
    rotate_left
    · have hk : ¬ i < g.nodes.length := by have := of_decide_eq_false hx1; omega
      refine SW.exit rfl ?_
      exact SW.goal ((hKL _ _).2 ⟨forN_end hruni1 hk, rfl, f1⟩)
    have hki : i < g.nodes.length := by have := of_decide_eq_true hx1; omega
    have hwi : IntKind.i64.wrap ((i : Int) + 1) = ((i + 1 : Nat) : Int) := by rw [wrap64_of _ (by omega) (by omega)]; rfl
    obtain ⟨ci1, hbi1, hci1⟩ := forN_step hruni1 hki
    simp only [b1_ref05_Valid] at hbi1
    refine SW.skip ?_
    refine SW.seq ?_
    refine SW.block ?_
    refine SW.seq ?_
    -- region 6
    obtain ⟨n, hn, hbi1⟩ := obind hbi1
    have xln := getN_lt hn
    have xdn := getN_map AV.int hn
    obtain ⟨q, hq, hbi1⟩ := obind hbi1
    refine SW.regX (fun f_ t_ => τ = t_ ∧ f_ 1 = AV.ptr b1 0 ∧ f_ 3 = AV.int (((i : Nat) : Int)) ∧ f_ 28 = AV.bool ((!q))) (fun M hM => ?_) (fun fr7 τz4 hm => ?_)
    · simp [go_sem, f1, f19, f3, gb1, xln, xdn]
      refine EWcall_pure (w_ref05_kind n _ hq) ?_
      simp [go_sem, f1, f19, f3, gb1, xln, xdn]
      refine (hM _ _).2 ⟨rfl, ?_, ?_, ?_⟩ <;> simp [go_sem, f1, f19, f3, gb1, xln, xdn]
    clear f1 f19 f3
    obtain ⟨rfl, f1, f3, f28⟩ := hm
    refine SW.cond _ f28 (fun hx2 => ?_) (fun hx2 => ?_)
    · have hbi1 := condT hbi1 hx2
      refine SW.seq ?_
      -- region 7
      refine SW.regX (fun f_ t_ => τ = t_ ∧ f_ 2 = AV.int (6)) (fun M hM => ?_) (fun fr8 τz5 hm => ?_)
      · simp [go_sem, f1, f28, f3, gb1]
        refine (hM _ _).2 ⟨rfl, ?_⟩ <;> simp [go_sem, f1, f28, f3, gb1]
      clear f1 f28 f3
      obtain ⟨rfl, f2⟩ := hm
      obtain rfl := Option.some.inj hbi1
      obtain rfl := Option.some.inj hci1
      obtain rfl := Option.some.inj hoi1
      exact SW.ret ⟨AV.int (6), by simp [go_sem, f2], .lit _, hK.keeps⟩
    have hbi1 := condF hbi1 hx2
    refine SW.skip ?_
    refine SW.blk ?_
    -- region 5
    refine SW.regX (fun f_ t_ => τ = t_ ∧ f_ 1 = AV.ptr b1 0 ∧ f_ 3 = AV.int (((i + 1 : Nat) : Int))) (fun M hM => ?_) (fun fr9 τz6 hm => ?_)
    · simp [go_sem, f1, f28, f3, gb1, hwi]
      refine (hM _ _).2 ⟨rfl, ?_, ?_⟩ <;> simp [go_sem, f1, f28, f3, gb1, hwi]
    clear f1 f28 f3
    obtain ⟨rfl, f1, f3⟩ := hm
    obtain rfl := Option.some.inj hbi1
    exact SW.goal ⟨g.nodes.length - (i + 1), by omega, (hJ _ _ _).2 ⟨i + 1, rfl, hci1, rfl, f1, f3⟩⟩
  intro fr10 τ2 hm
  rw [hKL] at hm
  clear hKL hruni1
  clear f1 f3
  obtain ⟨rfl, rfl, f1⟩ := hm
  simp only [Out.on] at hoi1
  refine SW.seq ?_
  refine SW.seq ?_
  -- region 8
  refine SW.regX (fun f_ t_ => τ = t_ ∧ f_ 1 = AV.ptr b1 0 ∧ f_ 4 = AV.int (0)) (fun M hM => ?_) (fun fr11 τz7 hm => ?_)
  · simp [go_sem, f1, gb1]
    refine (hM _ _).2 ⟨rfl, ?_, ?_⟩ <;> simp [go_sem, f1, gb1]
  clear f1
  obtain ⟨rfl, f1, f4⟩ := hm
  obtain ⟨oi3, hruni3, hoi3⟩ := obind hoi1
  refine SW.lenB b1 1 gb1 rfl (fun hbigi3 => ?_)
  obtain ⟨KL, hKL⟩ : ∃ KL : Fr → Mem → Prop, ∀ fr' τ', KL fr' τ' ↔ (oi3 = .done () ∧ τ = τ') := ⟨_, fun _ _ => Iff.rfl⟩
  refine SW.cut KL ?_ ?_
  · refine SW.block ?_
    obtain ⟨J, hJ⟩ : ∃ J : Nat → Fr → Mem → Prop, ∀ m_ fr' τ', J m_ fr' τ' ↔ (∃ i2 : Nat, m_ = g.edges.length - i2 ∧ forN (b3_ref05_Valid g) (g.edges.length - i2) i2 () = some oi3 ∧ τ = τ' ∧ fr' 1 = AV.ptr b1 0 ∧ fr' 4 = AV.int (((i2 : Nat) : Int))) := ⟨_, fun _ _ _ => Iff.rfl⟩
    refine SW.loop J (g.edges.length - 0) ((hJ _ _ _).2 ⟨0, rfl, hruni3, rfl, f1, f4⟩) ?_
    clear hruni3
    intro m_ fr12 τ3 hm
    rw [hJ] at hm
    clear f1 f4
    obtain ⟨i2, rfl, hruni3, rfl, f1, f4⟩ := hm
    refine SW.seq ?_
    refine SW.seq ?_
    -- region 9
    refine SW.regX (fun f_ t_ => τ = t_ ∧ f_ 1 = AV.ptr b1 0 ∧ f_ 4 = AV.int (((i2 : Nat) : Int)) ∧ f_ 33 = AV.bool ((decide (i2 < g.edges.length)))) (fun M hM => ?_) (fun fr13 τz8 hm => ?_)
    · simp [go_sem, f1, f4, gb1]
      refine (hM _ _).2 ⟨rfl, ?_, ?_, ?_⟩ <;> simp [go_sem, f1, f4, gb1]
    clear f1 f4
    obtain ⟨rfl, f1, f4, f33⟩ := hm
    refine SW.cond _ f33 (fun hx3 => ?_) (fun hx3 => ?_)
    rotate_left
    · have hk : ¬ i2 < g.edges.length := by have := of_decide_eq_false hx3; omega
      refine SW.exit rfl ?_
      exact SW.goal ((hKL _ _).2 ⟨forN_end hruni3 hk, rfl⟩)
    have hki2 : i2 < g.edges.length := by have := of_decide_eq_true hx3; omega
    have hwi2 : IntKind.i64.wrap ((i2 : Int) + 1) = ((i2 + 1 : Nat) : Int) := by rw [wrap64_of _ (by omega) (by omega)]; rfl
    obtain ⟨ci3, hbi3, hci3⟩ := forN_step hruni3 hki2
    simp only [b3_ref05_Valid] at hbi3
    refine SW.skip ?_
    refine SW.seq ?_
    refine SW.block ?_
    refine SW.seq ?_
    -- region 11
    obtain ⟨x, hx, hbi3⟩ := obind hbi3
    have xlx := getN_lt hx
    have xdx := getN_flat e3C 3 (fun _ => rfl) hx
    obtain ⟨q1, hq1, hbi3⟩ := obind hbi3
    refine SW.regX (fun f_ t_ => τ = t_ ∧ f_ 1 = AV.ptr b1 0 ∧ f_ 4 = AV.int (((i2 : Nat) : Int)) ∧ f_ 45 = AV.bool ((!q1))) (fun M hM => ?_) (fun fr14 τz9 hm => ?_)
    · refine EW_regionD (by kernel_rfl) (by kernel_rfl) ?_
      simp [go_sem, f1, f33, f4, gb1, xlx, xdx, e3C]
      refine EWqcall_pure (w_ref05_right x ((g.nodes.length : Nat) : Int) _ hq1) rfl ?_
      simp [go_sem, f1, f33, f4, gb1, xlx, xdx, e3C]
      refine (hM _ _).2 ⟨rfl, ?_, ?_, ?_⟩ <;> simp [go_sem, f1, f33, f4, gb1, xlx, xdx, e3C]
    clear f1 f33 f4
    obtain ⟨rfl, f1, f4, f45⟩ := hm
    refine SW.cond _ f45 (fun hx4 => ?_) (fun hx4 => ?_)
    · have hbi3 := condT hbi3 hx4
      refine SW.seq ?_
      -- region 12
      refine SW.regX (fun f_ t_ => τ = t_ ∧ f_ 2 = AV.int (6)) (fun M hM => ?_) (fun fr15 τz10 hm => ?_)
      · simp [go_sem, f1, f4, f45, gb1]
        refine (hM _ _).2 ⟨rfl, ?_⟩ <;> simp [go_sem, f1, f4, f45, gb1]
      clear f1 f4 f45
      obtain ⟨rfl, f2⟩ := hm
      obtain rfl := Option.some.inj hbi3
      obtain rfl := Option.some.inj hci3
      obtain rfl := Option.some.inj hoi3
      exact SW.ret ⟨AV.int (6), by simp [go_sem, f2], .lit _, hK.keeps⟩
    have hbi3 := condF hbi3 hx4
    refine SW.skip ?_
    refine SW.blk ?_
    -- region 10
    refine SW.regX (fun f_ t_ => τ = t_ ∧ f_ 1 = AV.ptr b1 0 ∧ f_ 4 = AV.int (((i2 + 1 : Nat) : Int))) (fun M hM => ?_) (fun fr16 τz11 hm => ?_)
    · simp [go_sem, f1, f4, f45, gb1, hwi2]
      refine (hM _ _).2 ⟨rfl, ?_, ?_⟩ <;> simp [go_sem, f1, f4, f45, gb1, hwi2]
    clear f1 f4 f45
    obtain ⟨rfl, f1, f4⟩ := hm
    obtain rfl := Option.some.inj hbi3
    exact SW.goal ⟨g.edges.length - (i2 + 1), by omega, (hJ _ _ _).2 ⟨i2 + 1, rfl, hci3, rfl, f1, f4⟩⟩
  intro fr17 τ4 hm
  rw [hKL] at hm
  clear hKL hruni3
  clear f1 f4
  obtain ⟨rfl, rfl⟩ := hm
  simp only [Out.on] at hoi3
  refine SW.seq ?_
  -- region 13
  refine SW.regX (fun f_ t_ => τ = t_ ∧ f_ 2 = AV.int (0)) (fun M hM => ?_) (fun fr18 τz12 hm => ?_)
  · simp [go_sem]
    refine (hM _ _).2 ⟨rfl, ?_⟩ <;> simp [go_sem]
  obtain ⟨rfl, f2⟩ := hm
  obtain rfl := Option.some.inj hoi3
  exact SW.ret ⟨AV.int (0), by simp [go_sem, f2], .lit _, hK.keeps⟩
end Go.Proofs.Ytdacgjleiloooaa
