/-
  Plain functions and the walks that lead to them, by a program of ours (gen.py): (scarfjoint/scarfjointlaw17.Drafts).parts, scarfjoint/scarfjointlaw17.SearchBrute$1, slices.IndexFunc___scarfjoint/api.Morphism_scarfjoint/api.Morphism_, slices.ContainsFunc___scarfjoint/api.Morphism_scarfjoint/api.Morphism_.
-/
import Derived.Test.YtdacgjleiloooaaGreatGd
import Derived.Test.YtdacgjleiloooaaGreatGT
import Derived.Test.YtdacgjleiloooaaGreatB3
import Derived.Test.YtdacgjleiloooaaGreatGS
import Derived.Test.YtdacgjleiloooaaGreatGa23
import Derived.Test.YtdacgjleiloooaaGreatGa24
import Derived.Test.YtdacgjleiloooaaGreatGa17
set_option linter.unusedSimpArgs false
set_option linter.unusedVariables false
namespace Go.Proofs.YtdacgjleiloooaaGreat
open Go Go.Ew Go.Proofs Go.RowKit
set_option maxRecDepth 100000
set_option maxHeartbeats 4000000 in
theorem w_law17_Drafts_parts (F : Nat) (d : Gscarfjointlaw17_Drafts) (r : (Types × Graph × Graph × Bool)) (h : s_law17_Drafts_parts F d = some r) : PureA Tryz.prog 23 [AV.agg [sl_Ar2_Int (d.nodes), sl_Ar2_Int (d.edges), sl_Int_u8 (d.p.nodes), sl_Ar3_Int (d.p.edges), sl_Int_u8 (d.g.nodes), sl_Ar3_Int (d.g.edges)]] (AV.tup [AV.agg [nodesA (r.1.nodes), edgesA (r.1.edges)], AV.agg [intsA (r.2.1.nodes), e3sA (r.2.1.edges)], AV.agg [intsA (r.2.2.1.nodes), e3sA (r.2.2.1.edges)], AV.bool (r.2.2.2)]) := by
 refine pureA_of_SW (N := 62) Tryz.func23 (by kernel_rfl) rfl (by rw [Tryz.ntmps23]; rfl) (fun σ0 => ?_)
 rw [Tryz.results23]
 obtain ⟨fr0, hfr⟩ : ∃ fr, fr = initFr [AV.agg [sl_Ar2_Int (d.nodes), sl_Ar2_Int (d.edges), sl_Int_u8 (d.p.nodes), sl_Ar3_Int (d.p.edges), sl_Int_u8 (d.g.nodes), sl_Ar3_Int (d.g.edges)]] := ⟨_, rfl⟩
 rw [← hfr]
 have f0 : fr0 0 = AV.agg [sl_Ar2_Int (d.nodes), sl_Ar2_Int (d.edges), sl_Int_u8 (d.p.nodes), sl_Ar3_Int (d.p.edges), sl_Int_u8 (d.g.nodes), sl_Ar3_Int (d.g.edges)] := by rw [hfr]; rfl
 clear hfr
 simp only [s_law17_Drafts_parts] at h
 refine SW.seq ?_
 refine SW.regX (fun f_ t_ => ∃ b1 : Nat, ∃ b2 : Nat, ∃ b3 : Nat, ∃ b4 : Nat, f_ 1 = AV.ptr b1 0 ∧ f_ 2 = AV.ptr b2 0 ∧ f_ 3 = AV.ptr b3 0 ∧ f_ 4 = AV.ptr b4 0 ∧ Kept σ0 t_ ∧ σ0.next ≤ t_.next ∧ t_.get b1 = some [sl_Ar2_Int (d.nodes), sl_Ar2_Int (d.edges), sl_Int_u8 (d.p.nodes), sl_Ar3_Int (d.p.edges), sl_Int_u8 (d.g.nodes), sl_Ar3_Int (d.g.edges)] ∧ b1 < t_.next ∧ t_.get b2 = some [AV.nils, AV.nils] ∧ b2 < t_.next ∧ t_.get b3 = some [AV.nils, AV.nils] ∧ b3 < t_.next ∧ t_.get b4 = some [AV.nils, AV.nils] ∧ b4 < t_.next ∧ σ0.next ≤ b1 ∧ σ0.next ≤ b2 ∧ ¬ b1 = b2 ∧ σ0.next ≤ b3 ∧ ¬ b1 = b3 ∧ ¬ b2 = b3 ∧ σ0.next ≤ b4 ∧ ¬ b1 = b4 ∧ ¬ b2 = b4 ∧ ¬ b3 = b4) (fun M hM => ?_) (fun fr1 τ hm => ?_)
 ·simp [go_sem, f0]
  refine (hM _ _).2 ⟨σ0.next, (σ0.next + 1), (σ0.next + 2), (σ0.next + 3), ?_, ?_, ?_, ?_, by intro j hj; simp [go_sem, show ¬ j = σ0.next by omega, show ¬ j = σ0.next + 1 by omega, show ¬ j = σ0.next + 2 by omega, show ¬ j = σ0.next + 3 by omega], by first | omega | (simp [go_sem]; done) | (simp [go_sem]; omega), by simp (disch := omega) [get_alloc_ne, get_set_ne, get_kill_ne, go_sem, f0], by first | omega | (simp [go_sem]; done) | (simp [go_sem]; omega), by simp (disch := omega) [get_alloc_ne, get_set_ne, get_kill_ne, go_sem, f0], by first | omega | (simp [go_sem]; done) | (simp [go_sem]; omega), by simp (disch := omega) [get_alloc_ne, get_set_ne, get_kill_ne, go_sem, f0], by first | omega | (simp [go_sem]; done) | (simp [go_sem]; omega), by simp (disch := omega) [get_alloc_ne, get_set_ne, get_kill_ne, go_sem, f0], by first | omega | (simp [go_sem]; done) | (simp [go_sem]; omega), by omega, by omega, by omega, by omega, by omega, by omega, by omega, by omega, by omega, by omega⟩ <;> simp [go_sem, f0]
 clear f0
 obtain ⟨b1, b2, b3, b4, f1, f2, f3, f4, hK, hN, gb1, ub1, gb2, ub2, gb3, ub3, gb4, ub4, wb1, wb2, eb1b2, wb3, eb1b3, eb2b3, wb4, eb1b4, eb2b4, eb3b4⟩ := hm
 refine SW.seq ?_
 refine SW.seq ?_
 refine SW.regX (fun f_ t_ => τ = t_ ∧ f_ 1 = AV.ptr b1 0 ∧ f_ 2 = AV.ptr b2 0 ∧ f_ 3 = AV.ptr b3 0 ∧ f_ 4 = AV.ptr b4 0 ∧ f_ 44 = AV.bool ((((decide (6 < ((d.nodes.length : Nat) : Int)))) || ((((decide (5 < ((d.edges.length : Nat) : Int)))) || ((((decide (3 < ((d.p.nodes.length : Nat) : Int)))) || ((((decide (3 < ((d.p.edges.length : Nat) : Int)))) || ((((decide (8 < ((d.g.nodes.length : Nat) : Int)))) || ((decide (10 < ((d.g.edges.length : Nat) : Int))))))))))))))) (fun M hM => ?_) (fun fr2 τz hm => ?_)
 ·rcases Bool.eq_false_or_eq_true ((decide (6 < ((d.nodes.length : Nat) : Int)))) with y0 | y0
  ·have y0' := y0
   try simp at y0'
   simp [go_sem, f1, f2, f3, f4, gb1, gb2, gb3, gb4, y0, y0']
   refine (hM _ _).2 ⟨rfl, ?_, ?_, ?_, ?_, ?_⟩ <;> simp [go_sem, f1, f2, f3, f4, gb1, gb2, gb3, gb4, y0, y0']
  ·have y0' := y0
   try simp at y0'
   rcases Bool.eq_false_or_eq_true ((decide (5 < ((d.edges.length : Nat) : Int)))) with y2 | y2
   ·have y2' := y2
    try simp [y0'] at y2'
    simp [go_sem, f1, f2, f3, f4, gb1, gb2, gb3, gb4, y0, y0', y2, y2']
    refine (hM _ _).2 ⟨rfl, ?_, ?_, ?_, ?_, ?_⟩ <;> simp [go_sem, f1, f2, f3, f4, gb1, gb2, gb3, gb4, y0, y0', y2, y2']
   ·have y2' := y2
    try simp [y0'] at y2'
    rcases Bool.eq_false_or_eq_true ((decide (3 < ((d.p.nodes.length : Nat) : Int)))) with y4 | y4
    ·have y4' := y4
     try simp [y0', y2'] at y4'
     simp [go_sem, f1, f2, f3, f4, gb1, gb2, gb3, gb4, y0, y0', y2, y2', y4, y4']
     refine (hM _ _).2 ⟨rfl, ?_, ?_, ?_, ?_, ?_⟩ <;> simp [go_sem, f1, f2, f3, f4, gb1, gb2, gb3, gb4, y0, y0', y2, y2', y4, y4']
    ·have y4' := y4
     try simp [y0', y2'] at y4'
     rcases Bool.eq_false_or_eq_true ((decide (3 < ((d.p.edges.length : Nat) : Int)))) with y6 | y6
     ·have y6' := y6
      try simp [y0', y2', y4'] at y6'
      simp [go_sem, f1, f2, f3, f4, gb1, gb2, gb3, gb4, y0, y0', y2, y2', y4, y4', y6, y6']
      refine (hM _ _).2 ⟨rfl, ?_, ?_, ?_, ?_, ?_⟩ <;> simp [go_sem, f1, f2, f3, f4, gb1, gb2, gb3, gb4, y0, y0', y2, y2', y4, y4', y6, y6']
     ·have y6' := y6
      try simp [y0', y2', y4'] at y6'
      rcases Bool.eq_false_or_eq_true ((decide (8 < ((d.g.nodes.length : Nat) : Int)))) with y8 | y8
      ·have y8' := y8
       try simp [y0', y2', y4', y6'] at y8'
       simp [go_sem, f1, f2, f3, f4, gb1, gb2, gb3, gb4, y0, y0', y2, y2', y4, y4', y6, y6', y8, y8']
       refine (hM _ _).2 ⟨rfl, ?_, ?_, ?_, ?_, ?_⟩ <;> simp [go_sem, f1, f2, f3, f4, gb1, gb2, gb3, gb4, y0, y0', y2, y2', y4, y4', y6, y6', y8, y8']
      ·have y8' := y8
       try simp [y0', y2', y4', y6'] at y8'
       simp [go_sem, f1, f2, f3, f4, gb1, gb2, gb3, gb4, y0, y0', y2, y2', y4, y4', y6, y6', y8, y8']
       refine (hM _ _).2 ⟨rfl, ?_, ?_, ?_, ?_, ?_⟩ <;> simp [go_sem, f1, f2, f3, f4, gb1, gb2, gb3, gb4, y0, y0', y2, y2', y4, y4', y6, y6', y8, y8']
 clear f1 f2 f3 f4
 obtain ⟨rfl, f1, f2, f3, f4, f44⟩ := hm
 refine SW.cond _ f44 (fun hx => ?_) (fun hx => ?_)
 ·have h := condT h hx
  refine SW.seq ?_
  refine SW.regX (fun f_ t_ => f_ 2 = AV.ptr b2 0 ∧ f_ 3 = AV.ptr b3 0 ∧ f_ 4 = AV.ptr b4 0 ∧ f_ 5 = AV.bool (false) ∧ Kept σ0 t_ ∧ σ0.next ≤ t_.next ∧ t_.get b2 = some [AV.nils, AV.nils] ∧ b2 < t_.next ∧ t_.get b3 = some [AV.nils, AV.nils] ∧ b3 < t_.next ∧ t_.get b4 = some [AV.nils, AV.nils] ∧ b4 < t_.next) (fun M hM => ?_) (fun fr3 τ1 hm => ?_)
  ·have nb1_b2 : ¬ b1 = b2 := by omega
   have nb1_b3 : ¬ b1 = b3 := by omega
   have nb1_b4 : ¬ b1 = b4 := by omega
   have nb2_b3 : ¬ b2 = b3 := by omega
   have nb2_b4 : ¬ b2 = b4 := by omega
   have nb3_b2 : ¬ b3 = b2 := by omega
   have nb3_b4 : ¬ b3 = b4 := by omega
   have nb4_b2 : ¬ b4 = b2 := by omega
   have nb4_b3 : ¬ b4 = b3 := by omega
   simp [go_sem, f1, f2, f3, f4, f44, gb1, gb2, gb3, gb4, nb1_b2, nb1_b3, nb1_b4, nb2_b3, nb2_b4, nb3_b2, nb3_b4, nb4_b2, nb4_b3]
   refine (hM _ _).2 ⟨?_, ?_, ?_, ?_, by intro j hj; have hj_ := hK j hj; simp [go_sem, hj_.1, hj_.2, show ¬ j = b2 by omega, show ¬ j = b3 by omega, show ¬ j = b4 by omega], by first | omega | (simp [go_sem]; done) | (simp [go_sem]; omega), by simp (disch := omega) [get_alloc_ne, get_set_ne, get_kill_ne, go_sem, f1, f2, f3, f4, f44, gb1, gb2, gb3, gb4, nb1_b2, nb1_b3, nb1_b4, nb2_b3, nb2_b4, nb3_b2, nb3_b4, nb4_b2, nb4_b3], by first | omega | (simp [go_sem]; done) | (simp [go_sem]; omega), by simp (disch := omega) [get_alloc_ne, get_set_ne, get_kill_ne, go_sem, f1, f2, f3, f4, f44, gb1, gb2, gb3, gb4, nb1_b2, nb1_b3, nb1_b4, nb2_b3, nb2_b4, nb3_b2, nb3_b4, nb4_b2, nb4_b3], by first | omega | (simp [go_sem]; done) | (simp [go_sem]; omega), by simp (disch := omega) [get_alloc_ne, get_set_ne, get_kill_ne, go_sem, f1, f2, f3, f4, f44, gb1, gb2, gb3, gb4, nb1_b2, nb1_b3, nb1_b4, nb2_b3, nb2_b4, nb3_b2, nb3_b4, nb4_b2, nb4_b3], by first | omega | (simp [go_sem]; done) | (simp [go_sem]; omega)⟩ <;> simp [go_sem, f1, f2, f3, f4, f44, gb1, gb2, gb3, gb4, nb1_b2, nb1_b3, nb1_b4, nb2_b3, nb2_b4, nb3_b2, nb3_b4, nb4_b2, nb4_b3]
  clear f1 f2 f3 f4 f44 hK hN gb1 ub1 gb2 ub2 gb3 ub3 gb4 ub4
  obtain ⟨f2, f3, f4, f5, hK, hN, gb2, ub2, gb3, ub3, gb4, ub4⟩ := hm
  obtain rfl := Option.some.inj h
  exact SW.ret ⟨AV.tup [AV.agg [AV.nils, AV.nils], AV.agg [AV.nils, AV.nils], AV.agg [AV.nils, AV.nils], AV.bool (false)], by simp [go_sem, f2, f3, f4, f5, gb2, gb3, gb4], frz_tupL (frzL_c (frz_aggL (frzL_c (.nils) (frzL_c (.nils) (frzL_n)))) (frzL_c (frz_aggL (frzL_c (.nils) (frzL_c (.nils) (frzL_n)))) (frzL_c (frz_aggL (frzL_c (.nils) (frzL_c (.nils) (frzL_n)))) (frzL_c (.lit _) (frzL_n))))), hK.keeps⟩
 have h := condF h hx
 refine SW.skip ?_
 refine SW.seq ?_
 obtain ⟨rx, hrx, h⟩ := obind h
 refine SW.regX (fun f_ t_ => ∃ b6 : Nat, f_ 1 = AV.ptr b1 0 ∧ f_ 2 = AV.ptr b2 0 ∧ f_ 3 = AV.ptr b3 0 ∧ f_ 4 = AV.ptr b4 0 ∧ f_ 6 = AV.ptr b6 0 ∧ Kept σ0 t_ ∧ σ0.next ≤ t_.next ∧ t_.get b1 = some [sl_Ar2_Int (d.nodes), sl_Ar2_Int (d.edges), sl_Int_u8 (d.p.nodes), sl_Ar3_Int (d.p.edges), sl_Int_u8 (d.g.nodes), sl_Ar3_Int (d.g.edges)] ∧ b1 < t_.next ∧ t_.get b2 = some [AV.nils, AV.nils] ∧ b2 < t_.next ∧ t_.get b3 = some [AV.nils, AV.nils] ∧ b3 < t_.next ∧ t_.get b4 = some [AV.nils, AV.nils] ∧ b4 < t_.next ∧ t_.get b6 = some [nodesA (rx.nodes), edgesA (rx.edges)] ∧ b6 < t_.next ∧ σ0.next ≤ b6 ∧ ¬ b1 = b6 ∧ ¬ b2 = b6 ∧ ¬ b3 = b6 ∧ ¬ b4 = b6) (fun M hM => ?_) (fun fr4 τ2 hm => ?_)
 ·have nb1_0 : ¬ b1 = τ.next := by omega
  have nb2_0 : ¬ b2 = τ.next := by omega
  have nb3_0 : ¬ b3 = τ.next := by omega
  have nb4_0 : ¬ b4 = τ.next := by omega
  simp [go_sem, f1, f2, f3, f4, f44, gb1, gb2, gb3, gb4, nb1_0, nb2_0, nb3_0, nb4_0]
  refine EWcall_pure (w_ref04_Made F d.nodes d.edges _ hrx) ?_
  simp [go_sem, f1, f2, f3, f4, f44, gb1, gb2, gb3, gb4, nb1_0, nb2_0, nb3_0, nb4_0]
  refine (hM _ _).2 ⟨τ.next, ?_, ?_, ?_, ?_, ?_, by intro j hj; have hj_ := hK j hj; simp [go_sem, hj_.1, hj_.2, show ¬ j = τ.next by omega], by first | omega | (simp [go_sem]; done) | (simp [go_sem]; omega), by simp (disch := omega) [get_alloc_ne, get_set_ne, get_kill_ne, go_sem, f1, f2, f3, f4, f44, gb1, gb2, gb3, gb4, nb1_0, nb2_0, nb3_0, nb4_0], by first | omega | (simp [go_sem]; done) | (simp [go_sem]; omega), by simp (disch := omega) [get_alloc_ne, get_set_ne, get_kill_ne, go_sem, f1, f2, f3, f4, f44, gb1, gb2, gb3, gb4, nb1_0, nb2_0, nb3_0, nb4_0], by first | omega | (simp [go_sem]; done) | (simp [go_sem]; omega), by simp (disch := omega) [get_alloc_ne, get_set_ne, get_kill_ne, go_sem, f1, f2, f3, f4, f44, gb1, gb2, gb3, gb4, nb1_0, nb2_0, nb3_0, nb4_0], by first | omega | (simp [go_sem]; done) | (simp [go_sem]; omega), by simp (disch := omega) [get_alloc_ne, get_set_ne, get_kill_ne, go_sem, f1, f2, f3, f4, f44, gb1, gb2, gb3, gb4, nb1_0, nb2_0, nb3_0, nb4_0], by first | omega | (simp [go_sem]; done) | (simp [go_sem]; omega), by simp (disch := omega) [get_alloc_ne, get_set_ne, get_kill_ne, go_sem, f1, f2, f3, f4, f44, gb1, gb2, gb3, gb4, nb1_0, nb2_0, nb3_0, nb4_0], by first | omega | (simp [go_sem]; done) | (simp [go_sem]; omega), by omega, by omega, by omega, by omega, by omega⟩ <;> simp [go_sem, f1, f2, f3, f4, f44, gb1, gb2, gb3, gb4, nb1_0, nb2_0, nb3_0, nb4_0]
 clear f1 f2 f3 f4 f44 hK hN gb1 ub1 gb2 ub2 gb3 ub3 gb4 ub4
 obtain ⟨b6, f1, f2, f3, f4, f6, hK, hN, gb1, ub1, gb2, ub2, gb3, ub3, gb4, ub4, gb6, ub6, wb6, eb1b6, eb2b6, eb3b6, eb4b6⟩ := hm
 refine SW.seq ?_
 obtain ⟨rx1, hrx1, h⟩ := obind h
 obtain ⟨rx2, hrx2, h⟩ := obind h
 refine SW.regX (fun f_ t_ => f_ 2 = AV.ptr b2 0 ∧ f_ 3 = AV.ptr b3 0 ∧ f_ 4 = AV.ptr b4 0 ∧ f_ 5 = AV.bool (true) ∧ Kept σ0 t_ ∧ σ0.next ≤ t_.next ∧ t_.get b2 = some [nodesA (rx.nodes), edgesA (rx.edges)] ∧ b2 < t_.next ∧ t_.get b3 = some [intsA (rx1.nodes), e3sA (rx1.edges)] ∧ b3 < t_.next ∧ t_.get b4 = some [intsA (rx2.nodes), e3sA (rx2.edges)] ∧ b4 < t_.next) (fun M hM => ?_) (fun fr5 τ3 hm => ?_)
 ·have nb1_b2 : ¬ b1 = b2 := by omega
  have nb1_b3 : ¬ b1 = b3 := by omega
  have nb1_b4 : ¬ b1 = b4 := by omega
  have nb1_b6 : ¬ b1 = b6 := by omega
  have nb2_b1 : ¬ b2 = b1 := by omega
  have nb2_b3 : ¬ b2 = b3 := by omega
  have nb2_b4 : ¬ b2 = b4 := by omega
  have nb2_b6 : ¬ b2 = b6 := by omega
  have nb3_b1 : ¬ b3 = b1 := by omega
  have nb3_b2 : ¬ b3 = b2 := by omega
  have nb3_b4 : ¬ b3 = b4 := by omega
  have nb3_b6 : ¬ b3 = b6 := by omega
  have nb4_b1 : ¬ b4 = b1 := by omega
  have nb4_b2 : ¬ b4 = b2 := by omega
  have nb4_b3 : ¬ b4 = b3 := by omega
  have nb4_b6 : ¬ b4 = b6 := by omega
  have nb6_b1 : ¬ b6 = b1 := by omega
  have nb6_b2 : ¬ b6 = b2 := by omega
  have nb6_b3 : ¬ b6 = b3 := by omega
  have nb6_b4 : ¬ b6 = b4 := by omega
  refine EW_regionY (((τ2.kill b2).kill b3).kill b4) 13 (.q false 0 (.q false 1 (.q false 2 (.q false 3 (.q false 5 (.q false 6 (.q false 7 (.q true 4 (.q true 8 (.s 9 (.s 10 (.s 11 (.q false 12 .done))))))))))))) (by kernel_rfl) (by kernel_rfl) (sub_kill b4 (sub_kill b3 (sub_kill b2 (fun _ _ h => h)))) (fun hfin => ?_)
  have hsub : Sub (((τ2.kill b2).kill b3).kill b4) τ2 := (sub_kill b4 (sub_kill b3 (sub_kill b2 (fun _ _ h => h))))
  simp (maxDischargeDepth := 12) [go_sem, f1, f2, f3, f4, f6, gb1, gb2, gb3, gb4, gb6, nb1_b2, nb1_b3, nb1_b4, nb1_b6, nb2_b1, nb2_b3, nb2_b4, nb2_b6, nb3_b1, nb3_b2, nb3_b4, nb3_b6, nb4_b1, nb4_b2, nb4_b3, nb4_b6, nb6_b1, nb6_b2, nb6_b3, nb6_b4, sub_set, sub_killAll, hsub]
  refine EWzp_pure (w_ref17_Made F rx d.p true _ hrx1) ?_
  simp (maxDischargeDepth := 12) [go_sem, f1, f2, f3, f4, f6, gb1, gb2, gb3, gb4, gb6, nb1_b2, nb1_b3, nb1_b4, nb1_b6, nb2_b1, nb2_b3, nb2_b4, nb2_b6, nb3_b1, nb3_b2, nb3_b4, nb3_b6, nb4_b1, nb4_b2, nb4_b3, nb4_b6, nb6_b1, nb6_b2, nb6_b3, nb6_b4, sub_set, sub_killAll, hsub]
  refine EWzp_pure (w_ref17_Made F rx d.g false _ hrx2) ?_
  simp (maxDischargeDepth := 12) [go_sem, f1, f2, f3, f4, f6, gb1, gb2, gb3, gb4, gb6, nb1_b2, nb1_b3, nb1_b4, nb1_b6, nb2_b1, nb2_b3, nb2_b4, nb2_b6, nb3_b1, nb3_b2, nb3_b4, nb3_b6, nb4_b1, nb4_b2, nb4_b3, nb4_b6, nb6_b1, nb6_b2, nb6_b3, nb6_b4, sub_set, sub_killAll, hsub]
  refine (hM _ _).2 ⟨?_, ?_, ?_, ?_, by intro j hj; have hj_ := hK j hj; simp [go_sem, hj_.1, hj_.2, show ¬ j = b2 by omega, show ¬ j = b3 by omega, show ¬ j = b4 by omega], by first | omega | (simp [go_sem]; done) | (simp [go_sem]; omega), by simp (disch := omega) [get_alloc_ne, get_set_ne, get_kill_ne, go_sem, f1, f2, f3, f4, f6, gb1, gb2, gb3, gb4, gb6, nb1_b2, nb1_b3, nb1_b4, nb1_b6, nb2_b1, nb2_b3, nb2_b4, nb2_b6, nb3_b1, nb3_b2, nb3_b4, nb3_b6, nb4_b1, nb4_b2, nb4_b3, nb4_b6, nb6_b1, nb6_b2, nb6_b3, nb6_b4, sub_set, sub_killAll, hsub], by first | omega | (simp [go_sem]; done) | (simp [go_sem]; omega), by simp (disch := omega) [get_alloc_ne, get_set_ne, get_kill_ne, go_sem, f1, f2, f3, f4, f6, gb1, gb2, gb3, gb4, gb6, nb1_b2, nb1_b3, nb1_b4, nb1_b6, nb2_b1, nb2_b3, nb2_b4, nb2_b6, nb3_b1, nb3_b2, nb3_b4, nb3_b6, nb4_b1, nb4_b2, nb4_b3, nb4_b6, nb6_b1, nb6_b2, nb6_b3, nb6_b4, sub_set, sub_killAll, hsub], by first | omega | (simp [go_sem]; done) | (simp [go_sem]; omega), by simp (disch := omega) [get_alloc_ne, get_set_ne, get_kill_ne, go_sem, f1, f2, f3, f4, f6, gb1, gb2, gb3, gb4, gb6, nb1_b2, nb1_b3, nb1_b4, nb1_b6, nb2_b1, nb2_b3, nb2_b4, nb2_b6, nb3_b1, nb3_b2, nb3_b4, nb3_b6, nb4_b1, nb4_b2, nb4_b3, nb4_b6, nb6_b1, nb6_b2, nb6_b3, nb6_b4, sub_set, sub_killAll, hsub], by first | omega | (simp [go_sem]; done) | (simp [go_sem]; omega)⟩ <;> simp [go_sem, f1, f2, f3, f4, f6, gb1, gb2, gb3, gb4, gb6, nb1_b2, nb1_b3, nb1_b4, nb1_b6, nb2_b1, nb2_b3, nb2_b4, nb2_b6, nb3_b1, nb3_b2, nb3_b4, nb3_b6, nb4_b1, nb4_b2, nb4_b3, nb4_b6, nb6_b1, nb6_b2, nb6_b3, nb6_b4, sub_set, sub_killAll, hsub]
 clear f1 f2 f3 f4 f6 hK hN gb1 ub1 gb2 ub2 gb3 ub3 gb4 ub4 gb6 ub6
 obtain ⟨f2, f3, f4, f5, hK, hN, gb2, ub2, gb3, ub3, gb4, ub4⟩ := hm
 obtain rfl := Option.some.inj h
 exact SW.ret ⟨AV.tup [AV.agg [nodesA (rx.nodes), edgesA (rx.edges)], AV.agg [intsA (rx1.nodes), e3sA (rx1.edges)], AV.agg [intsA (rx2.nodes), e3sA (rx2.edges)], AV.bool (true)], by simp [go_sem, f2, f3, f4, f5, gb2, gb3, gb4], frz_tupL (frzL_c (frz_aggL (frzL_c ((DataA.imm (DataL.flatMap gd_nodeC rx.nodes)) _ _) (frzL_c ((DataA.imm (DataL.flatMap gd_edgeC rx.edges)) _ _) (frzL_n)))) (frzL_c (frz_aggL (frzL_c ((DataA.imm (DataL.map (fun _ => .lit _) rx1.nodes)) _ _) (frzL_c ((DataA.imm (DataL.flatMap gd_e3C rx1.edges)) _ _) (frzL_n)))) (frzL_c (frz_aggL (frzL_c ((DataA.imm (DataL.map (fun _ => .lit _) rx2.nodes)) _ _) (frzL_c ((DataA.imm (DataL.flatMap gd_e3C rx2.edges)) _ _) (frzL_n)))) (frzL_c (.lit _) (frzL_n))))), hK.keeps⟩
set_option maxHeartbeats 4000000 in
theorem w_law17_SearchBrute_c1 (x : Morph) (a : Morph) (r : (Bool)) (h : s_law17_SearchBrute_c1 x a = some r) : PureA Tryz.prog 26 [AV.agg [intsA (x.nodes), intsA (x.edges)], AV.iptr [intsA (a.nodes), intsA (a.edges)]] (AV.bool (r)) := by
 refine pureA_of_SW (N := 7) Tryz.func26 (by kernel_rfl) rfl (by rw [Tryz.ntmps26]; rfl) (fun σ0 => ?_)
 rw [Tryz.results26]
 obtain ⟨fr0, hfr⟩ : ∃ fr, fr = initFr [AV.agg [intsA (x.nodes), intsA (x.edges)], AV.iptr [intsA (a.nodes), intsA (a.edges)]] := ⟨_, rfl⟩
 rw [← hfr]
 have f0 : fr0 0 = AV.agg [intsA (x.nodes), intsA (x.edges)] := by rw [hfr]; rfl
 have f1 : fr0 1 = AV.iptr [intsA (a.nodes), intsA (a.edges)] := by rw [hfr]; rfl
 clear hfr
 simp only [s_law17_SearchBrute_c1] at h
 refine SW.seq ?_
 refine SW.regX (fun f_ t_ => ∃ b2 : Nat, f_ 1 = AV.iptr [intsA (a.nodes), intsA (a.edges)] ∧ f_ 2 = AV.ptr b2 0 ∧ Kept σ0 t_ ∧ σ0.next ≤ t_.next ∧ t_.get b2 = some [intsA (x.nodes), intsA (x.edges)] ∧ b2 < t_.next ∧ σ0.next ≤ b2) (fun M hM => ?_) (fun fr1 τ hm => ?_)
 ·simp [go_sem, f0, f1]
  refine (hM _ _).2 ⟨σ0.next, ?_, ?_, by intro j hj; simp [go_sem, show ¬ j = σ0.next by omega], by first | omega | (simp [go_sem]; done) | (simp [go_sem]; omega), by simp (disch := omega) [get_alloc_ne, get_set_ne, get_kill_ne, go_sem, f0, f1], by first | omega | (simp [go_sem]; done) | (simp [go_sem]; omega), by omega⟩ <;> simp [go_sem, f0, f1]
 clear f0 f1
 obtain ⟨b2, f1, f2, hK, hN, gb2, ub2, wb2⟩ := hm
 refine SW.seq ?_
 obtain ⟨q, hq, h⟩ := obind h
 refine SW.regX (fun f_ t_ => τ = t_ ∧ f_ 3 = AV.bool (q)) (fun M hM => ?_) (fun fr2 τz hm => ?_)
 ·simp [go_sem, f1, f2, gb2]
  refine EWcall_pure (w_ref06_Same x a _ hq) ?_
  simp [go_sem, f1, f2, gb2]
  refine (hM _ _).2 ⟨rfl, ?_⟩ <;> simp [go_sem, f1, f2, gb2]
 clear f1 f2
 obtain ⟨rfl, f3⟩ := hm
 obtain rfl := Option.some.inj h
 exact SW.ret ⟨AV.bool (q), by simp [go_sem, f3], .lit _, hK.keeps⟩
set_option maxHeartbeats 4000000 in
theorem w_slices_IndexFunc_Morphism (s : List Morph) (f : Morph → Option (Bool)) (fg : FuncId) (fc : List AV) (fev : ∀ (a0 : Morph) (r : Bool), f a0 = some r → PureA Tryz.prog fg ([AV.agg [intsA (a0.nodes), intsA (a0.edges)]] ++ fc) (AV.bool (r))) (r : (Int)) (h : s_slices_IndexFunc_Morphism s f = some r) : PureA Tryz.prog 53 [morphsA (s), AV.fn fg fc] (AV.int (r)) := by
 refine pureA_of_SW (N := 19) Tryz.func53 (by kernel_rfl) rfl (by rw [Tryz.ntmps53]; rfl) (fun σ0 => ?_)
 rw [Tryz.results53]
 obtain ⟨fr0, hfr⟩ : ∃ fr, fr = initFr [morphsA (s), AV.fn fg fc] := ⟨_, rfl⟩
 rw [← hfr]
 have f0 : fr0 0 = morphsA (s) := by rw [hfr]; rfl
 have f1 : fr0 1 = AV.fn fg fc := by rw [hfr]; rfl
 clear hfr
 simp only [s_slices_IndexFunc_Morphism] at h
 refine SW.seq ?_
 refine SW.regX (fun f_ t_ => σ0 = t_ ∧ f_ 0 = morphsA (s) ∧ f_ 1 = AV.fn fg fc) (fun M hM => ?_) (fun fr1 τz hm => ?_)
 ·simp [go_sem, f0, f1]
  refine (hM _ _).2 ⟨rfl, ?_, ?_⟩ <;> simp [go_sem, f0, f1]
 clear f0 f1
 obtain ⟨rfl, f0, f1⟩ := hm
 refine SW.seq ?_
 refine SW.seq ?_
 refine SW.regX (fun f_ t_ => σ0 = t_ ∧ f_ 0 = morphsA (s) ∧ f_ 1 = AV.fn fg fc ∧ f_ 7 = AV.int (((s.length : Nat) : Int)) ∧ f_ 8 = AV.int (0)) (fun M hM => ?_) (fun fr2 τz1 hm => ?_)
 ·simp [go_sem, f0, f1]
  refine (hM _ _).2 ⟨rfl, ?_, ?_, ?_, ?_⟩ <;> simp [go_sem, f0, f1]
 clear f0 f1
 obtain ⟨rfl, f0, f1, f7, f8⟩ := hm
 obtain ⟨oi, hruni, hoi⟩ := obind h
 refine SW.len 0 f0 (fun hbigi => ?_)
 obtain ⟨KL, hKL⟩ : ∃ KL : Fr → Mem → Prop, ∀ fr' τ', KL fr' τ' ↔ (oi = .done () ∧ σ0 = τ') := ⟨_, fun _ _ => Iff.rfl⟩
 refine SW.cut KL ?_ ?_
 ·refine SW.block ?_
  obtain ⟨J, hJ⟩ : ∃ J : Nat → Fr → Mem → Prop, ∀ m_ fr' τ', J m_ fr' τ' ↔ (∃ k : Nat, m_ = s.length - k ∧ forN (b1_slices_IndexFunc_Morphism s f) (s.length - k) k () = some oi ∧ σ0 = τ' ∧ fr' 0 = morphsA (s) ∧ fr' 1 = AV.fn fg fc ∧ fr' 7 = AV.int (((s.length : Nat) : Int)) ∧ fr' 8 = AV.int (((k : Nat) : Int))) := ⟨_, fun _ _ _ => Iff.rfl⟩
  refine SW.loop J (s.length - 0) ((hJ _ _ _).2 ⟨0, rfl, hruni, rfl, f0, f1, f7, f8⟩) ?_
  clear hruni
  intro m_ fr3 τ hm
  rw [hJ] at hm
  clear f0 f1 f7 f8
  obtain ⟨k, rfl, hruni, rfl, f0, f1, f7, f8⟩ := hm
  refine SW.seq ?_
  refine SW.regX (fun f_ t_ => σ0 = t_ ∧ f_ 0 = morphsA (s) ∧ f_ 1 = AV.fn fg fc ∧ f_ 7 = AV.int (((s.length : Nat) : Int)) ∧ f_ 8 = AV.int (((k : Nat) : Int)) ∧ f_ 9 = AV.bool ((decide (k < s.length)))) (fun M hM => ?_) (fun fr4 τz2 hm => ?_)
  ·simp [go_sem, f0, f1, f7, f8]
   refine (hM _ _).2 ⟨rfl, ?_, ?_, ?_, ?_, ?_⟩ <;> simp [go_sem, f0, f1, f7, f8]
  clear f0 f1 f7 f8
  obtain ⟨rfl, f0, f1, f7, f8, f9⟩ := hm
  refine SW.seq ?_
  refine SW.cond _ f9 (fun hx => ?_) (fun hx => ?_)
  rotate_left
  ·have hk : ¬ k < s.length := by have := of_decide_eq_false hx; omega
   refine SW.exit rfl ?_
   exact SW.goal ((hKL _ _).2 ⟨forN_end hruni hk, rfl⟩)
  have hkk : k < s.length := by have := of_decide_eq_true hx; omega
  have hwk : IntKind.i64.wrap ((k : Int) + 1) = ((k + 1 : Nat) : Int) := by rw [wrap64_of _ (by omega) (by omega)]; rfl
  obtain ⟨ci, hbi, hci⟩ := forN_step hruni hkk
  simp only [b1_slices_IndexFunc_Morphism] at hbi
  refine SW.skip ?_
  refine SW.seq ?_
  refine SW.block ?_
  refine SW.seq ?_
  refine SW.regX (fun f_ t_ => σ0 = t_ ∧ f_ 0 = morphsA (s) ∧ f_ 1 = AV.fn fg fc ∧ f_ 5 = AV.int (((k : Nat) : Int)) ∧ f_ 7 = AV.int (((s.length : Nat) : Int)) ∧ f_ 8 = AV.int (((k : Nat) : Int))) (fun M hM => ?_) (fun fr5 τz3 hm => ?_)
  ·simp [go_sem, f0, f1, f7, f8, f9]
   refine (hM _ _).2 ⟨rfl, ?_, ?_, ?_, ?_, ?_⟩ <;> simp [go_sem, f0, f1, f7, f8, f9]
  clear f0 f1 f7 f8 f9
  obtain ⟨rfl, f0, f1, f5, f7, f8⟩ := hm
  refine SW.seq ?_
  obtain ⟨x, hx, hbi⟩ := obind hbi
  have xlx := getN_lt hx
  have xdx := getN_flat morphC 2 (fun _ => rfl) hx
  obtain ⟨rx, hrx, hbi⟩ := obind hbi
  refine SW.regX (fun f_ t_ => σ0 = t_ ∧ f_ 0 = morphsA (s) ∧ f_ 1 = AV.fn fg fc ∧ f_ 5 = AV.int (((k : Nat) : Int)) ∧ f_ 7 = AV.int (((s.length : Nat) : Int)) ∧ f_ 8 = AV.int (((k : Nat) : Int)) ∧ f_ 16 = AV.bool (rx)) (fun M hM => ?_) (fun fr6 τz4 hm => ?_)
  ·simp [go_sem, f0, f1, f5, f7, f8, xlx, xdx, morphC]
   refine EWcall_pure (fev x _ hrx) ?_
   simp [go_sem, f0, f1, f5, f7, f8, xlx, xdx, morphC]
   refine (hM _ _).2 ⟨rfl, ?_, ?_, ?_, ?_, ?_, ?_⟩ <;> simp [go_sem, f0, f1, f5, f7, f8, xlx, xdx, morphC]
  clear f0 f1 f5 f7 f8
  obtain ⟨rfl, f0, f1, f5, f7, f8, f16⟩ := hm
  refine SW.cond _ f16 (fun hx1 => ?_) (fun hx1 => ?_)
  ·have hbi := condT hbi hx1
   refine SW.seq ?_
   refine SW.regX (fun f_ t_ => σ0 = t_ ∧ f_ 4 = AV.int (((k : Nat) : Int))) (fun M hM => ?_) (fun fr7 τz5 hm => ?_)
   ·simp [go_sem, f0, f1, f16, f5, f7, f8]
    refine (hM _ _).2 ⟨rfl, ?_⟩ <;> simp [go_sem, f0, f1, f16, f5, f7, f8]
   clear f0 f1 f16 f5 f7 f8
   obtain ⟨rfl, f4⟩ := hm
   obtain rfl := Option.some.inj hbi
   obtain rfl := Option.some.inj hci
   obtain rfl := Option.some.inj hoi
   exact SW.ret ⟨AV.int (((k : Nat) : Int)), by simp [go_sem, f4], .lit _, Keeps.refl _⟩
  have hbi := condF hbi hx1
  refine SW.skip ?_
  refine SW.blk ?_
  refine SW.regX (fun f_ t_ => σ0 = t_ ∧ f_ 0 = morphsA (s) ∧ f_ 1 = AV.fn fg fc ∧ f_ 7 = AV.int (((s.length : Nat) : Int)) ∧ f_ 8 = AV.int (((k + 1 : Nat) : Int))) (fun M hM => ?_) (fun fr8 τz6 hm => ?_)
  ·simp [go_sem, f0, f1, f16, f5, f7, f8, hwk]
   refine (hM _ _).2 ⟨rfl, ?_, ?_, ?_, ?_⟩ <;> simp [go_sem, f0, f1, f16, f5, f7, f8, hwk]
  clear f0 f1 f16 f5 f7 f8
  obtain ⟨rfl, f0, f1, f7, f8⟩ := hm
  obtain rfl := Option.some.inj hbi
  exact SW.goal ⟨s.length - (k + 1), by omega, (hJ _ _ _).2 ⟨k + 1, rfl, hci, rfl, f0, f1, f7, f8⟩⟩
 intro fr9 τ1 hm
 rw [hKL] at hm
 clear hKL hruni
 clear f0 f1 f7 f8
 obtain ⟨rfl, rfl⟩ := hm
 simp only [Out.on] at hoi
 refine SW.seq ?_
 refine SW.regX (fun f_ t_ => σ0 = t_ ∧ f_ 4 = AV.int (-1)) (fun M hM => ?_) (fun fr10 τz7 hm => ?_)
 ·simp [go_sem]
  refine (hM _ _).2 ⟨rfl, ?_⟩ <;> simp [go_sem]
 obtain ⟨rfl, f4⟩ := hm
 obtain rfl := Option.some.inj hoi
 exact SW.ret ⟨AV.int (-1), by simp [go_sem, f4], .lit _, Keeps.refl _⟩
set_option maxHeartbeats 4000000 in
theorem w_slices_ContainsFunc_Morphism (s : List Morph) (f : Morph → Option (Bool)) (fg : FuncId) (fc : List AV) (fev : ∀ (a0 : Morph) (r : Bool), f a0 = some r → PureA Tryz.prog fg ([AV.agg [intsA (a0.nodes), intsA (a0.edges)]] ++ fc) (AV.bool (r))) (r : (Bool)) (h : s_slices_ContainsFunc_Morphism s f = some r) : PureA Tryz.prog 25 [morphsA (s), AV.fn fg fc] (AV.bool (r)) := by
 refine pureA_of_SW (N := 9) Tryz.func25 (by kernel_rfl) rfl (by rw [Tryz.ntmps25]; rfl) (fun σ0 => ?_)
 rw [Tryz.results25]
 obtain ⟨fr0, hfr⟩ : ∃ fr, fr = initFr [morphsA (s), AV.fn fg fc] := ⟨_, rfl⟩
 rw [← hfr]
 have f0 : fr0 0 = morphsA (s) := by rw [hfr]; rfl
 have f1 : fr0 1 = AV.fn fg fc := by rw [hfr]; rfl
 clear hfr
 simp only [s_slices_ContainsFunc_Morphism] at h
 refine SW.seq ?_
 refine SW.regX (fun f_ t_ => σ0 = t_ ∧ f_ 0 = morphsA (s) ∧ f_ 1 = AV.fn fg fc) (fun M hM => ?_) (fun fr1 τz hm => ?_)
 ·simp [go_sem, f0, f1]
  refine (hM _ _).2 ⟨rfl, ?_, ?_⟩ <;> simp [go_sem, f0, f1]
 clear f0 f1
 obtain ⟨rfl, f0, f1⟩ := hm
 refine SW.seq ?_
 obtain ⟨n, hn, h⟩ := obind h
 refine SW.regX (fun f_ t_ => σ0 = t_ ∧ f_ 4 = AV.bool ((decide (0 ≤ n)))) (fun M hM => ?_) (fun fr2 τz1 hm => ?_)
 ·simp [go_sem, f0, f1]
  refine EWcall_pure (w_slices_IndexFunc_Morphism s f fg fc fev _ hn) ?_
  simp [go_sem, f0, f1]
  refine (hM _ _).2 ⟨rfl, ?_⟩ <;> simp [go_sem, f0, f1]
 clear f0 f1
 obtain ⟨rfl, f4⟩ := hm
 obtain rfl := Option.some.inj h
 exact SW.ret ⟨AV.bool ((decide (0 ≤ n))), by simp [go_sem, f4], .lit _, Keeps.refl _⟩
end Go.Proofs.YtdacgjleiloooaaGreat
