/-
  Plain functions and the walks that lead to them, by a program of ours (gen.py): scarfjoint/scarfjointlaw17.SearchBrute.
-/
import Derived.Test.YtdacgjleiloooaaGreatGd
import Derived.Test.YtdacgjleiloooaaGreatGT
import Derived.Test.YtdacgjleiloooaaGreatB3
import Derived.Test.YtdacgjleiloooaaGreatGS
import Derived.Test.YtdacgjleiloooaaGreatGa25
import Derived.Test.YtdacgjleiloooaaGreatGa5
import Derived.Test.YtdacgjleiloooaaGreatGa2
import Derived.Test.YtdacgjleiloooaaGreatGa12
set_option linter.unusedSimpArgs false
set_option linter.unusedVariables false
namespace Go.Proofs.YtdacgjleiloooaaGreat
open Go Go.Ew Go.Proofs Go.RowKit
set_option maxRecDepth 100000
set_option maxHeartbeats 4000000 in
theorem w_law17_SearchBrute (F : Nat) (t : Gscarfjointlaw17_Drafts) (o : List Int) (A : Bool) (r : (Bool)) (h : s_law17_SearchBrute F t o A = some r) : PureA Tryz.prog 7 [AV.agg [sl_Ar2_Int (t.nodes), sl_Ar2_Int (t.edges), sl_Int_u8 (t.p.nodes), sl_Ar3_Int (t.p.edges), sl_Int_u8 (t.g.nodes), sl_Ar3_Int (t.g.edges)], sl_Int_u8 (o), AV.bool (A)] (AV.bool (r)) := by
 refine pureA_of_SW (N := 127) Tryz.func7 (by kernel_rfl) rfl (by rw [Tryz.ntmps7]; rfl) (fun σ0 => ?_)
 rw [Tryz.results7]
 obtain ⟨fr0, hfr⟩ : ∃ fr, fr = initFr [AV.agg [sl_Ar2_Int (t.nodes), sl_Ar2_Int (t.edges), sl_Int_u8 (t.p.nodes), sl_Ar3_Int (t.p.edges), sl_Int_u8 (t.g.nodes), sl_Ar3_Int (t.g.edges)], sl_Int_u8 (o), AV.bool (A)] := ⟨_, rfl⟩
 rw [← hfr]
 have f0 : fr0 0 = AV.agg [sl_Ar2_Int (t.nodes), sl_Ar2_Int (t.edges), sl_Int_u8 (t.p.nodes), sl_Ar3_Int (t.p.edges), sl_Int_u8 (t.g.nodes), sl_Ar3_Int (t.g.edges)] := by rw [hfr]; rfl
 have f1 : fr0 1 = sl_Int_u8 (o) := by rw [hfr]; rfl
 have f2 : fr0 2 = AV.bool (A) := by rw [hfr]; rfl
 clear hfr
 simp only [s_law17_SearchBrute] at h
 refine SW.seq ?_
 refine SW.regX (fun f_ t_ => ∃ b3 : Nat, f_ 1 = sl_Int_u8 (o) ∧ f_ 2 = AV.bool (A) ∧ f_ 3 = AV.ptr b3 0 ∧ Kept σ0 t_ ∧ σ0.next ≤ t_.next ∧ t_.get b3 = some [sl_Ar2_Int (t.nodes), sl_Ar2_Int (t.edges), sl_Int_u8 (t.p.nodes), sl_Ar3_Int (t.p.edges), sl_Int_u8 (t.g.nodes), sl_Ar3_Int (t.g.edges)] ∧ b3 < t_.next ∧ σ0.next ≤ b3) (fun M hM => ?_) (fun fr1 τ hm => ?_)
 ·simp [go_sem, f0, f1, f2]
  refine (hM _ _).2 ⟨σ0.next, ?_, ?_, ?_, by intro j hj; simp [go_sem, show ¬ j = σ0.next by omega], by first | omega | (simp [go_sem]; done) | (simp [go_sem]; omega), by simp (disch := omega) [get_alloc_ne, get_set_ne, get_kill_ne, go_sem, f0, f1, f2], by first | omega | (simp [go_sem]; done) | (simp [go_sem]; omega), by omega⟩ <;> simp [go_sem, f0, f1, f2]
 clear f0 f1 f2
 obtain ⟨b3, f1, f2, f3, hK, hN, gb3, ub3, wb3⟩ := hm
 refine SW.seq ?_
 obtain ⟨rx, hrx, h⟩ := obind h
 refine SW.regX (fun f_ t_ => ∃ b7 : Nat, ∃ b8 : Nat, ∃ b9 : Nat, f_ 1 = sl_Int_u8 (o) ∧ f_ 2 = AV.bool (A) ∧ f_ 7 = AV.ptr b7 0 ∧ f_ 8 = AV.ptr b8 0 ∧ f_ 9 = AV.ptr b9 0 ∧ f_ 10 = AV.bool (rx.2.2.2) ∧ Kept σ0 t_ ∧ σ0.next ≤ t_.next ∧ t_.get b7 = some [nodesA (rx.1.nodes), edgesA (rx.1.edges)] ∧ b7 < t_.next ∧ t_.get b8 = some [intsA (rx.2.1.nodes), e3sA (rx.2.1.edges)] ∧ b8 < t_.next ∧ t_.get b9 = some [intsA (rx.2.2.1.nodes), e3sA (rx.2.2.1.edges)] ∧ b9 < t_.next ∧ σ0.next ≤ b7 ∧ σ0.next ≤ b8 ∧ ¬ b7 = b8 ∧ σ0.next ≤ b9 ∧ ¬ b7 = b9 ∧ ¬ b8 = b9) (fun M hM => ?_) (fun fr2 τ1 hm => ?_)
 ·have nb3_0 : ¬ b3 = τ.next := by omega
  have nb3_1 : ¬ b3 = τ.next + 1 := by omega
  have nb3_2 : ¬ b3 = τ.next + 2 := by omega
  simp [go_sem, f1, f2, f3, gb3, nb3_0, nb3_1, nb3_2]
  refine EWcall_pure (w_law17_Drafts_parts F t _ hrx) ?_
  simp [go_sem, f1, f2, f3, gb3, nb3_0, nb3_1, nb3_2]
  refine (hM _ _).2 ⟨τ.next, (τ.next + 1), (τ.next + 2), ?_, ?_, ?_, ?_, ?_, ?_, by intro j hj; have hj_ := hK j hj; simp [go_sem, hj_.1, hj_.2, show ¬ j = τ.next by omega, show ¬ j = τ.next + 1 by omega, show ¬ j = τ.next + 2 by omega], by first | omega | (simp [go_sem]; done) | (simp [go_sem]; omega), by simp (disch := omega) [get_alloc_ne, get_set_ne, get_kill_ne, go_sem, f1, f2, f3, gb3, nb3_0, nb3_1, nb3_2], by first | omega | (simp [go_sem]; done) | (simp [go_sem]; omega), by simp (disch := omega) [get_alloc_ne, get_set_ne, get_kill_ne, go_sem, f1, f2, f3, gb3, nb3_0, nb3_1, nb3_2], by first | omega | (simp [go_sem]; done) | (simp [go_sem]; omega), by simp (disch := omega) [get_alloc_ne, get_set_ne, get_kill_ne, go_sem, f1, f2, f3, gb3, nb3_0, nb3_1, nb3_2], by first | omega | (simp [go_sem]; done) | (simp [go_sem]; omega), by omega, by omega, by omega, by omega, by omega, by omega⟩ <;> simp [go_sem, f1, f2, f3, gb3, nb3_0, nb3_1, nb3_2]
 clear f1 f2 f3 hK hN gb3 ub3
 obtain ⟨b7, b8, b9, f1, f2, f7, f8, f9, f10, hK, hN, gb7, ub7, gb8, ub8, gb9, ub9, wb7, wb8, eb7b8, wb9, eb7b9, eb8b9⟩ := hm
 refine SW.seq ?_
 refine SW.seq ?_
 obtain ⟨q, hq, h⟩ := obind h
 refine SW.regX (fun f_ t_ => τ1 = t_ ∧ f_ 1 = sl_Int_u8 (o) ∧ f_ 2 = AV.bool (A) ∧ f_ 7 = AV.ptr b7 0 ∧ f_ 8 = AV.ptr b8 0 ∧ f_ 9 = AV.ptr b9 0 ∧ f_ 40 = AV.bool ((((!q)) || ((((!rx.2.2.2)) || ((((decide (((rx.2.2.1.nodes.length : Nat) : Int) = 0))) || ((decide (10 < ((o.length : Nat) : Int))))))))))) (fun M hM => ?_) (fun fr3 τz hm => ?_)
 ·rcases Bool.eq_false_or_eq_true ((!q)) with y0 | y0
  ·have y0' := y0
   try simp at y0'
   simp [go_sem, f1, f10, f2, f7, f8, f9, gb7, gb8, gb9, y0, y0']
   refine EWcall_pure (w_law17_awake _ hq) ?_
   simp [go_sem, f1, f10, f2, f7, f8, f9, gb7, gb8, gb9, y0, y0']
   refine (hM _ _).2 ⟨rfl, ?_, ?_, ?_, ?_, ?_, ?_⟩ <;> simp [go_sem, f1, f10, f2, f7, f8, f9, gb7, gb8, gb9, y0, y0']
  ·have y0' := y0
   try simp at y0'
   rcases Bool.eq_false_or_eq_true ((!rx.2.2.2)) with y2 | y2
   ·have y2' := y2
    try simp [y0'] at y2'
    simp [go_sem, f1, f10, f2, f7, f8, f9, gb7, gb8, gb9, y0, y0', y2, y2']
    refine EWcall_pure (w_law17_awake _ hq) ?_
    simp [go_sem, f1, f10, f2, f7, f8, f9, gb7, gb8, gb9, y0, y0', y2, y2']
    refine (hM _ _).2 ⟨rfl, ?_, ?_, ?_, ?_, ?_, ?_⟩ <;> simp [go_sem, f1, f10, f2, f7, f8, f9, gb7, gb8, gb9, y0, y0', y2, y2']
   ·have y2' := y2
    try simp [y0'] at y2'
    rcases Bool.eq_false_or_eq_true ((decide (((rx.2.2.1.nodes.length : Nat) : Int) = 0))) with y4 | y4
    ·have y4' := y4
     try simp [y0', y2'] at y4'
     simp [go_sem, f1, f10, f2, f7, f8, f9, gb7, gb8, gb9, y0, y0', y2, y2', y4, y4']
     refine EWcall_pure (w_law17_awake _ hq) ?_
     simp [go_sem, f1, f10, f2, f7, f8, f9, gb7, gb8, gb9, y0, y0', y2, y2', y4, y4']
     refine (hM _ _).2 ⟨rfl, ?_, ?_, ?_, ?_, ?_, ?_⟩ <;> simp [go_sem, f1, f10, f2, f7, f8, f9, gb7, gb8, gb9, y0, y0', y2, y2', y4, y4']
    ·have y4' := y4
     try simp [y0', y2'] at y4'
     simp [go_sem, f1, f10, f2, f7, f8, f9, gb7, gb8, gb9, y0, y0', y2, y2', y4, y4']
     refine EWcall_pure (w_law17_awake _ hq) ?_
     simp [go_sem, f1, f10, f2, f7, f8, f9, gb7, gb8, gb9, y0, y0', y2, y2', y4, y4']
     refine (hM _ _).2 ⟨rfl, ?_, ?_, ?_, ?_, ?_, ?_⟩ <;> simp [go_sem, f1, f10, f2, f7, f8, f9, gb7, gb8, gb9, y0, y0', y2, y2', y4, y4']
 clear f1 f10 f2 f7 f8 f9
 obtain ⟨rfl, f1, f2, f7, f8, f9, f40⟩ := hm
 refine SW.cond _ f40 (fun hx => ?_) (fun hx => ?_)
 ·have h := condT h hx
  refine SW.seq ?_
  obtain ⟨q1, hq1, h⟩ := obind h
  refine SW.regX (fun f_ t_ => τ1 = t_ ∧ f_ 6 = AV.bool (q1)) (fun M hM => ?_) (fun fr4 τz1 hm => ?_)
  ·simp [go_sem, f1, f2, f40, f7, f8, f9, gb7, gb8, gb9]
   refine EWcall_pure (w_law17_awake _ hq1) ?_
   simp [go_sem, f1, f2, f40, f7, f8, f9, gb7, gb8, gb9]
   refine (hM _ _).2 ⟨rfl, ?_⟩ <;> simp [go_sem, f1, f2, f40, f7, f8, f9, gb7, gb8, gb9]
  clear f1 f2 f40 f7 f8 f9
  obtain ⟨rfl, f6⟩ := hm
  obtain rfl := Option.some.inj h
  exact SW.ret ⟨AV.bool (q1), by simp [go_sem, f6], .lit _, hK.keeps⟩
 have h := condF h hx
 refine SW.skip ?_
 refine SW.seq ?_
 obtain ⟨a, ha, h⟩ := obind h
 obtain ⟨pa, la, ea⟩ := mkL_spec ha
 have ca_0 : (((rx.2.1.nodes.length : Nat) : Int)) ≤ 9223372036854775807 := by omega
 have ca_1 : 8 * (((rx.2.1.nodes.length : Nat) : Int)) ≤ 281474976710656 := by omega
 have za := zerosA_map AV.int 0 (((rx.2.1.nodes.length : Nat) : Int)).toNat
 try simp at za
 obtain ⟨a1, ha1, h⟩ := obind h
 obtain ⟨pa1, la1, ea1⟩ := mkL_spec ha1
 have ca1_0 : (((rx.2.1.edges.length : Nat) : Int)) ≤ 9223372036854775807 := by omega
 have ca1_1 : 8 * (((rx.2.1.edges.length : Nat) : Int)) ≤ 281474976710656 := by omega
 have za1 := zerosA_map AV.int 0 (((rx.2.1.edges.length : Nat) : Int)).toNat
 try simp at za1
 refine SW.regX (fun f_ t_ => ∃ b11 : Nat, ∃ v : AV, ∃ v1 : AV, f_ 1 = sl_Int_u8 (o) ∧ f_ 2 = AV.bool (A) ∧ f_ 7 = AV.ptr b7 0 ∧ f_ 8 = AV.ptr b8 0 ∧ f_ 9 = AV.ptr b9 0 ∧ f_ 11 = AV.ptr b11 0 ∧ Kept σ0 t_ ∧ σ0.next ≤ t_.next ∧ t_.get b7 = some [nodesA (rx.1.nodes), edgesA (rx.1.edges)] ∧ b7 < t_.next ∧ t_.get b8 = some [intsA (rx.2.1.nodes), e3sA (rx.2.1.edges)] ∧ b8 < t_.next ∧ t_.get b9 = some [intsA (rx.2.2.1.nodes), e3sA (rx.2.2.1.edges)] ∧ b9 < t_.next ∧ t_.get b11 = some [v, v1] ∧ b11 < t_.next ∧ ArrAt σ0.next t_ v 3 (a.map AV.int) a.length 1 ∧ ArrAt σ0.next t_ v1 3 (a1.map AV.int) a1.length 1 ∧ (∀ i, idOf v = some i → ¬ i = b7) ∧ (∀ i, idOf v1 = some i → ¬ i = b7) ∧ (∀ i, idOf v = some i → ¬ i = b8) ∧ (∀ i, idOf v1 = some i → ¬ i = b8) ∧ (∀ i, idOf v = some i → ¬ i = b9) ∧ (∀ i, idOf v1 = some i → ¬ i = b9) ∧ σ0.next ≤ b11 ∧ ¬ b7 = b11 ∧ ¬ b8 = b11 ∧ ¬ b9 = b11 ∧ (∀ i, idOf v = some i → ¬ i = b11) ∧ (∀ i, idOf v1 = some i → ¬ i = b11) ∧ Apart v v1) (fun M hM => ?_) (fun fr5 τ2 hm => ?_)
 ·have nb7_0 : ¬ b7 = τ1.next := by omega
  have nb7_1 : ¬ b7 = τ1.next + 1 := by omega
  have nb7_2 : ¬ b7 = τ1.next + 2 := by omega
  have nb8_0 : ¬ b8 = τ1.next := by omega
  have nb8_1 : ¬ b8 = τ1.next + 1 := by omega
  have nb8_2 : ¬ b8 = τ1.next + 2 := by omega
  have nb9_0 : ¬ b9 = τ1.next := by omega
  have nb9_1 : ¬ b9 = τ1.next + 1 := by omega
  have nb9_2 : ¬ b9 = τ1.next + 2 := by omega
  have nb7_b8 : ¬ b7 = b8 := by omega
  have nb7_b9 : ¬ b7 = b9 := by omega
  have nb8_b7 : ¬ b8 = b7 := by omega
  have nb8_b9 : ¬ b8 = b9 := by omega
  have nb9_b7 : ¬ b9 = b7 := by omega
  have nb9_b8 : ¬ b9 = b8 := by omega
  refine EW_regionY τ1 11 (.q false 0 (.q false 1 (.q false 2 (.q false 4 (.q false 5 (.q false 6 (.both (.s 3 (.both (.s 7 (.q false 8 (.s 9 (.s 10 .done)))) (.s 9 (.s 7 (.q false 8 (.s 10 .done)))))) (.both (.s 7 (.both (.s 3 (.q false 8 (.s 9 (.s 10 .done)))) (.s 9 (.s 3 (.q false 8 (.s 10 .done)))))) (.s 9 (.both (.s 3 (.s 7 (.q false 8 (.s 10 .done)))) (.s 7 (.s 3 (.q false 8 (.s 10 .done)))))))))))))) (by kernel_rfl) (by kernel_rfl) (fun _ _ h => h) (fun hfin => ?_)
  have m0_ : τ1.get (τ1.next) = none := hfin _ (by omega)
  have m1_ : τ1.get (τ1.next + 1) = none := hfin _ (by omega)
  have m2_ : τ1.get (τ1.next + 2) = none := hfin _ (by omega)
  have hsub : Sub τ1 τ1 := (fun _ _ h => h)
  simp (maxDischargeDepth := 12) [go_sem, f1, f2, f40, f7, f8, f9, gb7, gb8, gb9, pa, ca_0, ca_1, za, pa1, ca1_0, ca1_1, za1, nb7_0, nb7_1, nb7_2, nb8_0, nb8_1, nb8_2, nb9_0, nb9_1, nb9_2, nb7_b8, nb7_b9, nb8_b7, nb8_b9, nb9_b7, nb9_b8, m0_, m1_, m2_, sub_set, sub_killAll, hsub]
  refine ⟨?_, ?_⟩
  ·refine ⟨?_, ?_⟩
   ·refine (hM _ _).2 ⟨(τ1.next + 2), AV.arr τ1.next 0 a.length 1, AV.arr (τ1.next + 1) 0 a1.length 1, ?_, ?_, ?_, ?_, ?_, ?_, by intro j hj; have hj_ := hK j hj; simp [go_sem, hj_.1, hj_.2, show ¬ j = τ1.next by omega, show ¬ j = τ1.next + 1 by omega, show ¬ j = τ1.next + 2 by omega], by first | omega | (simp [go_sem]; done) | (simp [go_sem]; omega), by simp (disch := omega) [get_alloc_ne, get_set_ne, get_kill_ne, go_sem, f1, f2, f40, f7, f8, f9, gb7, gb8, gb9, pa, ca_0, ca_1, za, pa1, ca1_0, ca1_1, za1, nb7_0, nb7_1, nb7_2, nb8_0, nb8_1, nb8_2, nb9_0, nb9_1, nb9_2, nb7_b8, nb7_b9, nb8_b7, nb8_b9, nb9_b7, nb9_b8, m0_, m1_, m2_, sub_set, sub_killAll, hsub, ea, ea1], by first | omega | (simp [go_sem]; done) | (simp [go_sem]; omega), by simp (disch := omega) [get_alloc_ne, get_set_ne, get_kill_ne, go_sem, f1, f2, f40, f7, f8, f9, gb7, gb8, gb9, pa, ca_0, ca_1, za, pa1, ca1_0, ca1_1, za1, nb7_0, nb7_1, nb7_2, nb8_0, nb8_1, nb8_2, nb9_0, nb9_1, nb9_2, nb7_b8, nb7_b9, nb8_b7, nb8_b9, nb9_b7, nb9_b8, m0_, m1_, m2_, sub_set, sub_killAll, hsub, ea, ea1], by first | omega | (simp [go_sem]; done) | (simp [go_sem]; omega), by simp (disch := omega) [get_alloc_ne, get_set_ne, get_kill_ne, go_sem, f1, f2, f40, f7, f8, f9, gb7, gb8, gb9, pa, ca_0, ca_1, za, pa1, ca1_0, ca1_1, za1, nb7_0, nb7_1, nb7_2, nb8_0, nb8_1, nb8_2, nb9_0, nb9_1, nb9_2, nb7_b8, nb7_b9, nb8_b7, nb8_b9, nb9_b7, nb9_b8, m0_, m1_, m2_, sub_set, sub_killAll, hsub, ea, ea1], by first | omega | (simp [go_sem]; done) | (simp [go_sem]; omega), by simp (disch := omega) [get_alloc_ne, get_set_ne, get_kill_ne, go_sem, f1, f2, f40, f7, f8, f9, gb7, gb8, gb9, pa, ca_0, ca_1, za, pa1, ca1_0, ca1_1, za1, nb7_0, nb7_1, nb7_2, nb8_0, nb8_1, nb8_2, nb9_0, nb9_1, nb9_2, nb7_b8, nb7_b9, nb8_b7, nb8_b9, nb9_b7, nb9_b8, m0_, m1_, m2_, sub_set, sub_killAll, hsub, ea, ea1], by first | omega | (simp [go_sem]; done) | (simp [go_sem]; omega), .inr ⟨τ1.next, rfl, by simp (disch := omega) [get_alloc_ne, get_set_ne, get_kill_ne, go_sem, f1, f2, f40, f7, f8, f9, gb7, gb8, gb9, pa, ca_0, ca_1, za, pa1, ca1_0, ca1_1, za1, nb7_0, nb7_1, nb7_2, nb8_0, nb8_1, nb8_2, nb9_0, nb9_1, nb9_2, nb7_b8, nb7_b9, nb8_b7, nb8_b9, nb9_b7, nb9_b8, m0_, m1_, m2_, sub_set, sub_killAll, hsub, ea, ea1], by simp [go_sem, f1, f2, f40, f7, f8, f9, gb7, gb8, gb9, pa, ca_0, ca_1, za, pa1, ca1_0, ca1_1, za1, nb7_0, nb7_1, nb7_2, nb8_0, nb8_1, nb8_2, nb9_0, nb9_1, nb9_2, nb7_b8, nb7_b9, nb8_b7, nb8_b9, nb9_b7, nb9_b8, m0_, m1_, m2_, sub_set, sub_killAll, hsub, ea, ea1], by omega, by first | (simp [go_sem]; done) | (simp [go_sem]; omega)⟩, .inr ⟨(τ1.next + 1), rfl, by simp (disch := omega) [get_alloc_ne, get_set_ne, get_kill_ne, go_sem, f1, f2, f40, f7, f8, f9, gb7, gb8, gb9, pa, ca_0, ca_1, za, pa1, ca1_0, ca1_1, za1, nb7_0, nb7_1, nb7_2, nb8_0, nb8_1, nb8_2, nb9_0, nb9_1, nb9_2, nb7_b8, nb7_b9, nb8_b7, nb8_b9, nb9_b7, nb9_b8, m0_, m1_, m2_, sub_set, sub_killAll, hsub, ea, ea1], by simp [go_sem, f1, f2, f40, f7, f8, f9, gb7, gb8, gb9, pa, ca_0, ca_1, za, pa1, ca1_0, ca1_1, za1, nb7_0, nb7_1, nb7_2, nb8_0, nb8_1, nb8_2, nb9_0, nb9_1, nb9_2, nb7_b8, nb7_b9, nb8_b7, nb8_b9, nb9_b7, nb9_b8, m0_, m1_, m2_, sub_set, sub_killAll, hsub, ea, ea1], by omega, by first | (simp [go_sem]; done) | (simp [go_sem]; omega)⟩, by intro i hi; first | (simp [idOf] at hi; done) | (simp [idOf] at hi; omega), by intro i hi; first | (simp [idOf] at hi; done) | (simp [idOf] at hi; omega), by intro i hi; first | (simp [idOf] at hi; done) | (simp [idOf] at hi; omega), by intro i hi; first | (simp [idOf] at hi; done) | (simp [idOf] at hi; omega), by intro i hi; first | (simp [idOf] at hi; done) | (simp [idOf] at hi; omega), by intro i hi; first | (simp [idOf] at hi; done) | (simp [idOf] at hi; omega), by omega, by omega, by omega, by omega, by intro i hi; first | (simp [idOf] at hi; done) | (simp [idOf] at hi; omega), by intro i hi; first | (simp [idOf] at hi; done) | (simp [idOf] at hi; omega), by first | exact evv1 | exact apart_symm ev1v | (intro i h1 h2; simp [idOf] at h1; done) | (intro i h1 h2; simp [idOf] at h2; done) | (intro i h1 h2; simp [idOf] at h1; simp [idOf] at h2; omega)⟩ <;> simp [go_sem, f1, f2, f40, f7, f8, f9, gb7, gb8, gb9, pa, ca_0, ca_1, za, pa1, ca1_0, ca1_1, za1, nb7_0, nb7_1, nb7_2, nb8_0, nb8_1, nb8_2, nb9_0, nb9_1, nb9_2, nb7_b8, nb7_b9, nb8_b7, nb8_b9, nb9_b7, nb9_b8, m0_, m1_, m2_, sub_set, sub_killAll, hsub, ea, ea1]
   ·refine (hM _ _).2 ⟨(τ1.next + 1), AV.arr τ1.next 0 a.length 1, AV.arr (τ1.next + 2) 0 a1.length 1, ?_, ?_, ?_, ?_, ?_, ?_, by intro j hj; have hj_ := hK j hj; simp [go_sem, hj_.1, hj_.2, show ¬ j = τ1.next by omega, show ¬ j = τ1.next + 1 by omega, show ¬ j = τ1.next + 2 by omega], by first | omega | (simp [go_sem]; done) | (simp [go_sem]; omega), by simp (disch := omega) [get_alloc_ne, get_set_ne, get_kill_ne, go_sem, f1, f2, f40, f7, f8, f9, gb7, gb8, gb9, pa, ca_0, ca_1, za, pa1, ca1_0, ca1_1, za1, nb7_0, nb7_1, nb7_2, nb8_0, nb8_1, nb8_2, nb9_0, nb9_1, nb9_2, nb7_b8, nb7_b9, nb8_b7, nb8_b9, nb9_b7, nb9_b8, m0_, m1_, m2_, sub_set, sub_killAll, hsub, ea, ea1], by first | omega | (simp [go_sem]; done) | (simp [go_sem]; omega), by simp (disch := omega) [get_alloc_ne, get_set_ne, get_kill_ne, go_sem, f1, f2, f40, f7, f8, f9, gb7, gb8, gb9, pa, ca_0, ca_1, za, pa1, ca1_0, ca1_1, za1, nb7_0, nb7_1, nb7_2, nb8_0, nb8_1, nb8_2, nb9_0, nb9_1, nb9_2, nb7_b8, nb7_b9, nb8_b7, nb8_b9, nb9_b7, nb9_b8, m0_, m1_, m2_, sub_set, sub_killAll, hsub, ea, ea1], by first | omega | (simp [go_sem]; done) | (simp [go_sem]; omega), by simp (disch := omega) [get_alloc_ne, get_set_ne, get_kill_ne, go_sem, f1, f2, f40, f7, f8, f9, gb7, gb8, gb9, pa, ca_0, ca_1, za, pa1, ca1_0, ca1_1, za1, nb7_0, nb7_1, nb7_2, nb8_0, nb8_1, nb8_2, nb9_0, nb9_1, nb9_2, nb7_b8, nb7_b9, nb8_b7, nb8_b9, nb9_b7, nb9_b8, m0_, m1_, m2_, sub_set, sub_killAll, hsub, ea, ea1], by first | omega | (simp [go_sem]; done) | (simp [go_sem]; omega), by simp (disch := omega) [get_alloc_ne, get_set_ne, get_kill_ne, go_sem, f1, f2, f40, f7, f8, f9, gb7, gb8, gb9, pa, ca_0, ca_1, za, pa1, ca1_0, ca1_1, za1, nb7_0, nb7_1, nb7_2, nb8_0, nb8_1, nb8_2, nb9_0, nb9_1, nb9_2, nb7_b8, nb7_b9, nb8_b7, nb8_b9, nb9_b7, nb9_b8, m0_, m1_, m2_, sub_set, sub_killAll, hsub, ea, ea1], by first | omega | (simp [go_sem]; done) | (simp [go_sem]; omega), .inr ⟨τ1.next, rfl, by simp (disch := omega) [get_alloc_ne, get_set_ne, get_kill_ne, go_sem, f1, f2, f40, f7, f8, f9, gb7, gb8, gb9, pa, ca_0, ca_1, za, pa1, ca1_0, ca1_1, za1, nb7_0, nb7_1, nb7_2, nb8_0, nb8_1, nb8_2, nb9_0, nb9_1, nb9_2, nb7_b8, nb7_b9, nb8_b7, nb8_b9, nb9_b7, nb9_b8, m0_, m1_, m2_, sub_set, sub_killAll, hsub, ea, ea1], by simp [go_sem, f1, f2, f40, f7, f8, f9, gb7, gb8, gb9, pa, ca_0, ca_1, za, pa1, ca1_0, ca1_1, za1, nb7_0, nb7_1, nb7_2, nb8_0, nb8_1, nb8_2, nb9_0, nb9_1, nb9_2, nb7_b8, nb7_b9, nb8_b7, nb8_b9, nb9_b7, nb9_b8, m0_, m1_, m2_, sub_set, sub_killAll, hsub, ea, ea1], by omega, by first | (simp [go_sem]; done) | (simp [go_sem]; omega)⟩, .inr ⟨(τ1.next + 2), rfl, by simp (disch := omega) [get_alloc_ne, get_set_ne, get_kill_ne, go_sem, f1, f2, f40, f7, f8, f9, gb7, gb8, gb9, pa, ca_0, ca_1, za, pa1, ca1_0, ca1_1, za1, nb7_0, nb7_1, nb7_2, nb8_0, nb8_1, nb8_2, nb9_0, nb9_1, nb9_2, nb7_b8, nb7_b9, nb8_b7, nb8_b9, nb9_b7, nb9_b8, m0_, m1_, m2_, sub_set, sub_killAll, hsub, ea, ea1], by simp [go_sem, f1, f2, f40, f7, f8, f9, gb7, gb8, gb9, pa, ca_0, ca_1, za, pa1, ca1_0, ca1_1, za1, nb7_0, nb7_1, nb7_2, nb8_0, nb8_1, nb8_2, nb9_0, nb9_1, nb9_2, nb7_b8, nb7_b9, nb8_b7, nb8_b9, nb9_b7, nb9_b8, m0_, m1_, m2_, sub_set, sub_killAll, hsub, ea, ea1], by omega, by first | (simp [go_sem]; done) | (simp [go_sem]; omega)⟩, by intro i hi; first | (simp [idOf] at hi; done) | (simp [idOf] at hi; omega), by intro i hi; first | (simp [idOf] at hi; done) | (simp [idOf] at hi; omega), by intro i hi; first | (simp [idOf] at hi; done) | (simp [idOf] at hi; omega), by intro i hi; first | (simp [idOf] at hi; done) | (simp [idOf] at hi; omega), by intro i hi; first | (simp [idOf] at hi; done) | (simp [idOf] at hi; omega), by intro i hi; first | (simp [idOf] at hi; done) | (simp [idOf] at hi; omega), by omega, by omega, by omega, by omega, by intro i hi; first | (simp [idOf] at hi; done) | (simp [idOf] at hi; omega), by intro i hi; first | (simp [idOf] at hi; done) | (simp [idOf] at hi; omega), by first | exact evv1 | exact apart_symm ev1v | (intro i h1 h2; simp [idOf] at h1; done) | (intro i h1 h2; simp [idOf] at h2; done) | (intro i h1 h2; simp [idOf] at h1; simp [idOf] at h2; omega)⟩ <;> simp [go_sem, f1, f2, f40, f7, f8, f9, gb7, gb8, gb9, pa, ca_0, ca_1, za, pa1, ca1_0, ca1_1, za1, nb7_0, nb7_1, nb7_2, nb8_0, nb8_1, nb8_2, nb9_0, nb9_1, nb9_2, nb7_b8, nb7_b9, nb8_b7, nb8_b9, nb9_b7, nb9_b8, m0_, m1_, m2_, sub_set, sub_killAll, hsub, ea, ea1]
  ·refine ⟨?_, ?_⟩
   ·refine ⟨?_, ?_⟩
    ·refine (hM _ _).2 ⟨(τ1.next + 2), AV.arr (τ1.next + 1) 0 a.length 1, AV.arr τ1.next 0 a1.length 1, ?_, ?_, ?_, ?_, ?_, ?_, by intro j hj; have hj_ := hK j hj; simp [go_sem, hj_.1, hj_.2, show ¬ j = τ1.next by omega, show ¬ j = τ1.next + 1 by omega, show ¬ j = τ1.next + 2 by omega], by first | omega | (simp [go_sem]; done) | (simp [go_sem]; omega), by simp (disch := omega) [get_alloc_ne, get_set_ne, get_kill_ne, go_sem, f1, f2, f40, f7, f8, f9, gb7, gb8, gb9, pa, ca_0, ca_1, za, pa1, ca1_0, ca1_1, za1, nb7_0, nb7_1, nb7_2, nb8_0, nb8_1, nb8_2, nb9_0, nb9_1, nb9_2, nb7_b8, nb7_b9, nb8_b7, nb8_b9, nb9_b7, nb9_b8, m0_, m1_, m2_, sub_set, sub_killAll, hsub, ea, ea1], by first | omega | (simp [go_sem]; done) | (simp [go_sem]; omega), by simp (disch := omega) [get_alloc_ne, get_set_ne, get_kill_ne, go_sem, f1, f2, f40, f7, f8, f9, gb7, gb8, gb9, pa, ca_0, ca_1, za, pa1, ca1_0, ca1_1, za1, nb7_0, nb7_1, nb7_2, nb8_0, nb8_1, nb8_2, nb9_0, nb9_1, nb9_2, nb7_b8, nb7_b9, nb8_b7, nb8_b9, nb9_b7, nb9_b8, m0_, m1_, m2_, sub_set, sub_killAll, hsub, ea, ea1], by first | omega | (simp [go_sem]; done) | (simp [go_sem]; omega), by simp (disch := omega) [get_alloc_ne, get_set_ne, get_kill_ne, go_sem, f1, f2, f40, f7, f8, f9, gb7, gb8, gb9, pa, ca_0, ca_1, za, pa1, ca1_0, ca1_1, za1, nb7_0, nb7_1, nb7_2, nb8_0, nb8_1, nb8_2, nb9_0, nb9_1, nb9_2, nb7_b8, nb7_b9, nb8_b7, nb8_b9, nb9_b7, nb9_b8, m0_, m1_, m2_, sub_set, sub_killAll, hsub, ea, ea1], by first | omega | (simp [go_sem]; done) | (simp [go_sem]; omega), by simp (disch := omega) [get_alloc_ne, get_set_ne, get_kill_ne, go_sem, f1, f2, f40, f7, f8, f9, gb7, gb8, gb9, pa, ca_0, ca_1, za, pa1, ca1_0, ca1_1, za1, nb7_0, nb7_1, nb7_2, nb8_0, nb8_1, nb8_2, nb9_0, nb9_1, nb9_2, nb7_b8, nb7_b9, nb8_b7, nb8_b9, nb9_b7, nb9_b8, m0_, m1_, m2_, sub_set, sub_killAll, hsub, ea, ea1], by first | omega | (simp [go_sem]; done) | (simp [go_sem]; omega), .inr ⟨(τ1.next + 1), rfl, by simp (disch := omega) [get_alloc_ne, get_set_ne, get_kill_ne, go_sem, f1, f2, f40, f7, f8, f9, gb7, gb8, gb9, pa, ca_0, ca_1, za, pa1, ca1_0, ca1_1, za1, nb7_0, nb7_1, nb7_2, nb8_0, nb8_1, nb8_2, nb9_0, nb9_1, nb9_2, nb7_b8, nb7_b9, nb8_b7, nb8_b9, nb9_b7, nb9_b8, m0_, m1_, m2_, sub_set, sub_killAll, hsub, ea, ea1], by simp [go_sem, f1, f2, f40, f7, f8, f9, gb7, gb8, gb9, pa, ca_0, ca_1, za, pa1, ca1_0, ca1_1, za1, nb7_0, nb7_1, nb7_2, nb8_0, nb8_1, nb8_2, nb9_0, nb9_1, nb9_2, nb7_b8, nb7_b9, nb8_b7, nb8_b9, nb9_b7, nb9_b8, m0_, m1_, m2_, sub_set, sub_killAll, hsub, ea, ea1], by omega, by first | (simp [go_sem]; done) | (simp [go_sem]; omega)⟩, .inr ⟨τ1.next, rfl, by simp (disch := omega) [get_alloc_ne, get_set_ne, get_kill_ne, go_sem, f1, f2, f40, f7, f8, f9, gb7, gb8, gb9, pa, ca_0, ca_1, za, pa1, ca1_0, ca1_1, za1, nb7_0, nb7_1, nb7_2, nb8_0, nb8_1, nb8_2, nb9_0, nb9_1, nb9_2, nb7_b8, nb7_b9, nb8_b7, nb8_b9, nb9_b7, nb9_b8, m0_, m1_, m2_, sub_set, sub_killAll, hsub, ea, ea1], by simp [go_sem, f1, f2, f40, f7, f8, f9, gb7, gb8, gb9, pa, ca_0, ca_1, za, pa1, ca1_0, ca1_1, za1, nb7_0, nb7_1, nb7_2, nb8_0, nb8_1, nb8_2, nb9_0, nb9_1, nb9_2, nb7_b8, nb7_b9, nb8_b7, nb8_b9, nb9_b7, nb9_b8, m0_, m1_, m2_, sub_set, sub_killAll, hsub, ea, ea1], by omega, by first | (simp [go_sem]; done) | (simp [go_sem]; omega)⟩, by intro i hi; first | (simp [idOf] at hi; done) | (simp [idOf] at hi; omega), by intro i hi; first | (simp [idOf] at hi; done) | (simp [idOf] at hi; omega), by intro i hi; first | (simp [idOf] at hi; done) | (simp [idOf] at hi; omega), by intro i hi; first | (simp [idOf] at hi; done) | (simp [idOf] at hi; omega), by intro i hi; first | (simp [idOf] at hi; done) | (simp [idOf] at hi; omega), by intro i hi; first | (simp [idOf] at hi; done) | (simp [idOf] at hi; omega), by omega, by omega, by omega, by omega, by intro i hi; first | (simp [idOf] at hi; done) | (simp [idOf] at hi; omega), by intro i hi; first | (simp [idOf] at hi; done) | (simp [idOf] at hi; omega), by first | exact evv1 | exact apart_symm ev1v | (intro i h1 h2; simp [idOf] at h1; done) | (intro i h1 h2; simp [idOf] at h2; done) | (intro i h1 h2; simp [idOf] at h1; simp [idOf] at h2; omega)⟩ <;> simp [go_sem, f1, f2, f40, f7, f8, f9, gb7, gb8, gb9, pa, ca_0, ca_1, za, pa1, ca1_0, ca1_1, za1, nb7_0, nb7_1, nb7_2, nb8_0, nb8_1, nb8_2, nb9_0, nb9_1, nb9_2, nb7_b8, nb7_b9, nb8_b7, nb8_b9, nb9_b7, nb9_b8, m0_, m1_, m2_, sub_set, sub_killAll, hsub, ea, ea1]
    ·refine (hM _ _).2 ⟨(τ1.next + 1), AV.arr (τ1.next + 2) 0 a.length 1, AV.arr τ1.next 0 a1.length 1, ?_, ?_, ?_, ?_, ?_, ?_, by intro j hj; have hj_ := hK j hj; simp [go_sem, hj_.1, hj_.2, show ¬ j = τ1.next by omega, show ¬ j = τ1.next + 1 by omega, show ¬ j = τ1.next + 2 by omega], by first | omega | (simp [go_sem]; done) | (simp [go_sem]; omega), by simp (disch := omega) [get_alloc_ne, get_set_ne, get_kill_ne, go_sem, f1, f2, f40, f7, f8, f9, gb7, gb8, gb9, pa, ca_0, ca_1, za, pa1, ca1_0, ca1_1, za1, nb7_0, nb7_1, nb7_2, nb8_0, nb8_1, nb8_2, nb9_0, nb9_1, nb9_2, nb7_b8, nb7_b9, nb8_b7, nb8_b9, nb9_b7, nb9_b8, m0_, m1_, m2_, sub_set, sub_killAll, hsub, ea, ea1], by first | omega | (simp [go_sem]; done) | (simp [go_sem]; omega), by simp (disch := omega) [get_alloc_ne, get_set_ne, get_kill_ne, go_sem, f1, f2, f40, f7, f8, f9, gb7, gb8, gb9, pa, ca_0, ca_1, za, pa1, ca1_0, ca1_1, za1, nb7_0, nb7_1, nb7_2, nb8_0, nb8_1, nb8_2, nb9_0, nb9_1, nb9_2, nb7_b8, nb7_b9, nb8_b7, nb8_b9, nb9_b7, nb9_b8, m0_, m1_, m2_, sub_set, sub_killAll, hsub, ea, ea1], by first | omega | (simp [go_sem]; done) | (simp [go_sem]; omega), by simp (disch := omega) [get_alloc_ne, get_set_ne, get_kill_ne, go_sem, f1, f2, f40, f7, f8, f9, gb7, gb8, gb9, pa, ca_0, ca_1, za, pa1, ca1_0, ca1_1, za1, nb7_0, nb7_1, nb7_2, nb8_0, nb8_1, nb8_2, nb9_0, nb9_1, nb9_2, nb7_b8, nb7_b9, nb8_b7, nb8_b9, nb9_b7, nb9_b8, m0_, m1_, m2_, sub_set, sub_killAll, hsub, ea, ea1], by first | omega | (simp [go_sem]; done) | (simp [go_sem]; omega), by simp (disch := omega) [get_alloc_ne, get_set_ne, get_kill_ne, go_sem, f1, f2, f40, f7, f8, f9, gb7, gb8, gb9, pa, ca_0, ca_1, za, pa1, ca1_0, ca1_1, za1, nb7_0, nb7_1, nb7_2, nb8_0, nb8_1, nb8_2, nb9_0, nb9_1, nb9_2, nb7_b8, nb7_b9, nb8_b7, nb8_b9, nb9_b7, nb9_b8, m0_, m1_, m2_, sub_set, sub_killAll, hsub, ea, ea1], by first | omega | (simp [go_sem]; done) | (simp [go_sem]; omega), .inr ⟨(τ1.next + 2), rfl, by simp (disch := omega) [get_alloc_ne, get_set_ne, get_kill_ne, go_sem, f1, f2, f40, f7, f8, f9, gb7, gb8, gb9, pa, ca_0, ca_1, za, pa1, ca1_0, ca1_1, za1, nb7_0, nb7_1, nb7_2, nb8_0, nb8_1, nb8_2, nb9_0, nb9_1, nb9_2, nb7_b8, nb7_b9, nb8_b7, nb8_b9, nb9_b7, nb9_b8, m0_, m1_, m2_, sub_set, sub_killAll, hsub, ea, ea1], by simp [go_sem, f1, f2, f40, f7, f8, f9, gb7, gb8, gb9, pa, ca_0, ca_1, za, pa1, ca1_0, ca1_1, za1, nb7_0, nb7_1, nb7_2, nb8_0, nb8_1, nb8_2, nb9_0, nb9_1, nb9_2, nb7_b8, nb7_b9, nb8_b7, nb8_b9, nb9_b7, nb9_b8, m0_, m1_, m2_, sub_set, sub_killAll, hsub, ea, ea1], by omega, by first | (simp [go_sem]; done) | (simp [go_sem]; omega)⟩, .inr ⟨τ1.next, rfl, by simp (disch := omega) [get_alloc_ne, get_set_ne, get_kill_ne, go_sem, f1, f2, f40, f7, f8, f9, gb7, gb8, gb9, pa, ca_0, ca_1, za, pa1, ca1_0, ca1_1, za1, nb7_0, nb7_1, nb7_2, nb8_0, nb8_1, nb8_2, nb9_0, nb9_1, nb9_2, nb7_b8, nb7_b9, nb8_b7, nb8_b9, nb9_b7, nb9_b8, m0_, m1_, m2_, sub_set, sub_killAll, hsub, ea, ea1], by simp [go_sem, f1, f2, f40, f7, f8, f9, gb7, gb8, gb9, pa, ca_0, ca_1, za, pa1, ca1_0, ca1_1, za1, nb7_0, nb7_1, nb7_2, nb8_0, nb8_1, nb8_2, nb9_0, nb9_1, nb9_2, nb7_b8, nb7_b9, nb8_b7, nb8_b9, nb9_b7, nb9_b8, m0_, m1_, m2_, sub_set, sub_killAll, hsub, ea, ea1], by omega, by first | (simp [go_sem]; done) | (simp [go_sem]; omega)⟩, by intro i hi; first | (simp [idOf] at hi; done) | (simp [idOf] at hi; omega), by intro i hi; first | (simp [idOf] at hi; done) | (simp [idOf] at hi; omega), by intro i hi; first | (simp [idOf] at hi; done) | (simp [idOf] at hi; omega), by intro i hi; first | (simp [idOf] at hi; done) | (simp [idOf] at hi; omega), by intro i hi; first | (simp [idOf] at hi; done) | (simp [idOf] at hi; omega), by intro i hi; first | (simp [idOf] at hi; done) | (simp [idOf] at hi; omega), by omega, by omega, by omega, by omega, by intro i hi; first | (simp [idOf] at hi; done) | (simp [idOf] at hi; omega), by intro i hi; first | (simp [idOf] at hi; done) | (simp [idOf] at hi; omega), by first | exact evv1 | exact apart_symm ev1v | (intro i h1 h2; simp [idOf] at h1; done) | (intro i h1 h2; simp [idOf] at h2; done) | (intro i h1 h2; simp [idOf] at h1; simp [idOf] at h2; omega)⟩ <;> simp [go_sem, f1, f2, f40, f7, f8, f9, gb7, gb8, gb9, pa, ca_0, ca_1, za, pa1, ca1_0, ca1_1, za1, nb7_0, nb7_1, nb7_2, nb8_0, nb8_1, nb8_2, nb9_0, nb9_1, nb9_2, nb7_b8, nb7_b9, nb8_b7, nb8_b9, nb9_b7, nb9_b8, m0_, m1_, m2_, sub_set, sub_killAll, hsub, ea, ea1]
   ·refine ⟨?_, ?_⟩
    ·refine (hM _ _).2 ⟨τ1.next, AV.arr (τ1.next + 1) 0 a.length 1, AV.arr (τ1.next + 2) 0 a1.length 1, ?_, ?_, ?_, ?_, ?_, ?_, by intro j hj; have hj_ := hK j hj; simp [go_sem, hj_.1, hj_.2, show ¬ j = τ1.next by omega, show ¬ j = τ1.next + 1 by omega, show ¬ j = τ1.next + 2 by omega], by first | omega | (simp [go_sem]; done) | (simp [go_sem]; omega), by simp (disch := omega) [get_alloc_ne, get_set_ne, get_kill_ne, go_sem, f1, f2, f40, f7, f8, f9, gb7, gb8, gb9, pa, ca_0, ca_1, za, pa1, ca1_0, ca1_1, za1, nb7_0, nb7_1, nb7_2, nb8_0, nb8_1, nb8_2, nb9_0, nb9_1, nb9_2, nb7_b8, nb7_b9, nb8_b7, nb8_b9, nb9_b7, nb9_b8, m0_, m1_, m2_, sub_set, sub_killAll, hsub, ea, ea1], by first | omega | (simp [go_sem]; done) | (simp [go_sem]; omega), by simp (disch := omega) [get_alloc_ne, get_set_ne, get_kill_ne, go_sem, f1, f2, f40, f7, f8, f9, gb7, gb8, gb9, pa, ca_0, ca_1, za, pa1, ca1_0, ca1_1, za1, nb7_0, nb7_1, nb7_2, nb8_0, nb8_1, nb8_2, nb9_0, nb9_1, nb9_2, nb7_b8, nb7_b9, nb8_b7, nb8_b9, nb9_b7, nb9_b8, m0_, m1_, m2_, sub_set, sub_killAll, hsub, ea, ea1], by first | omega | (simp [go_sem]; done) | (simp [go_sem]; omega), by simp (disch := omega) [get_alloc_ne, get_set_ne, get_kill_ne, go_sem, f1, f2, f40, f7, f8, f9, gb7, gb8, gb9, pa, ca_0, ca_1, za, pa1, ca1_0, ca1_1, za1, nb7_0, nb7_1, nb7_2, nb8_0, nb8_1, nb8_2, nb9_0, nb9_1, nb9_2, nb7_b8, nb7_b9, nb8_b7, nb8_b9, nb9_b7, nb9_b8, m0_, m1_, m2_, sub_set, sub_killAll, hsub, ea, ea1], by first | omega | (simp [go_sem]; done) | (simp [go_sem]; omega), by simp (disch := omega) [get_alloc_ne, get_set_ne, get_kill_ne, go_sem, f1, f2, f40, f7, f8, f9, gb7, gb8, gb9, pa, ca_0, ca_1, za, pa1, ca1_0, ca1_1, za1, nb7_0, nb7_1, nb7_2, nb8_0, nb8_1, nb8_2, nb9_0, nb9_1, nb9_2, nb7_b8, nb7_b9, nb8_b7, nb8_b9, nb9_b7, nb9_b8, m0_, m1_, m2_, sub_set, sub_killAll, hsub, ea, ea1], by first | omega | (simp [go_sem]; done) | (simp [go_sem]; omega), .inr ⟨(τ1.next + 1), rfl, by simp (disch := omega) [get_alloc_ne, get_set_ne, get_kill_ne, go_sem, f1, f2, f40, f7, f8, f9, gb7, gb8, gb9, pa, ca_0, ca_1, za, pa1, ca1_0, ca1_1, za1, nb7_0, nb7_1, nb7_2, nb8_0, nb8_1, nb8_2, nb9_0, nb9_1, nb9_2, nb7_b8, nb7_b9, nb8_b7, nb8_b9, nb9_b7, nb9_b8, m0_, m1_, m2_, sub_set, sub_killAll, hsub, ea, ea1], by simp [go_sem, f1, f2, f40, f7, f8, f9, gb7, gb8, gb9, pa, ca_0, ca_1, za, pa1, ca1_0, ca1_1, za1, nb7_0, nb7_1, nb7_2, nb8_0, nb8_1, nb8_2, nb9_0, nb9_1, nb9_2, nb7_b8, nb7_b9, nb8_b7, nb8_b9, nb9_b7, nb9_b8, m0_, m1_, m2_, sub_set, sub_killAll, hsub, ea, ea1], by omega, by first | (simp [go_sem]; done) | (simp [go_sem]; omega)⟩, .inr ⟨(τ1.next + 2), rfl, by simp (disch := omega) [get_alloc_ne, get_set_ne, get_kill_ne, go_sem, f1, f2, f40, f7, f8, f9, gb7, gb8, gb9, pa, ca_0, ca_1, za, pa1, ca1_0, ca1_1, za1, nb7_0, nb7_1, nb7_2, nb8_0, nb8_1, nb8_2, nb9_0, nb9_1, nb9_2, nb7_b8, nb7_b9, nb8_b7, nb8_b9, nb9_b7, nb9_b8, m0_, m1_, m2_, sub_set, sub_killAll, hsub, ea, ea1], by simp [go_sem, f1, f2, f40, f7, f8, f9, gb7, gb8, gb9, pa, ca_0, ca_1, za, pa1, ca1_0, ca1_1, za1, nb7_0, nb7_1, nb7_2, nb8_0, nb8_1, nb8_2, nb9_0, nb9_1, nb9_2, nb7_b8, nb7_b9, nb8_b7, nb8_b9, nb9_b7, nb9_b8, m0_, m1_, m2_, sub_set, sub_killAll, hsub, ea, ea1], by omega, by first | (simp [go_sem]; done) | (simp [go_sem]; omega)⟩, by intro i hi; first | (simp [idOf] at hi; done) | (simp [idOf] at hi; omega), by intro i hi; first | (simp [idOf] at hi; done) | (simp [idOf] at hi; omega), by intro i hi; first | (simp [idOf] at hi; done) | (simp [idOf] at hi; omega), by intro i hi; first | (simp [idOf] at hi; done) | (simp [idOf] at hi; omega), by intro i hi; first | (simp [idOf] at hi; done) | (simp [idOf] at hi; omega), by intro i hi; first | (simp [idOf] at hi; done) | (simp [idOf] at hi; omega), by omega, by omega, by omega, by omega, by intro i hi; first | (simp [idOf] at hi; done) | (simp [idOf] at hi; omega), by intro i hi; first | (simp [idOf] at hi; done) | (simp [idOf] at hi; omega), by first | exact evv1 | exact apart_symm ev1v | (intro i h1 h2; simp [idOf] at h1; done) | (intro i h1 h2; simp [idOf] at h2; done) | (intro i h1 h2; simp [idOf] at h1; simp [idOf] at h2; omega)⟩ <;> simp [go_sem, f1, f2, f40, f7, f8, f9, gb7, gb8, gb9, pa, ca_0, ca_1, za, pa1, ca1_0, ca1_1, za1, nb7_0, nb7_1, nb7_2, nb8_0, nb8_1, nb8_2, nb9_0, nb9_1, nb9_2, nb7_b8, nb7_b9, nb8_b7, nb8_b9, nb9_b7, nb9_b8, m0_, m1_, m2_, sub_set, sub_killAll, hsub, ea, ea1]
    ·refine (hM _ _).2 ⟨τ1.next, AV.arr (τ1.next + 2) 0 a.length 1, AV.arr (τ1.next + 1) 0 a1.length 1, ?_, ?_, ?_, ?_, ?_, ?_, by intro j hj; have hj_ := hK j hj; simp [go_sem, hj_.1, hj_.2, show ¬ j = τ1.next by omega, show ¬ j = τ1.next + 1 by omega, show ¬ j = τ1.next + 2 by omega], by first | omega | (simp [go_sem]; done) | (simp [go_sem]; omega), by simp (disch := omega) [get_alloc_ne, get_set_ne, get_kill_ne, go_sem, f1, f2, f40, f7, f8, f9, gb7, gb8, gb9, pa, ca_0, ca_1, za, pa1, ca1_0, ca1_1, za1, nb7_0, nb7_1, nb7_2, nb8_0, nb8_1, nb8_2, nb9_0, nb9_1, nb9_2, nb7_b8, nb7_b9, nb8_b7, nb8_b9, nb9_b7, nb9_b8, m0_, m1_, m2_, sub_set, sub_killAll, hsub, ea, ea1], by first | omega | (simp [go_sem]; done) | (simp [go_sem]; omega), by simp (disch := omega) [get_alloc_ne, get_set_ne, get_kill_ne, go_sem, f1, f2, f40, f7, f8, f9, gb7, gb8, gb9, pa, ca_0, ca_1, za, pa1, ca1_0, ca1_1, za1, nb7_0, nb7_1, nb7_2, nb8_0, nb8_1, nb8_2, nb9_0, nb9_1, nb9_2, nb7_b8, nb7_b9, nb8_b7, nb8_b9, nb9_b7, nb9_b8, m0_, m1_, m2_, sub_set, sub_killAll, hsub, ea, ea1], by first | omega | (simp [go_sem]; done) | (simp [go_sem]; omega), by simp (disch := omega) [get_alloc_ne, get_set_ne, get_kill_ne, go_sem, f1, f2, f40, f7, f8, f9, gb7, gb8, gb9, pa, ca_0, ca_1, za, pa1, ca1_0, ca1_1, za1, nb7_0, nb7_1, nb7_2, nb8_0, nb8_1, nb8_2, nb9_0, nb9_1, nb9_2, nb7_b8, nb7_b9, nb8_b7, nb8_b9, nb9_b7, nb9_b8, m0_, m1_, m2_, sub_set, sub_killAll, hsub, ea, ea1], by first | omega | (simp [go_sem]; done) | (simp [go_sem]; omega), by simp (disch := omega) [get_alloc_ne, get_set_ne, get_kill_ne, go_sem, f1, f2, f40, f7, f8, f9, gb7, gb8, gb9, pa, ca_0, ca_1, za, pa1, ca1_0, ca1_1, za1, nb7_0, nb7_1, nb7_2, nb8_0, nb8_1, nb8_2, nb9_0, nb9_1, nb9_2, nb7_b8, nb7_b9, nb8_b7, nb8_b9, nb9_b7, nb9_b8, m0_, m1_, m2_, sub_set, sub_killAll, hsub, ea, ea1], by first | omega | (simp [go_sem]; done) | (simp [go_sem]; omega), .inr ⟨(τ1.next + 2), rfl, by simp (disch := omega) [get_alloc_ne, get_set_ne, get_kill_ne, go_sem, f1, f2, f40, f7, f8, f9, gb7, gb8, gb9, pa, ca_0, ca_1, za, pa1, ca1_0, ca1_1, za1, nb7_0, nb7_1, nb7_2, nb8_0, nb8_1, nb8_2, nb9_0, nb9_1, nb9_2, nb7_b8, nb7_b9, nb8_b7, nb8_b9, nb9_b7, nb9_b8, m0_, m1_, m2_, sub_set, sub_killAll, hsub, ea, ea1], by simp [go_sem, f1, f2, f40, f7, f8, f9, gb7, gb8, gb9, pa, ca_0, ca_1, za, pa1, ca1_0, ca1_1, za1, nb7_0, nb7_1, nb7_2, nb8_0, nb8_1, nb8_2, nb9_0, nb9_1, nb9_2, nb7_b8, nb7_b9, nb8_b7, nb8_b9, nb9_b7, nb9_b8, m0_, m1_, m2_, sub_set, sub_killAll, hsub, ea, ea1], by omega, by first | (simp [go_sem]; done) | (simp [go_sem]; omega)⟩, .inr ⟨(τ1.next + 1), rfl, by simp (disch := omega) [get_alloc_ne, get_set_ne, get_kill_ne, go_sem, f1, f2, f40, f7, f8, f9, gb7, gb8, gb9, pa, ca_0, ca_1, za, pa1, ca1_0, ca1_1, za1, nb7_0, nb7_1, nb7_2, nb8_0, nb8_1, nb8_2, nb9_0, nb9_1, nb9_2, nb7_b8, nb7_b9, nb8_b7, nb8_b9, nb9_b7, nb9_b8, m0_, m1_, m2_, sub_set, sub_killAll, hsub, ea, ea1], by simp [go_sem, f1, f2, f40, f7, f8, f9, gb7, gb8, gb9, pa, ca_0, ca_1, za, pa1, ca1_0, ca1_1, za1, nb7_0, nb7_1, nb7_2, nb8_0, nb8_1, nb8_2, nb9_0, nb9_1, nb9_2, nb7_b8, nb7_b9, nb8_b7, nb8_b9, nb9_b7, nb9_b8, m0_, m1_, m2_, sub_set, sub_killAll, hsub, ea, ea1], by omega, by first | (simp [go_sem]; done) | (simp [go_sem]; omega)⟩, by intro i hi; first | (simp [idOf] at hi; done) | (simp [idOf] at hi; omega), by intro i hi; first | (simp [idOf] at hi; done) | (simp [idOf] at hi; omega), by intro i hi; first | (simp [idOf] at hi; done) | (simp [idOf] at hi; omega), by intro i hi; first | (simp [idOf] at hi; done) | (simp [idOf] at hi; omega), by intro i hi; first | (simp [idOf] at hi; done) | (simp [idOf] at hi; omega), by intro i hi; first | (simp [idOf] at hi; done) | (simp [idOf] at hi; omega), by omega, by omega, by omega, by omega, by intro i hi; first | (simp [idOf] at hi; done) | (simp [idOf] at hi; omega), by intro i hi; first | (simp [idOf] at hi; done) | (simp [idOf] at hi; omega), by first | exact evv1 | exact apart_symm ev1v | (intro i h1 h2; simp [idOf] at h1; done) | (intro i h1 h2; simp [idOf] at h2; done) | (intro i h1 h2; simp [idOf] at h1; simp [idOf] at h2; omega)⟩ <;> simp [go_sem, f1, f2, f40, f7, f8, f9, gb7, gb8, gb9, pa, ca_0, ca_1, za, pa1, ca1_0, ca1_1, za1, nb7_0, nb7_1, nb7_2, nb8_0, nb8_1, nb8_2, nb9_0, nb9_1, nb9_2, nb7_b8, nb7_b9, nb8_b7, nb8_b9, nb9_b7, nb9_b8, m0_, m1_, m2_, sub_set, sub_killAll, hsub, ea, ea1]
 clear f1 f2 f40 f7 f8 f9 hK hN gb7 ub7 gb8 ub8 gb9 ub9
 obtain ⟨b11, v, v1, f1, f2, f7, f8, f9, f11, hK, hN, gb7, ub7, gb8, ub8, gb9, ub9, gb11, ub11, av, av1, evb7, ev1b7, evb8, ev1b8, evb9, ev1b9, wb11, eb7b11, eb8b11, eb9b11, evb11, ev1b11, evv1⟩ := hm
 refine SW.seq ?_
 refine SW.seq ?_
 refine SW.regX (fun f_ t_ => τ2 = t_ ∧ f_ 1 = sl_Int_u8 (o) ∧ f_ 2 = AV.bool (A) ∧ f_ 7 = AV.ptr b7 0 ∧ f_ 8 = AV.ptr b8 0 ∧ f_ 9 = AV.ptr b9 0 ∧ f_ 11 = AV.ptr b11 0 ∧ f_ 52 = AV.int (((o.length : Nat) : Int)) ∧ f_ 53 = AV.int (0)) (fun M hM => ?_) (fun fr6 τz2 hm => ?_)
 ·simp [go_sem, f1, f11, f2, f7, f8, f9, gb7, gb8, gb9, gb11]
  refine (hM _ _).2 ⟨rfl, ?_, ?_, ?_, ?_, ?_, ?_, ?_, ?_⟩ <;> simp [go_sem, f1, f11, f2, f7, f8, f9, gb7, gb8, gb9, gb11]
 clear f1 f11 f2 f7 f8 f9
 obtain ⟨rfl, f1, f2, f7, f8, f9, f11, f52, f53⟩ := hm
 obtain ⟨oi, hruni, hoi⟩ := obind h
 refine SW.len 1 f1 (fun hbigi => ?_)
 obtain ⟨KL, hKL⟩ : ∃ KL : Fr → Mem → Prop, ∀ fr' τ', KL fr' τ' ↔ (∃ x : List Int, ∃ x1 : List Int, ∃ v2 : AV, ∃ v3 : AV, oi = .done (x, x1) ∧ fr' 2 = AV.bool (A) ∧ fr' 7 = AV.ptr b7 0 ∧ fr' 8 = AV.ptr b8 0 ∧ fr' 9 = AV.ptr b9 0 ∧ fr' 11 = AV.ptr b11 0 ∧ Kept σ0 τ' ∧ σ0.next ≤ τ'.next ∧ τ'.get b7 = some [nodesA (rx.1.nodes), edgesA (rx.1.edges)] ∧ b7 < τ'.next ∧ τ'.get b8 = some [intsA (rx.2.1.nodes), e3sA (rx.2.1.edges)] ∧ b8 < τ'.next ∧ τ'.get b9 = some [intsA (rx.2.2.1.nodes), e3sA (rx.2.2.1.edges)] ∧ b9 < τ'.next ∧ τ'.get b11 = some [v2, v3] ∧ b11 < τ'.next ∧ ArrAt σ0.next τ' v2 3 (x.map AV.int) x.length 1 ∧ x.length = a.length ∧ ArrAt σ0.next τ' v3 3 (x1.map AV.int) x1.length 1 ∧ x1.length = a1.length ∧ (∀ i, idOf v2 = some i → ¬ i = b7) ∧ (∀ i, idOf v3 = some i → ¬ i = b7) ∧ (∀ i, idOf v2 = some i → ¬ i = b8) ∧ (∀ i, idOf v3 = some i → ¬ i = b8) ∧ (∀ i, idOf v2 = some i → ¬ i = b9) ∧ (∀ i, idOf v3 = some i → ¬ i = b9) ∧ (∀ i, idOf v2 = some i → ¬ i = b11) ∧ (∀ i, idOf v3 = some i → ¬ i = b11) ∧ Apart v2 v3) := ⟨_, fun _ _ => Iff.rfl⟩
 refine SW.cut KL ?_ ?_
 ·refine SW.block ?_
  obtain ⟨J, hJ⟩ : ∃ J : Nat → Fr → Mem → Prop, ∀ m_ fr' τ', J m_ fr' τ' ↔ (∃ k : Nat, ∃ x : List Int, ∃ x1 : List Int, ∃ v2 : AV, ∃ v3 : AV, m_ = o.length - k ∧ forN (b1_law17_SearchBrute o rx) (o.length - k) k (x, x1) = some oi ∧ fr' 1 = sl_Int_u8 (o) ∧ fr' 2 = AV.bool (A) ∧ fr' 7 = AV.ptr b7 0 ∧ fr' 8 = AV.ptr b8 0 ∧ fr' 9 = AV.ptr b9 0 ∧ fr' 11 = AV.ptr b11 0 ∧ fr' 52 = AV.int (((o.length : Nat) : Int)) ∧ fr' 53 = AV.int (((k : Nat) : Int)) ∧ Kept σ0 τ' ∧ σ0.next ≤ τ'.next ∧ τ'.get b7 = some [nodesA (rx.1.nodes), edgesA (rx.1.edges)] ∧ b7 < τ'.next ∧ τ'.get b8 = some [intsA (rx.2.1.nodes), e3sA (rx.2.1.edges)] ∧ b8 < τ'.next ∧ τ'.get b9 = some [intsA (rx.2.2.1.nodes), e3sA (rx.2.2.1.edges)] ∧ b9 < τ'.next ∧ τ'.get b11 = some [v2, v3] ∧ b11 < τ'.next ∧ ArrAt σ0.next τ' v2 3 (x.map AV.int) x.length 1 ∧ x.length = a.length ∧ ArrAt σ0.next τ' v3 3 (x1.map AV.int) x1.length 1 ∧ x1.length = a1.length ∧ (∀ i, idOf v2 = some i → ¬ i = b7) ∧ (∀ i, idOf v3 = some i → ¬ i = b7) ∧ (∀ i, idOf v2 = some i → ¬ i = b8) ∧ (∀ i, idOf v3 = some i → ¬ i = b8) ∧ (∀ i, idOf v2 = some i → ¬ i = b9) ∧ (∀ i, idOf v3 = some i → ¬ i = b9) ∧ (∀ i, idOf v2 = some i → ¬ i = b11) ∧ (∀ i, idOf v3 = some i → ¬ i = b11) ∧ Apart v2 v3) := ⟨_, fun _ _ _ => Iff.rfl⟩
  refine SW.loop J (o.length - 0) ((hJ _ _ _).2 ⟨0, a, a1, v, v1, rfl, hruni, f1, f2, f7, f8, f9, f11, f52, f53, hK, hN, gb7, ub7, gb8, ub8, gb9, ub9, gb11, ub11, av, rfl, av1, rfl, evb7, ev1b7, evb8, ev1b8, evb9, ev1b9, evb11, ev1b11, (by first | exact evv1 | exact fun i h h' => ev1v i h' h)⟩) ?_
  clear hruni
  intro m_ fr7 τ3 hm
  rw [hJ] at hm
  clear f1 f11 f2 f52 f53 f7 f8 f9 hK hN gb7 ub7 gb8 ub8 gb9 ub9 gb11 ub11 av av1
  obtain ⟨k, x, x1, v2, v3, rfl, hruni, f1, f2, f7, f8, f9, f11, f52, f53, hK, hN, gb7, ub7, gb8, ub8, gb9, ub9, gb11, ub11, av2, qv2, av3, qv3, ev2b7, ev3b7, ev2b8, ev3b8, ev2b9, ev3b9, ev2b11, ev3b11, ev2v3⟩ := hm
  refine SW.seq ?_
  refine SW.regX (fun f_ t_ => τ3 = t_ ∧ f_ 1 = sl_Int_u8 (o) ∧ f_ 2 = AV.bool (A) ∧ f_ 7 = AV.ptr b7 0 ∧ f_ 8 = AV.ptr b8 0 ∧ f_ 9 = AV.ptr b9 0 ∧ f_ 11 = AV.ptr b11 0 ∧ f_ 52 = AV.int (((o.length : Nat) : Int)) ∧ f_ 53 = AV.int (((k : Nat) : Int)) ∧ f_ 54 = AV.bool ((decide (k < o.length)))) (fun M hM => ?_) (fun fr8 τz3 hm => ?_)
  ·simp [go_sem, f1, f11, f2, f52, f53, f7, f8, f9, gb7, gb8, gb9, gb11]
   refine (hM _ _).2 ⟨rfl, ?_, ?_, ?_, ?_, ?_, ?_, ?_, ?_, ?_⟩ <;> simp [go_sem, f1, f11, f2, f52, f53, f7, f8, f9, gb7, gb8, gb9, gb11]
  clear f1 f11 f2 f52 f53 f7 f8 f9
  obtain ⟨rfl, f1, f2, f7, f8, f9, f11, f52, f53, f54⟩ := hm
  refine SW.seq ?_
  refine SW.cond _ f54 (fun hx1 => ?_) (fun hx1 => ?_)
  rotate_left
  ·have hk : ¬ k < o.length := by have := of_decide_eq_false hx1; omega
   refine SW.exit rfl ?_
   exact SW.goal ((hKL _ _).2 ⟨x, x1, v2, v3, forN_end hruni hk, f2, f7, f8, f9, f11, hK, hN, gb7, ub7, gb8, ub8, gb9, ub9, gb11, ub11, av2, qv2, av3, qv3, ev2b7, ev3b7, ev2b8, ev3b8, ev2b9, ev3b9, ev2b11, ev3b11, (by first | exact ev2v3 | exact fun i h h' => ev3v2 i h' h)⟩)
  have hkk : k < o.length := by have := of_decide_eq_true hx1; omega
  have hwk : IntKind.i64.wrap ((k : Int) + 1) = ((k + 1 : Nat) : Int) := by rw [wrap64_of _ (by omega) (by omega)]; rfl
  obtain ⟨ci, hbi, hci⟩ := forN_step hruni hkk
  simp only [b1_law17_SearchBrute] at hbi
  refine SW.skip ?_
  refine SW.seq ?_
  refine SW.block ?_
  refine SW.seq ?_
  refine SW.regX (fun f_ t_ => τ3 = t_ ∧ f_ 1 = sl_Int_u8 (o) ∧ f_ 2 = AV.bool (A) ∧ f_ 7 = AV.ptr b7 0 ∧ f_ 8 = AV.ptr b8 0 ∧ f_ 9 = AV.ptr b9 0 ∧ f_ 11 = AV.ptr b11 0 ∧ f_ 12 = AV.int (((k : Nat) : Int)) ∧ f_ 52 = AV.int (((o.length : Nat) : Int)) ∧ f_ 53 = AV.int (((k : Nat) : Int))) (fun M hM => ?_) (fun fr9 τz4 hm => ?_)
  ·simp [go_sem, f1, f11, f2, f52, f53, f54, f7, f8, f9, gb7, gb8, gb9, gb11]
   refine (hM _ _).2 ⟨rfl, ?_, ?_, ?_, ?_, ?_, ?_, ?_, ?_, ?_⟩ <;> simp [go_sem, f1, f11, f2, f52, f53, f54, f7, f8, f9, gb7, gb8, gb9, gb11]
  clear f1 f11 f2 f52 f53 f54 f7 f8 f9
  obtain ⟨rfl, f1, f2, f7, f8, f9, f11, f12, f52, f53⟩ := hm
  refine SW.seq ?_
  refine SW.regX (fun f_ t_ => τ3 = t_ ∧ f_ 1 = sl_Int_u8 (o) ∧ f_ 2 = AV.bool (A) ∧ f_ 7 = AV.ptr b7 0 ∧ f_ 8 = AV.ptr b8 0 ∧ f_ 9 = AV.ptr b9 0 ∧ f_ 11 = AV.ptr b11 0 ∧ f_ 12 = AV.int (((k : Nat) : Int)) ∧ f_ 13 = AV.int ((IntKind.i64.wrap (((k : Nat) : Int) - ((x.length : Nat) : Int)))) ∧ f_ 52 = AV.int (((o.length : Nat) : Int)) ∧ f_ 53 = AV.int (((k : Nat) : Int))) (fun M hM => ?_) (fun fr10 τz5 hm => ?_)
  ·have zv2 := av2
   rcases zv2 with ⟨rfl, nv2, mv2⟩ | ⟨ov2, rfl, gov2, tov2, lov2, hiv2⟩
   ·simp [go_sem, f1, f11, f12, f2, f52, f53, f7, f8, f9, gb7, gb8, gb9, gb11, nv2, mv2]
    refine (hM _ _).2 ⟨rfl, ?_, ?_, ?_, ?_, ?_, ?_, ?_, ?_, ?_, ?_⟩ <;> simp [go_sem, f1, f11, f12, f2, f52, f53, f7, f8, f9, gb7, gb8, gb9, gb11, nv2, mv2]
   ·simp [go_sem, f1, f11, f12, f2, f52, f53, f7, f8, f9, gb7, gb8, gb9, gb11, gov2, tov2]
    refine (hM _ _).2 ⟨rfl, ?_, ?_, ?_, ?_, ?_, ?_, ?_, ?_, ?_, ?_⟩ <;> simp [go_sem, f1, f11, f12, f2, f52, f53, f7, f8, f9, gb7, gb8, gb9, gb11, gov2, tov2]
  clear f1 f11 f12 f2 f52 f53 f7 f8 f9
  obtain ⟨rfl, f1, f2, f7, f8, f9, f11, f12, f13, f52, f53⟩ := hm
  refine SW.block ?_
  refine SW.seq ?_
  refine SW.regX (fun f_ t_ => τ3 = t_ ∧ f_ 1 = sl_Int_u8 (o) ∧ f_ 2 = AV.bool (A) ∧ f_ 7 = AV.ptr b7 0 ∧ f_ 8 = AV.ptr b8 0 ∧ f_ 9 = AV.ptr b9 0 ∧ f_ 11 = AV.ptr b11 0 ∧ f_ 12 = AV.int (((k : Nat) : Int)) ∧ f_ 13 = AV.int ((IntKind.i64.wrap (((k : Nat) : Int) - ((x.length : Nat) : Int)))) ∧ f_ 52 = AV.int (((o.length : Nat) : Int)) ∧ f_ 53 = AV.int (((k : Nat) : Int)) ∧ f_ 61 = AV.bool ((decide ((IntKind.i64.wrap (((k : Nat) : Int) - ((x.length : Nat) : Int))) < 0)))) (fun M hM => ?_) (fun fr11 τz6 hm => ?_)
  ·simp [go_sem, f1, f11, f12, f13, f2, f52, f53, f7, f8, f9, gb7, gb8, gb9, gb11]
   refine (hM _ _).2 ⟨rfl, ?_, ?_, ?_, ?_, ?_, ?_, ?_, ?_, ?_, ?_, ?_⟩ <;> simp [go_sem, f1, f11, f12, f13, f2, f52, f53, f7, f8, f9, gb7, gb8, gb9, gb11]
  clear f1 f11 f12 f13 f2 f52 f53 f7 f8 f9
  obtain ⟨rfl, f1, f2, f7, f8, f9, f11, f12, f13, f52, f53, f61⟩ := hm
  refine SW.cond _ f61 (fun hx2 => ?_) (fun hx2 => ?_)
  ·have hbi := condT hbi hx2
   obtain ⟨n, hn, hbi⟩ := obind hbi
   have xln := getN_lt hn
   have xdn := getN_map (fun n => AV.lit (.int .u8 n)) hn
   obtain ⟨z, hz, hbi⟩ := obind hbi
   have nz := nzI_spec hz
   have mz := nz
   try simp at mz
   obtain ⟨n1, hn1, hbi⟩ := obind hbi
   have xln1 := getN_lt hn1
   have xdn1 := getN_map AV.int hn1
   have xon1 : (x.map AV.int).length = x.length * 1 := by simp
   have st13 := set_map AV.int ((Int.tmod ((IntKind.i64.wrap n)) (((rx.2.2.1.nodes.length : Nat) : Int)))) x k xln1
   have sust13 : k + 1 ≤ x.length := by have := xln1; omega
   refine SW.regX (fun f_ t_ => f_ 1 = sl_Int_u8 (o) ∧ f_ 2 = AV.bool (A) ∧ f_ 7 = AV.ptr b7 0 ∧ f_ 8 = AV.ptr b8 0 ∧ f_ 9 = AV.ptr b9 0 ∧ f_ 11 = AV.ptr b11 0 ∧ f_ 52 = AV.int (((o.length : Nat) : Int)) ∧ f_ 53 = AV.int (((k : Nat) : Int)) ∧ Kept σ0 t_ ∧ σ0.next ≤ t_.next ∧ t_.get b7 = some [nodesA (rx.1.nodes), edgesA (rx.1.edges)] ∧ b7 < t_.next ∧ t_.get b8 = some [intsA (rx.2.1.nodes), e3sA (rx.2.1.edges)] ∧ b8 < t_.next ∧ t_.get b9 = some [intsA (rx.2.2.1.nodes), e3sA (rx.2.2.1.edges)] ∧ b9 < t_.next ∧ t_.get b11 = some [v2, v3] ∧ b11 < t_.next ∧ ArrAt σ0.next t_ v2 3 (((x.set k ((Int.tmod ((IntKind.i64.wrap n)) (((rx.2.2.1.nodes.length : Nat) : Int)))))).map AV.int) ((x.set k ((Int.tmod ((IntKind.i64.wrap n)) (((rx.2.2.1.nodes.length : Nat) : Int)))))).length 1 ∧ ((x.set k ((Int.tmod ((IntKind.i64.wrap n)) (((rx.2.2.1.nodes.length : Nat) : Int)))))).length = a.length ∧ ArrAt σ0.next t_ v3 3 (x1.map AV.int) x1.length 1 ∧ x1.length = a1.length) (fun M hM => ?_) (fun fr12 τ4 hm => ?_)
   ·have nb7_b8 : ¬ b7 = b8 := by omega
    have nb7_b9 : ¬ b7 = b9 := by omega
    have nb7_b11 : ¬ b7 = b11 := by omega
    have nb8_b7 : ¬ b8 = b7 := by omega
    have nb8_b9 : ¬ b8 = b9 := by omega
    have nb8_b11 : ¬ b8 = b11 := by omega
    have nb9_b7 : ¬ b9 = b7 := by omega
    have nb9_b8 : ¬ b9 = b8 := by omega
    have nb9_b11 : ¬ b9 = b11 := by omega
    have nb11_b7 : ¬ b11 = b7 := by omega
    have nb11_b8 : ¬ b11 = b8 := by omega
    have nb11_b9 : ¬ b11 = b9 := by omega
    have zv2 := av2
    rcases zv2 with ⟨rfl, nv2, mv2⟩ | ⟨ov2, rfl, gov2, tov2, lov2, hiv2⟩
    ·exfalso; omega
    ·have nv2_b7 : ¬ ov2 = b7 := ev2b7 _ rfl
     have nb7_v2 : ¬ b7 = ov2 := fun e => ev2b7 _ rfl e.symm
     have nv2_b8 : ¬ ov2 = b8 := ev2b8 _ rfl
     have nb8_v2 : ¬ b8 = ov2 := fun e => ev2b8 _ rfl e.symm
     have nv2_b9 : ¬ ov2 = b9 := ev2b9 _ rfl
     have nb9_v2 : ¬ b9 = ov2 := fun e => ev2b9 _ rfl e.symm
     have nv2_b11 : ¬ ov2 = b11 := ev2b11 _ rfl
     have nb11_v2 : ¬ b11 = ov2 := fun e => ev2b11 _ rfl e.symm
     refine EW_regionY (τ3.kill ov2) 14 (.q false 0 (.q false 1 (.q false 2 (.q false 3 (.q false 4 (.q false 5 (.q false 6 (.q false 7 (.q false 8 (.q false 9 (.q false 10 (.q false 11 (.q false 12 (.s 13 .done)))))))))))))) (by kernel_rfl) (by kernel_rfl) (sub_kill ov2 (fun _ _ h => h)) (fun hfin => ?_)
     have hsub : Sub (τ3.kill ov2) τ3 := (sub_kill ov2 (fun _ _ h => h))
     simp (maxDischargeDepth := 12) [go_sem, f1, f11, f12, f13, f2, f52, f53, f61, f7, f8, f9, gb7, gb8, gb9, gb11, xln, xdn, nz, mz, xln1, xdn1, xon1, sust13, st13, nb7_b8, nb7_b9, nb7_b11, nb8_b7, nb8_b9, nb8_b11, nb9_b7, nb9_b8, nb9_b11, nb11_b7, nb11_b8, nb11_b9, gov2, tov2, nv2_b7, nb7_v2, nv2_b8, nb8_v2, nv2_b9, nb9_v2, nv2_b11, nb11_v2, sub_set, sub_killAll, hsub]
     refine (hM _ _).2 ⟨?_, ?_, ?_, ?_, ?_, ?_, ?_, ?_, by intro j hj; have hj_ := hK j hj; simp [go_sem, hj_.1, hj_.2, show ¬ j = ov2 by omega], by first | omega | (simp [go_sem]; done) | (simp [go_sem]; omega), by simp (disch := omega) [get_alloc_ne, get_set_ne, get_kill_ne, go_sem, f1, f11, f12, f13, f2, f52, f53, f61, f7, f8, f9, gb7, gb8, gb9, gb11, xln, xdn, nz, mz, xln1, xdn1, xon1, sust13, st13, nb7_b8, nb7_b9, nb7_b11, nb8_b7, nb8_b9, nb8_b11, nb9_b7, nb9_b8, nb9_b11, nb11_b7, nb11_b8, nb11_b9, gov2, tov2, nv2_b7, nb7_v2, nv2_b8, nb8_v2, nv2_b9, nb9_v2, nv2_b11, nb11_v2, sub_set, sub_killAll, hsub], by first | omega | (simp [go_sem]; done) | (simp [go_sem]; omega), by simp (disch := omega) [get_alloc_ne, get_set_ne, get_kill_ne, go_sem, f1, f11, f12, f13, f2, f52, f53, f61, f7, f8, f9, gb7, gb8, gb9, gb11, xln, xdn, nz, mz, xln1, xdn1, xon1, sust13, st13, nb7_b8, nb7_b9, nb7_b11, nb8_b7, nb8_b9, nb8_b11, nb9_b7, nb9_b8, nb9_b11, nb11_b7, nb11_b8, nb11_b9, gov2, tov2, nv2_b7, nb7_v2, nv2_b8, nb8_v2, nv2_b9, nb9_v2, nv2_b11, nb11_v2, sub_set, sub_killAll, hsub], by first | omega | (simp [go_sem]; done) | (simp [go_sem]; omega), by simp (disch := omega) [get_alloc_ne, get_set_ne, get_kill_ne, go_sem, f1, f11, f12, f13, f2, f52, f53, f61, f7, f8, f9, gb7, gb8, gb9, gb11, xln, xdn, nz, mz, xln1, xdn1, xon1, sust13, st13, nb7_b8, nb7_b9, nb7_b11, nb8_b7, nb8_b9, nb8_b11, nb9_b7, nb9_b8, nb9_b11, nb11_b7, nb11_b8, nb11_b9, gov2, tov2, nv2_b7, nb7_v2, nv2_b8, nb8_v2, nv2_b9, nb9_v2, nv2_b11, nb11_v2, sub_set, sub_killAll, hsub], by first | omega | (simp [go_sem]; done) | (simp [go_sem]; omega), by simp (disch := omega) [get_alloc_ne, get_set_ne, get_kill_ne, go_sem, f1, f11, f12, f13, f2, f52, f53, f61, f7, f8, f9, gb7, gb8, gb9, gb11, xln, xdn, nz, mz, xln1, xdn1, xon1, sust13, st13, nb7_b8, nb7_b9, nb7_b11, nb8_b7, nb8_b9, nb8_b11, nb9_b7, nb9_b8, nb9_b11, nb11_b7, nb11_b8, nb11_b9, gov2, tov2, nv2_b7, nb7_v2, nv2_b8, nb8_v2, nv2_b9, nb9_v2, nv2_b11, nb11_v2, sub_set, sub_killAll, hsub], by first | omega | (simp [go_sem]; done) | (simp [go_sem]; omega), .inr ⟨ov2, by simp, by simp (disch := omega) [get_alloc_ne, get_set_ne, get_kill_ne, go_sem, f1, f11, f12, f13, f2, f52, f53, f61, f7, f8, f9, gb7, gb8, gb9, gb11, xln, xdn, nz, mz, xln1, xdn1, xon1, sust13, st13, nb7_b8, nb7_b9, nb7_b11, nb8_b7, nb8_b9, nb8_b11, nb9_b7, nb9_b8, nb9_b11, nb11_b7, nb11_b8, nb11_b9, gov2, tov2, nv2_b7, nb7_v2, nv2_b8, nb8_v2, nv2_b9, nb9_v2, nv2_b11, nb11_v2, sub_set, sub_killAll, hsub], by simp (disch := omega) [go_sem, f1, f11, f12, f13, f2, f52, f53, f61, f7, f8, f9, gb7, gb8, gb9, gb11, xln, xdn, nz, mz, xln1, xdn1, xon1, sust13, st13, nb7_b8, nb7_b9, nb7_b11, nb8_b7, nb8_b9, nb8_b11, nb9_b7, nb9_b8, nb9_b11, nb11_b7, nb11_b8, nb11_b9, gov2, tov2, nv2_b7, nb7_v2, nv2_b8, nb8_v2, nv2_b9, nb9_v2, nv2_b11, nb11_v2, sub_set, sub_killAll, hsub], lov2, by first | omega | (simp [go_sem]; done) | (simp [go_sem]; omega)⟩, by first | exact qv2 | (simp; done) | (simp [qv2]; done) | (simp [go_sem, f1, f11, f12, f13, f2, f52, f53, f61, f7, f8, f9, gb7, gb8, gb9, gb11, xln, xdn, nz, mz, xln1, xdn1, xon1, sust13, st13, nb7_b8, nb7_b9, nb7_b11, nb8_b7, nb8_b9, nb8_b11, nb9_b7, nb9_b8, nb9_b11, nb11_b7, nb11_b8, nb11_b9, gov2, tov2, nv2_b7, nb7_v2, nv2_b8, nb8_v2, nv2_b9, nb9_v2, nv2_b11, nb11_v2, sub_set, sub_killAll, hsub]; done), av3.same' (by simp [go_sem]; try omega) (fun i hi => by have zl := arrAt_lt av3 i hi; have ze0 := apart_ne (by first | exact ev2v3 | exact apart_symm ev3v2) hi; constructor <;> simp [go_sem, ze0]), by first | exact qv3 | (simp; done) | (simp [qv3]; done) | (simp [go_sem, f1, f11, f12, f13, f2, f52, f53, f61, f7, f8, f9, gb7, gb8, gb9, gb11, xln, xdn, nz, mz, xln1, xdn1, xon1, sust13, st13, nb7_b8, nb7_b9, nb7_b11, nb8_b7, nb8_b9, nb8_b11, nb9_b7, nb9_b8, nb9_b11, nb11_b7, nb11_b8, nb11_b9, gov2, tov2, nv2_b7, nb7_v2, nv2_b8, nb8_v2, nv2_b9, nb9_v2, nv2_b11, nb11_v2, sub_set, sub_killAll, hsub]; done)⟩ <;> simp [go_sem, f1, f11, f12, f13, f2, f52, f53, f61, f7, f8, f9, gb7, gb8, gb9, gb11, xln, xdn, nz, mz, xln1, xdn1, xon1, sust13, st13, nb7_b8, nb7_b9, nb7_b11, nb8_b7, nb8_b9, nb8_b11, nb9_b7, nb9_b8, nb9_b11, nb11_b7, nb11_b8, nb11_b9, gov2, tov2, nv2_b7, nb7_v2, nv2_b8, nb8_v2, nv2_b9, nb9_v2, nv2_b11, nb11_v2, sub_set, sub_killAll, hsub]
   clear f1 f11 f12 f13 f2 f52 f53 f61 f7 f8 f9 hK hN gb7 ub7 gb8 ub8 gb9 ub9 gb11 ub11 av2 qv2 av3 qv3
   obtain ⟨f1, f2, f7, f8, f9, f11, f52, f53, hK, hN, gb7, ub7, gb8, ub8, gb9, ub9, gb11, ub11, av2, qv2, av3, qv3⟩ := hm
   refine SW.blk ?_
   refine SW.blk ?_
   refine SW.regX (fun f_ t_ => τ4 = t_ ∧ f_ 1 = sl_Int_u8 (o) ∧ f_ 2 = AV.bool (A) ∧ f_ 7 = AV.ptr b7 0 ∧ f_ 8 = AV.ptr b8 0 ∧ f_ 9 = AV.ptr b9 0 ∧ f_ 11 = AV.ptr b11 0 ∧ f_ 52 = AV.int (((o.length : Nat) : Int)) ∧ f_ 53 = AV.int (((k + 1 : Nat) : Int))) (fun M hM => ?_) (fun fr13 τz7 hm => ?_)
   ·simp [go_sem, f1, f11, f2, f52, f53, f7, f8, f9, gb7, gb8, gb9, gb11, hwk]
    refine (hM _ _).2 ⟨rfl, ?_, ?_, ?_, ?_, ?_, ?_, ?_, ?_⟩ <;> simp [go_sem, f1, f11, f2, f52, f53, f7, f8, f9, gb7, gb8, gb9, gb11, hwk]
   clear f1 f11 f2 f52 f53 f7 f8 f9
   obtain ⟨rfl, f1, f2, f7, f8, f9, f11, f52, f53⟩ := hm
   obtain rfl := Option.some.inj hbi
   exact SW.goal ⟨o.length - (k + 1), by omega, (hJ _ _ _).2 ⟨k + 1, (x.set k ((Int.tmod ((IntKind.i64.wrap n)) (((rx.2.2.1.nodes.length : Nat) : Int))))), x1, v2, v3, rfl, hci, f1, f2, f7, f8, f9, f11, f52, f53, hK, hN, gb7, ub7, gb8, ub8, gb9, ub9, gb11, ub11, av2, qv2, av3, qv3, ev2b7, ev3b7, ev2b8, ev3b8, ev2b9, ev3b9, ev2b11, ev3b11, (by first | exact ev2v3 | exact fun i h h' => ev3v2 i h' h)⟩⟩
  have hbi := condF hbi hx2
  refine SW.seq ?_
  refine SW.regX (fun f_ t_ => τ3 = t_ ∧ f_ 1 = sl_Int_u8 (o) ∧ f_ 2 = AV.bool (A) ∧ f_ 7 = AV.ptr b7 0 ∧ f_ 8 = AV.ptr b8 0 ∧ f_ 9 = AV.ptr b9 0 ∧ f_ 11 = AV.ptr b11 0 ∧ f_ 12 = AV.int (((k : Nat) : Int)) ∧ f_ 13 = AV.int ((IntKind.i64.wrap (((k : Nat) : Int) - ((x.length : Nat) : Int)))) ∧ f_ 52 = AV.int (((o.length : Nat) : Int)) ∧ f_ 53 = AV.int (((k : Nat) : Int)) ∧ f_ 77 = AV.bool ((((decide ((IntKind.i64.wrap (((k : Nat) : Int) - ((x.length : Nat) : Int))) < ((x1.length : Nat) : Int)))) && ((decide (0 < ((rx.2.2.1.edges.length : Nat) : Int))))))) (fun M hM => ?_) (fun fr14 τz8 hm => ?_)
  ·rcases Bool.eq_false_or_eq_true ((decide ((IntKind.i64.wrap (((k : Nat) : Int) - ((x.length : Nat) : Int))) < ((x1.length : Nat) : Int)))) with y0 | y0
   ·have y0' := y0
    try simp at y0'
    have zv3 := av3
    rcases zv3 with ⟨rfl, nv3, mv3⟩ | ⟨ov3, rfl, gov3, tov3, lov3, hiv3⟩
    ·have zyv3y0 := y0
     try rw [nv3] at zyv3y0
     try simp only [List.length_nil, Int.natCast_zero] at zyv3y0
     simp [go_sem, f1, f11, f12, f13, f2, f52, f53, f61, f7, f8, f9, gb7, gb8, gb9, gb11, y0, y0', nv3, mv3, zyv3y0]
     refine (hM _ _).2 ⟨rfl, ?_, ?_, ?_, ?_, ?_, ?_, ?_, ?_, ?_, ?_, ?_⟩ <;> simp [go_sem, f1, f11, f12, f13, f2, f52, f53, f61, f7, f8, f9, gb7, gb8, gb9, gb11, y0, y0', nv3, mv3, zyv3y0]
    ·simp [go_sem, f1, f11, f12, f13, f2, f52, f53, f61, f7, f8, f9, gb7, gb8, gb9, gb11, y0, y0', gov3, tov3]
     refine (hM _ _).2 ⟨rfl, ?_, ?_, ?_, ?_, ?_, ?_, ?_, ?_, ?_, ?_, ?_⟩ <;> simp [go_sem, f1, f11, f12, f13, f2, f52, f53, f61, f7, f8, f9, gb7, gb8, gb9, gb11, y0, y0', gov3, tov3]
   ·have y0' := y0
    try simp at y0'
    have zv3 := av3
    rcases zv3 with ⟨rfl, nv3, mv3⟩ | ⟨ov3, rfl, gov3, tov3, lov3, hiv3⟩
    ·have zyv3y0 := y0
     try rw [nv3] at zyv3y0
     try simp only [List.length_nil, Int.natCast_zero] at zyv3y0
     simp [go_sem, f1, f11, f12, f13, f2, f52, f53, f61, f7, f8, f9, gb7, gb8, gb9, gb11, y0, y0', nv3, mv3, zyv3y0]
     refine (hM _ _).2 ⟨rfl, ?_, ?_, ?_, ?_, ?_, ?_, ?_, ?_, ?_, ?_, ?_⟩ <;> simp [go_sem, f1, f11, f12, f13, f2, f52, f53, f61, f7, f8, f9, gb7, gb8, gb9, gb11, y0, y0', nv3, mv3, zyv3y0]
    ·simp [go_sem, f1, f11, f12, f13, f2, f52, f53, f61, f7, f8, f9, gb7, gb8, gb9, gb11, y0, y0', gov3, tov3]
     refine (hM _ _).2 ⟨rfl, ?_, ?_, ?_, ?_, ?_, ?_, ?_, ?_, ?_, ?_, ?_⟩ <;> simp [go_sem, f1, f11, f12, f13, f2, f52, f53, f61, f7, f8, f9, gb7, gb8, gb9, gb11, y0, y0', gov3, tov3]
  clear f1 f11 f12 f13 f2 f52 f53 f61 f7 f8 f9
  obtain ⟨rfl, f1, f2, f7, f8, f9, f11, f12, f13, f52, f53, f77⟩ := hm
  refine SW.cond _ f77 (fun hx3 => ?_) (fun hx3 => ?_)
  ·have hbi := condT hbi hx3
   obtain ⟨n2, hn2, hbi⟩ := obind hbi
   have xln2 := getN_lt hn2
   have xdn2 := getN_map (fun n => AV.lit (.int .u8 n)) hn2
   obtain ⟨z1, hz1, hbi⟩ := obind hbi
   have nz1 := nzI_spec hz1
   have mz1 := nz1
   try simp at mz1
   obtain ⟨w, nw⟩ : ∃ w : Int, (IntKind.i64.wrap (((k : Nat) : Int) - ((x.length : Nat) : Int))) = w := ⟨_, rfl⟩
   rw [nw] at hbi
   rw [nw] at f13 f77
   obtain ⟨n3, hn3, hbi⟩ := obind hbi
   have xpn3 := getI_pos hn3
   have xln3 := getI_lt hn3
   have xin3 := getI_N hn3
   have xdn3 := getN_map AV.int xin3
   have xon3 : (x1.map AV.int).length = x1.length * 1 := by simp
   have st13 := set_map AV.int ((Int.tmod ((IntKind.i64.wrap n2)) (((rx.2.2.1.edges.length : Nat) : Int)))) x1 w.toNat (by have := xpn3; have := xln3; omega)
   have sust13 : w.toNat + 1 ≤ x1.length := by have := (by have := xpn3; have := xln3; omega); omega
   refine SW.regX (fun f_ t_ => f_ 1 = sl_Int_u8 (o) ∧ f_ 2 = AV.bool (A) ∧ f_ 7 = AV.ptr b7 0 ∧ f_ 8 = AV.ptr b8 0 ∧ f_ 9 = AV.ptr b9 0 ∧ f_ 11 = AV.ptr b11 0 ∧ f_ 52 = AV.int (((o.length : Nat) : Int)) ∧ f_ 53 = AV.int (((k : Nat) : Int)) ∧ Kept σ0 t_ ∧ σ0.next ≤ t_.next ∧ t_.get b7 = some [nodesA (rx.1.nodes), edgesA (rx.1.edges)] ∧ b7 < t_.next ∧ t_.get b8 = some [intsA (rx.2.1.nodes), e3sA (rx.2.1.edges)] ∧ b8 < t_.next ∧ t_.get b9 = some [intsA (rx.2.2.1.nodes), e3sA (rx.2.2.1.edges)] ∧ b9 < t_.next ∧ t_.get b11 = some [v2, v3] ∧ b11 < t_.next ∧ ArrAt σ0.next t_ v2 3 (x.map AV.int) x.length 1 ∧ x.length = a.length ∧ ArrAt σ0.next t_ v3 3 (((x1.set w.toNat ((Int.tmod ((IntKind.i64.wrap n2)) (((rx.2.2.1.edges.length : Nat) : Int)))))).map AV.int) ((x1.set w.toNat ((Int.tmod ((IntKind.i64.wrap n2)) (((rx.2.2.1.edges.length : Nat) : Int)))))).length 1 ∧ ((x1.set w.toNat ((Int.tmod ((IntKind.i64.wrap n2)) (((rx.2.2.1.edges.length : Nat) : Int)))))).length = a1.length) (fun M hM => ?_) (fun fr15 τ5 hm => ?_)
   ·have nb7_b8 : ¬ b7 = b8 := by omega
    have nb7_b9 : ¬ b7 = b9 := by omega
    have nb7_b11 : ¬ b7 = b11 := by omega
    have nb8_b7 : ¬ b8 = b7 := by omega
    have nb8_b9 : ¬ b8 = b9 := by omega
    have nb8_b11 : ¬ b8 = b11 := by omega
    have nb9_b7 : ¬ b9 = b7 := by omega
    have nb9_b8 : ¬ b9 = b8 := by omega
    have nb9_b11 : ¬ b9 = b11 := by omega
    have nb11_b7 : ¬ b11 = b7 := by omega
    have nb11_b8 : ¬ b11 = b8 := by omega
    have nb11_b9 : ¬ b11 = b9 := by omega
    have zv3 := av3
    rcases zv3 with ⟨rfl, nv3, mv3⟩ | ⟨ov3, rfl, gov3, tov3, lov3, hiv3⟩
    ·exfalso; omega
    ·have nv3_b7 : ¬ ov3 = b7 := ev3b7 _ rfl
     have nb7_v3 : ¬ b7 = ov3 := fun e => ev3b7 _ rfl e.symm
     have nv3_b8 : ¬ ov3 = b8 := ev3b8 _ rfl
     have nb8_v3 : ¬ b8 = ov3 := fun e => ev3b8 _ rfl e.symm
     have nv3_b9 : ¬ ov3 = b9 := ev3b9 _ rfl
     have nb9_v3 : ¬ b9 = ov3 := fun e => ev3b9 _ rfl e.symm
     have nv3_b11 : ¬ ov3 = b11 := ev3b11 _ rfl
     have nb11_v3 : ¬ b11 = ov3 := fun e => ev3b11 _ rfl e.symm
     refine EW_regionY (τ3.kill ov3) 14 (.q false 0 (.q false 1 (.q false 2 (.q false 3 (.q false 4 (.q false 5 (.q false 6 (.q false 7 (.q false 8 (.q false 9 (.q false 10 (.q false 11 (.q false 12 (.s 13 .done)))))))))))))) (by kernel_rfl) (by kernel_rfl) (sub_kill ov3 (fun _ _ h => h)) (fun hfin => ?_)
     have hsub : Sub (τ3.kill ov3) τ3 := (sub_kill ov3 (fun _ _ h => h))
     simp (maxDischargeDepth := 12) [go_sem, f1, f11, f12, f13, f2, f52, f53, f7, f77, f8, f9, gb7, gb8, gb9, gb11, xln2, xdn2, nz1, mz1, xpn3, xln3, xdn3, xon3, nw, sust13, st13, nw, nb7_b8, nb7_b9, nb7_b11, nb8_b7, nb8_b9, nb8_b11, nb9_b7, nb9_b8, nb9_b11, nb11_b7, nb11_b8, nb11_b9, gov3, tov3, nv3_b7, nb7_v3, nv3_b8, nb8_v3, nv3_b9, nb9_v3, nv3_b11, nb11_v3, sub_set, sub_killAll, hsub]
     refine (hM _ _).2 ⟨?_, ?_, ?_, ?_, ?_, ?_, ?_, ?_, by intro j hj; have hj_ := hK j hj; simp [go_sem, hj_.1, hj_.2, show ¬ j = ov3 by omega], by first | omega | (simp [go_sem]; done) | (simp [go_sem]; omega), by simp (disch := omega) [get_alloc_ne, get_set_ne, get_kill_ne, go_sem, f1, f11, f12, f13, f2, f52, f53, f7, f77, f8, f9, gb7, gb8, gb9, gb11, xln2, xdn2, nz1, mz1, xpn3, xln3, xdn3, xon3, nw, sust13, st13, nw, nb7_b8, nb7_b9, nb7_b11, nb8_b7, nb8_b9, nb8_b11, nb9_b7, nb9_b8, nb9_b11, nb11_b7, nb11_b8, nb11_b9, gov3, tov3, nv3_b7, nb7_v3, nv3_b8, nb8_v3, nv3_b9, nb9_v3, nv3_b11, nb11_v3, sub_set, sub_killAll, hsub], by first | omega | (simp [go_sem]; done) | (simp [go_sem]; omega), by simp (disch := omega) [get_alloc_ne, get_set_ne, get_kill_ne, go_sem, f1, f11, f12, f13, f2, f52, f53, f7, f77, f8, f9, gb7, gb8, gb9, gb11, xln2, xdn2, nz1, mz1, xpn3, xln3, xdn3, xon3, nw, sust13, st13, nw, nb7_b8, nb7_b9, nb7_b11, nb8_b7, nb8_b9, nb8_b11, nb9_b7, nb9_b8, nb9_b11, nb11_b7, nb11_b8, nb11_b9, gov3, tov3, nv3_b7, nb7_v3, nv3_b8, nb8_v3, nv3_b9, nb9_v3, nv3_b11, nb11_v3, sub_set, sub_killAll, hsub], by first | omega | (simp [go_sem]; done) | (simp [go_sem]; omega), by simp (disch := omega) [get_alloc_ne, get_set_ne, get_kill_ne, go_sem, f1, f11, f12, f13, f2, f52, f53, f7, f77, f8, f9, gb7, gb8, gb9, gb11, xln2, xdn2, nz1, mz1, xpn3, xln3, xdn3, xon3, nw, sust13, st13, nw, nb7_b8, nb7_b9, nb7_b11, nb8_b7, nb8_b9, nb8_b11, nb9_b7, nb9_b8, nb9_b11, nb11_b7, nb11_b8, nb11_b9, gov3, tov3, nv3_b7, nb7_v3, nv3_b8, nb8_v3, nv3_b9, nb9_v3, nv3_b11, nb11_v3, sub_set, sub_killAll, hsub], by first | omega | (simp [go_sem]; done) | (simp [go_sem]; omega), by simp (disch := omega) [get_alloc_ne, get_set_ne, get_kill_ne, go_sem, f1, f11, f12, f13, f2, f52, f53, f7, f77, f8, f9, gb7, gb8, gb9, gb11, xln2, xdn2, nz1, mz1, xpn3, xln3, xdn3, xon3, nw, sust13, st13, nw, nb7_b8, nb7_b9, nb7_b11, nb8_b7, nb8_b9, nb8_b11, nb9_b7, nb9_b8, nb9_b11, nb11_b7, nb11_b8, nb11_b9, gov3, tov3, nv3_b7, nb7_v3, nv3_b8, nb8_v3, nv3_b9, nb9_v3, nv3_b11, nb11_v3, sub_set, sub_killAll, hsub], by first | omega | (simp [go_sem]; done) | (simp [go_sem]; omega), av2.same' (by simp [go_sem]; try omega) (fun i hi => by have zl := arrAt_lt av2 i hi; have ze0 := apart_ne (by first | exact ev3v2 | exact apart_symm ev2v3) hi; constructor <;> simp [go_sem, ze0]), by first | exact qv2 | (simp; done) | (simp [qv2]; done) | (simp [go_sem, f1, f11, f12, f13, f2, f52, f53, f7, f77, f8, f9, gb7, gb8, gb9, gb11, xln2, xdn2, nz1, mz1, xpn3, xln3, xdn3, xon3, nw, sust13, st13, nw, nb7_b8, nb7_b9, nb7_b11, nb8_b7, nb8_b9, nb8_b11, nb9_b7, nb9_b8, nb9_b11, nb11_b7, nb11_b8, nb11_b9, gov3, tov3, nv3_b7, nb7_v3, nv3_b8, nb8_v3, nv3_b9, nb9_v3, nv3_b11, nb11_v3, sub_set, sub_killAll, hsub]; done), .inr ⟨ov3, by simp, by simp (disch := omega) [get_alloc_ne, get_set_ne, get_kill_ne, go_sem, f1, f11, f12, f13, f2, f52, f53, f7, f77, f8, f9, gb7, gb8, gb9, gb11, xln2, xdn2, nz1, mz1, xpn3, xln3, xdn3, xon3, nw, sust13, st13, nw, nb7_b8, nb7_b9, nb7_b11, nb8_b7, nb8_b9, nb8_b11, nb9_b7, nb9_b8, nb9_b11, nb11_b7, nb11_b8, nb11_b9, gov3, tov3, nv3_b7, nb7_v3, nv3_b8, nb8_v3, nv3_b9, nb9_v3, nv3_b11, nb11_v3, sub_set, sub_killAll, hsub], by simp (disch := omega) [go_sem, f1, f11, f12, f13, f2, f52, f53, f7, f77, f8, f9, gb7, gb8, gb9, gb11, xln2, xdn2, nz1, mz1, xpn3, xln3, xdn3, xon3, nw, sust13, st13, nw, nb7_b8, nb7_b9, nb7_b11, nb8_b7, nb8_b9, nb8_b11, nb9_b7, nb9_b8, nb9_b11, nb11_b7, nb11_b8, nb11_b9, gov3, tov3, nv3_b7, nb7_v3, nv3_b8, nb8_v3, nv3_b9, nb9_v3, nv3_b11, nb11_v3, sub_set, sub_killAll, hsub], lov3, by first | omega | (simp [go_sem]; done) | (simp [go_sem]; omega)⟩, by first | exact qv3 | (simp; done) | (simp [qv3]; done) | (simp [go_sem, f1, f11, f12, f13, f2, f52, f53, f7, f77, f8, f9, gb7, gb8, gb9, gb11, xln2, xdn2, nz1, mz1, xpn3, xln3, xdn3, xon3, nw, sust13, st13, nw, nb7_b8, nb7_b9, nb7_b11, nb8_b7, nb8_b9, nb8_b11, nb9_b7, nb9_b8, nb9_b11, nb11_b7, nb11_b8, nb11_b9, gov3, tov3, nv3_b7, nb7_v3, nv3_b8, nb8_v3, nv3_b9, nb9_v3, nv3_b11, nb11_v3, sub_set, sub_killAll, hsub]; done)⟩ <;> simp [go_sem, f1, f11, f12, f13, f2, f52, f53, f7, f77, f8, f9, gb7, gb8, gb9, gb11, xln2, xdn2, nz1, mz1, xpn3, xln3, xdn3, xon3, nw, sust13, st13, nw, nb7_b8, nb7_b9, nb7_b11, nb8_b7, nb8_b9, nb8_b11, nb9_b7, nb9_b8, nb9_b11, nb11_b7, nb11_b8, nb11_b9, gov3, tov3, nv3_b7, nb7_v3, nv3_b8, nb8_v3, nv3_b9, nb9_v3, nv3_b11, nb11_v3, sub_set, sub_killAll, hsub]
   clear f1 f11 f12 f13 f2 f52 f53 f7 f77 f8 f9 hK hN gb7 ub7 gb8 ub8 gb9 ub9 gb11 ub11 av2 qv2 av3 qv3
   obtain ⟨f1, f2, f7, f8, f9, f11, f52, f53, hK, hN, gb7, ub7, gb8, ub8, gb9, ub9, gb11, ub11, av2, qv2, av3, qv3⟩ := hm
   refine SW.blk ?_
   refine SW.blk ?_
   refine SW.regX (fun f_ t_ => τ5 = t_ ∧ f_ 1 = sl_Int_u8 (o) ∧ f_ 2 = AV.bool (A) ∧ f_ 7 = AV.ptr b7 0 ∧ f_ 8 = AV.ptr b8 0 ∧ f_ 9 = AV.ptr b9 0 ∧ f_ 11 = AV.ptr b11 0 ∧ f_ 52 = AV.int (((o.length : Nat) : Int)) ∧ f_ 53 = AV.int (((k + 1 : Nat) : Int))) (fun M hM => ?_) (fun fr16 τz9 hm => ?_)
   ·simp [go_sem, f1, f11, f2, f52, f53, f7, f8, f9, gb7, gb8, gb9, gb11, hwk]
    refine (hM _ _).2 ⟨rfl, ?_, ?_, ?_, ?_, ?_, ?_, ?_, ?_⟩ <;> simp [go_sem, f1, f11, f2, f52, f53, f7, f8, f9, gb7, gb8, gb9, gb11, hwk]
   clear f1 f11 f2 f52 f53 f7 f8 f9
   obtain ⟨rfl, f1, f2, f7, f8, f9, f11, f52, f53⟩ := hm
   obtain rfl := Option.some.inj hbi
   exact SW.goal ⟨o.length - (k + 1), by omega, (hJ _ _ _).2 ⟨k + 1, x, (x1.set w.toNat ((Int.tmod ((IntKind.i64.wrap n2)) (((rx.2.2.1.edges.length : Nat) : Int))))), v2, v3, rfl, hci, f1, f2, f7, f8, f9, f11, f52, f53, hK, hN, gb7, ub7, gb8, ub8, gb9, ub9, gb11, ub11, av2, qv2, av3, qv3, ev2b7, ev3b7, ev2b8, ev3b8, ev2b9, ev3b9, ev2b11, ev3b11, (by first | exact ev2v3 | exact fun i h h' => ev3v2 i h' h)⟩⟩
  have hbi := condF hbi hx3
  refine SW.skip ?_
  refine SW.blk ?_
  refine SW.blk ?_
  refine SW.regX (fun f_ t_ => τ3 = t_ ∧ f_ 1 = sl_Int_u8 (o) ∧ f_ 2 = AV.bool (A) ∧ f_ 7 = AV.ptr b7 0 ∧ f_ 8 = AV.ptr b8 0 ∧ f_ 9 = AV.ptr b9 0 ∧ f_ 11 = AV.ptr b11 0 ∧ f_ 52 = AV.int (((o.length : Nat) : Int)) ∧ f_ 53 = AV.int (((k + 1 : Nat) : Int))) (fun M hM => ?_) (fun fr17 τz10 hm => ?_)
  ·simp [go_sem, f1, f11, f12, f13, f2, f52, f53, f7, f77, f8, f9, gb7, gb8, gb9, gb11, hwk]
   refine (hM _ _).2 ⟨rfl, ?_, ?_, ?_, ?_, ?_, ?_, ?_, ?_⟩ <;> simp [go_sem, f1, f11, f12, f13, f2, f52, f53, f7, f77, f8, f9, gb7, gb8, gb9, gb11, hwk]
  clear f1 f11 f12 f13 f2 f52 f53 f7 f77 f8 f9
  obtain ⟨rfl, f1, f2, f7, f8, f9, f11, f52, f53⟩ := hm
  obtain rfl := Option.some.inj hbi
  exact SW.goal ⟨o.length - (k + 1), by omega, (hJ _ _ _).2 ⟨k + 1, x, x1, v2, v3, rfl, hci, f1, f2, f7, f8, f9, f11, f52, f53, hK, hN, gb7, ub7, gb8, ub8, gb9, ub9, gb11, ub11, av2, qv2, av3, qv3, ev2b7, ev3b7, ev2b8, ev3b8, ev2b9, ev3b9, ev2b11, ev3b11, (by first | exact ev2v3 | exact fun i h h' => ev3v2 i h' h)⟩⟩
 intro fr18 τ6 hm
 rw [hKL] at hm
 clear hKL hruni
 clear f1 f11 f2 f52 f53 f7 f8 f9 hK hN gb7 ub7 gb8 ub8 gb9 ub9 gb11 ub11 av av1
 obtain ⟨x, x1, v2, v3, rfl, f2, f7, f8, f9, f11, hK, hN, gb7, ub7, gb8, ub8, gb9, ub9, gb11, ub11, av2, qv2, av3, qv3, ev2b7, ev3b7, ev2b8, ev3b8, ev2b9, ev3b9, ev2b11, ev3b11, ev2v3⟩ := hm
 simp only [Out.on] at hoi
 refine SW.seq ?_
 obtain ⟨rx1, hrx1, hoi⟩ := obind hoi
 refine SW.regX (fun f_ t_ => τ6 = t_ ∧ f_ 2 = AV.bool (A) ∧ f_ 7 = AV.ptr b7 0 ∧ f_ 8 = AV.ptr b8 0 ∧ f_ 9 = AV.ptr b9 0 ∧ f_ 11 = AV.ptr b11 0 ∧ f_ 14 = morphsA (rx1.1) ∧ f_ 15 = AV.int (rx1.2)) (fun M hM => ?_) (fun fr19 τz11 hm => ?_)
 ·simp [go_sem, f11, f2, f7, f8, f9, gb7, gb8, gb9, gb11]
  refine EWcall_pure (w_search_All rx.1 rx.2.1 rx.2.2.1 A _ hrx1) ?_
  simp [go_sem, f11, f2, f7, f8, f9, gb7, gb8, gb9, gb11]
  refine (hM _ _).2 ⟨rfl, ?_, ?_, ?_, ?_, ?_, ?_, ?_⟩ <;> simp [go_sem, f11, f2, f7, f8, f9, gb7, gb8, gb9, gb11]
 clear f11 f2 f7 f8 f9
 obtain ⟨rfl, f2, f7, f8, f9, f11, f14, f15⟩ := hm
 refine SW.seq ?_
 refine SW.seq ?_
 refine SW.regX (fun f_ t_ => τ6 = t_ ∧ f_ 2 = AV.bool (A) ∧ f_ 7 = AV.ptr b7 0 ∧ f_ 8 = AV.ptr b8 0 ∧ f_ 9 = AV.ptr b9 0 ∧ f_ 11 = AV.ptr b11 0 ∧ f_ 14 = morphsA (rx1.1) ∧ f_ 15 = AV.int (rx1.2) ∧ f_ 112 = AV.bool ((!decide (rx1.2 = 0)))) (fun M hM => ?_) (fun fr20 τz12 hm => ?_)
 ·simp [go_sem, f11, f14, f15, f2, f7, f8, f9, gb7, gb8, gb9, gb11]
  refine (hM _ _).2 ⟨rfl, ?_, ?_, ?_, ?_, ?_, ?_, ?_, ?_⟩ <;> simp [go_sem, f11, f14, f15, f2, f7, f8, f9, gb7, gb8, gb9, gb11]
 clear f11 f14 f15 f2 f7 f8 f9
 obtain ⟨rfl, f2, f7, f8, f9, f11, f14, f15, f112⟩ := hm
 refine SW.cond _ f112 (fun hx4 => ?_) (fun hx4 => ?_)
 ·have hoi := condT hoi hx4
  refine SW.seq ?_
  refine SW.regX (fun f_ t_ => τ6 = t_ ∧ f_ 6 = AV.bool ((decide (rx1.2 = 3)))) (fun M hM => ?_) (fun fr21 τz13 hm => ?_)
  ·simp [go_sem, f11, f112, f14, f15, f2, f7, f8, f9, gb7, gb8, gb9, gb11]
   refine (hM _ _).2 ⟨rfl, ?_⟩ <;> simp [go_sem, f11, f112, f14, f15, f2, f7, f8, f9, gb7, gb8, gb9, gb11]
  clear f11 f112 f14 f15 f2 f7 f8 f9
  obtain ⟨rfl, f6⟩ := hm
  obtain rfl := Option.some.inj hoi
  exact SW.ret ⟨AV.bool ((decide (rx1.2 = 3))), by simp [go_sem, f6], .lit _, hK.keeps⟩
 have hoi := condF hoi hx4
 refine SW.skip ?_
 refine SW.seq ?_
 obtain ⟨q2, hq2, hoi⟩ := obind hoi
 refine SW.regX (fun f_ t_ => τ6 = t_ ∧ f_ 2 = AV.bool (A) ∧ f_ 7 = AV.ptr b7 0 ∧ f_ 8 = AV.ptr b8 0 ∧ f_ 9 = AV.ptr b9 0 ∧ f_ 11 = AV.ptr b11 0 ∧ f_ 16 = AV.bool (q2)) (fun M hM => ?_) (fun fr22 τz14 hm => ?_)
 ·simp [go_sem, f11, f112, f14, f15, f2, f7, f8, f9, gb7, gb8, gb9, gb11]
  refine EWcall_frz (w_slices_ContainsFunc_Morphism rx1.1 (fun a0 => s_law17_SearchBrute_c1 a0 (⟨x, x1⟩ : Morph)) 26 [AV.iptr [intsA (x), intsA (x1)]] (fun a0 r h => w_law17_SearchBrute_c1 a0 (⟨x, x1⟩ : Morph) r h) _ hq2) rfl (frzL_c ((DataA.imm (DataL.flatMap gd_morphC rx1.1)) _ _) (frzL_c (frz_fnL (frzL_c (frz_ptrL (Nat.zero_le _) gb11 (frzL_c (ArrAt.frzle av2 (Nat.zero_le _) (DataL.map (fun _ => .lit _) x)) (frzL_c (ArrAt.frzle av3 (Nat.zero_le _) (DataL.map (fun _ => .lit _) x1)) (frzL_n)))) (frzL_n))) (frzL_n))) ?_
  simp [go_sem, f11, f112, f14, f15, f2, f7, f8, f9, gb7, gb8, gb9, gb11]
  refine (hM _ _).2 ⟨rfl, ?_, ?_, ?_, ?_, ?_, ?_⟩ <;> simp [go_sem, f11, f112, f14, f15, f2, f7, f8, f9, gb7, gb8, gb9, gb11]
 clear f11 f112 f14 f15 f2 f7 f8 f9
 obtain ⟨rfl, f2, f7, f8, f9, f11, f16⟩ := hm
 refine SW.seq ?_
 obtain ⟨n4, hn4, hoi⟩ := obind hoi
 refine SW.regX (fun f_ t_ => τ6 = t_ ∧ f_ 6 = AV.bool ((q2 == ((decide (n4 = 0)))))) (fun M hM => ?_) (fun fr23 τz15 hm => ?_)
 ·have zv2 := av2
  rcases zv2 with ⟨rfl, nv2, mv2⟩ | ⟨ov2, rfl, gov2, tov2, lov2, hiv2⟩
  ·have zv3 := av3
   rcases zv3 with ⟨rfl, nv3, mv3⟩ | ⟨ov3, rfl, gov3, tov3, lov3, hiv3⟩
   ·simp [go_sem, f11, f16, f2, f7, f8, f9, gb7, gb8, gb9, gb11, nv2, mv2, nv3, mv3]
    refine EWcall_frz (w_search_Check rx.1 rx.2.1 rx.2.2.1 (⟨x, x1⟩ : Morph) A _ hn4) rfl (frzL_c (frz_aggL (frzL_c ((DataA.imm (DataL.flatMap gd_nodeC rx.1.nodes)) _ _) (frzL_c ((DataA.imm (DataL.flatMap gd_edgeC rx.1.edges)) _ _) (frzL_n)))) (frzL_c (frz_aggL (frzL_c ((DataA.imm (DataL.map (fun _ => .lit _) rx.2.1.nodes)) _ _) (frzL_c ((DataA.imm (DataL.flatMap gd_e3C rx.2.1.edges)) _ _) (frzL_n)))) (frzL_c (frz_aggL (frzL_c ((DataA.imm (DataL.map (fun _ => .lit _) rx.2.2.1.nodes)) _ _) (frzL_c ((DataA.imm (DataL.flatMap gd_e3C rx.2.2.1.edges)) _ _) (frzL_n)))) (frzL_c (frz_aggL (frzL_c (ArrAt.frzle av2 (Nat.zero_le _) (DataL.map (fun _ => .lit _) x)) (frzL_c (ArrAt.frzle av3 (Nat.zero_le _) (DataL.map (fun _ => .lit _) x1)) (frzL_n)))) (frzL_c (.lit _) (frzL_n)))))) ?_
    simp [go_sem, f11, f16, f2, f7, f8, f9, gb7, gb8, gb9, gb11, nv2, mv2, nv3, mv3]
    refine (hM _ _).2 ⟨rfl, ?_⟩ <;> simp [go_sem, f11, f16, f2, f7, f8, f9, gb7, gb8, gb9, gb11, nv2, mv2, nv3, mv3]
   ·simp [go_sem, f11, f16, f2, f7, f8, f9, gb7, gb8, gb9, gb11, nv2, mv2, gov3, tov3]
    refine EWcall_frz (w_search_Check rx.1 rx.2.1 rx.2.2.1 (⟨x, x1⟩ : Morph) A _ hn4) rfl (frzL_c (frz_aggL (frzL_c ((DataA.imm (DataL.flatMap gd_nodeC rx.1.nodes)) _ _) (frzL_c ((DataA.imm (DataL.flatMap gd_edgeC rx.1.edges)) _ _) (frzL_n)))) (frzL_c (frz_aggL (frzL_c ((DataA.imm (DataL.map (fun _ => .lit _) rx.2.1.nodes)) _ _) (frzL_c ((DataA.imm (DataL.flatMap gd_e3C rx.2.1.edges)) _ _) (frzL_n)))) (frzL_c (frz_aggL (frzL_c ((DataA.imm (DataL.map (fun _ => .lit _) rx.2.2.1.nodes)) _ _) (frzL_c ((DataA.imm (DataL.flatMap gd_e3C rx.2.2.1.edges)) _ _) (frzL_n)))) (frzL_c (frz_aggL (frzL_c (ArrAt.frzle av2 (Nat.zero_le _) (DataL.map (fun _ => .lit _) x)) (frzL_c (ArrAt.frzle av3 (Nat.zero_le _) (DataL.map (fun _ => .lit _) x1)) (frzL_n)))) (frzL_c (.lit _) (frzL_n)))))) ?_
    simp [go_sem, f11, f16, f2, f7, f8, f9, gb7, gb8, gb9, gb11, nv2, mv2, gov3, tov3]
    refine (hM _ _).2 ⟨rfl, ?_⟩ <;> simp [go_sem, f11, f16, f2, f7, f8, f9, gb7, gb8, gb9, gb11, nv2, mv2, gov3, tov3]
  ·have zv3 := av3
   rcases zv3 with ⟨rfl, nv3, mv3⟩ | ⟨ov3, rfl, gov3, tov3, lov3, hiv3⟩
   ·simp [go_sem, f11, f16, f2, f7, f8, f9, gb7, gb8, gb9, gb11, gov2, tov2, nv3, mv3]
    refine EWcall_frz (w_search_Check rx.1 rx.2.1 rx.2.2.1 (⟨x, x1⟩ : Morph) A _ hn4) rfl (frzL_c (frz_aggL (frzL_c ((DataA.imm (DataL.flatMap gd_nodeC rx.1.nodes)) _ _) (frzL_c ((DataA.imm (DataL.flatMap gd_edgeC rx.1.edges)) _ _) (frzL_n)))) (frzL_c (frz_aggL (frzL_c ((DataA.imm (DataL.map (fun _ => .lit _) rx.2.1.nodes)) _ _) (frzL_c ((DataA.imm (DataL.flatMap gd_e3C rx.2.1.edges)) _ _) (frzL_n)))) (frzL_c (frz_aggL (frzL_c ((DataA.imm (DataL.map (fun _ => .lit _) rx.2.2.1.nodes)) _ _) (frzL_c ((DataA.imm (DataL.flatMap gd_e3C rx.2.2.1.edges)) _ _) (frzL_n)))) (frzL_c (frz_aggL (frzL_c (ArrAt.frzle av2 (Nat.zero_le _) (DataL.map (fun _ => .lit _) x)) (frzL_c (ArrAt.frzle av3 (Nat.zero_le _) (DataL.map (fun _ => .lit _) x1)) (frzL_n)))) (frzL_c (.lit _) (frzL_n)))))) ?_
    simp [go_sem, f11, f16, f2, f7, f8, f9, gb7, gb8, gb9, gb11, gov2, tov2, nv3, mv3]
    refine (hM _ _).2 ⟨rfl, ?_⟩ <;> simp [go_sem, f11, f16, f2, f7, f8, f9, gb7, gb8, gb9, gb11, gov2, tov2, nv3, mv3]
   ·simp [go_sem, f11, f16, f2, f7, f8, f9, gb7, gb8, gb9, gb11, gov2, tov2, gov3, tov3]
    refine EWcall_frz (w_search_Check rx.1 rx.2.1 rx.2.2.1 (⟨x, x1⟩ : Morph) A _ hn4) rfl (frzL_c (frz_aggL (frzL_c ((DataA.imm (DataL.flatMap gd_nodeC rx.1.nodes)) _ _) (frzL_c ((DataA.imm (DataL.flatMap gd_edgeC rx.1.edges)) _ _) (frzL_n)))) (frzL_c (frz_aggL (frzL_c ((DataA.imm (DataL.map (fun _ => .lit _) rx.2.1.nodes)) _ _) (frzL_c ((DataA.imm (DataL.flatMap gd_e3C rx.2.1.edges)) _ _) (frzL_n)))) (frzL_c (frz_aggL (frzL_c ((DataA.imm (DataL.map (fun _ => .lit _) rx.2.2.1.nodes)) _ _) (frzL_c ((DataA.imm (DataL.flatMap gd_e3C rx.2.2.1.edges)) _ _) (frzL_n)))) (frzL_c (frz_aggL (frzL_c (ArrAt.frzle av2 (Nat.zero_le _) (DataL.map (fun _ => .lit _) x)) (frzL_c (ArrAt.frzle av3 (Nat.zero_le _) (DataL.map (fun _ => .lit _) x1)) (frzL_n)))) (frzL_c (.lit _) (frzL_n)))))) ?_
    simp [go_sem, f11, f16, f2, f7, f8, f9, gb7, gb8, gb9, gb11, gov2, tov2, gov3, tov3]
    refine (hM _ _).2 ⟨rfl, ?_⟩ <;> simp [go_sem, f11, f16, f2, f7, f8, f9, gb7, gb8, gb9, gb11, gov2, tov2, gov3, tov3]
 clear f11 f16 f2 f7 f8 f9
 obtain ⟨rfl, f6⟩ := hm
 obtain rfl := Option.some.inj hoi
 exact SW.ret ⟨AV.bool ((q2 == ((decide (n4 = 0))))), by simp [go_sem, f6], .lit _, hK.keeps⟩
end Go.Proofs.YtdacgjleiloooaaGreat
