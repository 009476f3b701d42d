/-
  Plain functions and the walks that lead to them, by a program of ours (gen.py): scarfjoint/attribute.solve, scarfjoint/attribute.Matches.
-/
import Derived.Test.YtippinddoldhkaaGreatGd
import Derived.Test.YtippinddoldhkaaGreatGT
import Derived.Test.YtippinddoldhkaaGreatB3
import Derived.Test.YtippinddoldhkaaGreatB7
import Derived.Test.YtippinddoldhkaaGreatGS
import Derived.Test.YtippinddoldhkaaGreatLg
import Derived.Test.YtippinddoldhkaaGreatGa7
import Derived.Test.YtippinddoldhkaaGreatGa8
import Derived.Test.YtippinddoldhkaaGreatGa6
set_option linter.unusedSimpArgs false
set_option linter.unusedVariables false
namespace Go.Proofs.YtippinddoldhkaaGreat
open Go Go.Ew Go.Proofs Go.RowKit
set_option maxRecDepth 100000
def O_attribute_solve (r : ((List Int) × Int)) (n : Nat) (x : AV) (τ : Mem) : Prop := ∃ v0_ : AV, x = AV.tup [v0_, AV.int (r.2)] ∧ ArrAt n τ v0_ 3 (r.1.map AV.int) r.1.length 1
set_option maxHeartbeats 4000000 in
theorem o_attribute_solve (t : GPattern) (o : GHost) (A : Morph) (r : ((List Int) × Int)) (h : s_attribute_solve t o A = some r) (σ0 : Mem) : CallA Tryz.prog 74 [AV.agg [intsA (t.graph.nodes), e3sA (t.graph.edges), sl_GSlot (t.slots), AV.int (t.vars), sl_GTest (t.tests)], AV.agg [intsA (o.graph.nodes), e3sA (o.graph.edges), sl_List_Int (o.values)], AV.agg [intsA (A.nodes), intsA (A.edges)]] σ0 (fun x τ => O_attribute_solve r σ0.next x τ ∧ Kept σ0 τ ∧ σ0.next ≤ τ.next) := by
 refine callA_of_SW (N := 86) Tryz.func74 (by kernel_rfl) rfl (by rw [Tryz.ntmps74]; rfl) ?_
 rw [Tryz.results74]
 obtain ⟨fr0, hfr⟩ : ∃ fr, fr = initFr [AV.agg [intsA (t.graph.nodes), e3sA (t.graph.edges), sl_GSlot (t.slots), AV.int (t.vars), sl_GTest (t.tests)], AV.agg [intsA (o.graph.nodes), e3sA (o.graph.edges), sl_List_Int (o.values)], AV.agg [intsA (A.nodes), intsA (A.edges)]] := ⟨_, rfl⟩
 rw [← hfr]
 have f0 : fr0 0 = AV.agg [intsA (t.graph.nodes), e3sA (t.graph.edges), sl_GSlot (t.slots), AV.int (t.vars), sl_GTest (t.tests)] := by rw [hfr]; rfl
 have f1 : fr0 1 = AV.agg [intsA (o.graph.nodes), e3sA (o.graph.edges), sl_List_Int (o.values)] := by rw [hfr]; rfl
 have f2 : fr0 2 = AV.agg [intsA (A.nodes), intsA (A.edges)] := by rw [hfr]; rfl
 clear hfr
 simp only [s_attribute_solve] at h
 refine SW.seq ?_
 refine SW.regX (fun f_ t_ => ∃ b3 : Nat, ∃ b4 : Nat, ∃ b5 : Nat, f_ 3 = AV.ptr b3 0 ∧ f_ 4 = AV.ptr b4 0 ∧ f_ 5 = AV.ptr b5 0 ∧ Kept σ0 t_ ∧ σ0.next ≤ t_.next ∧ t_.get b3 = some [intsA (t.graph.nodes), e3sA (t.graph.edges), sl_GSlot (t.slots), AV.int (t.vars), sl_GTest (t.tests)] ∧ b3 < t_.next ∧ t_.get b4 = some [intsA (o.graph.nodes), e3sA (o.graph.edges), sl_List_Int (o.values)] ∧ b4 < t_.next ∧ t_.get b5 = some [intsA (A.nodes), intsA (A.edges)] ∧ b5 < t_.next ∧ σ0.next ≤ b3 ∧ σ0.next ≤ b4 ∧ ¬ b3 = b4 ∧ σ0.next ≤ b5 ∧ ¬ b3 = b5 ∧ ¬ b4 = b5) (fun M hM => ?_) (fun fr1 τ hm => ?_)
 ·simp [go_sem, f0, f1, f2]
  refine (hM _ _).2 ⟨σ0.next, (σ0.next + 1), (σ0.next + 2), ?_, ?_, ?_, by intro j hj; simp [go_sem, show ¬ j = σ0.next by omega, show ¬ j = σ0.next + 1 by omega, show ¬ j = σ0.next + 2 by omega], by first | omega | (simp [go_sem]; done) | (simp [go_sem]; omega), by simp (disch := omega) [get_alloc_ne, get_set_ne, get_kill_ne, go_sem, f0, f1, f2], by first | omega | (simp [go_sem]; done) | (simp [go_sem]; omega), by simp (disch := omega) [get_alloc_ne, get_set_ne, get_kill_ne, go_sem, f0, f1, f2], by first | omega | (simp [go_sem]; done) | (simp [go_sem]; omega), by simp (disch := omega) [get_alloc_ne, get_set_ne, get_kill_ne, go_sem, f0, f1, f2], by first | omega | (simp [go_sem]; done) | (simp [go_sem]; omega), by omega, by omega, by omega, by omega, by omega, by omega⟩ <;> simp [go_sem, f0, f1, f2]
 clear f0 f1 f2
 obtain ⟨b3, b4, b5, f3, f4, f5, hK, hN, gb3, ub3, gb4, ub4, gb5, ub5, wb3, wb4, eb3b4, wb5, eb3b5, eb4b5⟩ := hm
 refine SW.seq ?_
 obtain ⟨a, ha, h⟩ := obind h
 obtain ⟨pa, la, ea⟩ := mkL_spec ha
 have ca_0 : t.vars ≤ 9223372036854775807 := by omega
 have ca_1 : 8 * t.vars ≤ 281474976710656 := by omega
 have za := zerosA_map AV.int 0 t.vars.toNat
 try simp at za
 obtain ⟨a1, ha1, h⟩ := obind h
 obtain ⟨pa1, la1, ea1⟩ := mkL_spec ha1
 have ca1_0 : t.vars ≤ 9223372036854775807 := by omega
 have ca1_1 : t.vars ≤ 281474976710656 := by omega
 have za1 := zerosA_map AV.bool false t.vars.toNat
 try simp at za1
 refine SW.regX (fun f_ t_ => ∃ v : AV, ∃ v1 : AV, f_ 3 = AV.ptr b3 0 ∧ f_ 4 = AV.ptr b4 0 ∧ f_ 5 = AV.ptr b5 0 ∧ f_ 8 = v ∧ f_ 9 = v1 ∧ Kept σ0 t_ ∧ σ0.next ≤ t_.next ∧ t_.get b3 = some [intsA (t.graph.nodes), e3sA (t.graph.edges), sl_GSlot (t.slots), AV.int (t.vars), sl_GTest (t.tests)] ∧ b3 < t_.next ∧ t_.get b4 = some [intsA (o.graph.nodes), e3sA (o.graph.edges), sl_List_Int (o.values)] ∧ b4 < t_.next ∧ t_.get b5 = some [intsA (A.nodes), intsA (A.edges)] ∧ b5 < t_.next ∧ ArrAt σ0.next t_ v 3 (a.map AV.int) a.length 1 ∧ ArrAt σ0.next t_ v1 4 (a1.map AV.bool) a1.length 1 ∧ (∀ i, idOf v = some i → ¬ i = b3) ∧ (∀ i, idOf v1 = some i → ¬ i = b3) ∧ (∀ i, idOf v = some i → ¬ i = b4) ∧ (∀ i, idOf v1 = some i → ¬ i = b4) ∧ (∀ i, idOf v = some i → ¬ i = b5) ∧ (∀ i, idOf v1 = some i → ¬ i = b5) ∧ Apart v v1) (fun M hM => ?_) (fun fr2 τ1 hm => ?_)
 ·have nb3_0 : ¬ b3 = τ.next := by omega
  have nb3_1 : ¬ b3 = τ.next + 1 := by omega
  have nb4_0 : ¬ b4 = τ.next := by omega
  have nb4_1 : ¬ b4 = τ.next + 1 := by omega
  have nb5_0 : ¬ b5 = τ.next := by omega
  have nb5_1 : ¬ b5 = τ.next + 1 := by omega
  have nb3_b4 : ¬ b3 = b4 := by omega
  have nb3_b5 : ¬ b3 = b5 := by omega
  have nb4_b3 : ¬ b4 = b3 := by omega
  have nb4_b5 : ¬ b4 = b5 := by omega
  have nb5_b3 : ¬ b5 = b3 := by omega
  have nb5_b4 : ¬ b5 = b4 := by omega
  refine EW_regionY τ 8 (.q false 0 (.q false 1 (.q false 3 (.q false 4 (.both (.s 2 (.q false 6 (.s 5 (.q false 7 .done)))) (.s 5 (.s 2 (.q false 6 (.q false 7 .done))))))))) (by kernel_rfl) (by kernel_rfl) (fun _ _ h => h) (fun hfin => ?_)
  have m0_ : τ.get (τ.next) = none := hfin _ (by omega)
  have m1_ : τ.get (τ.next + 1) = none := hfin _ (by omega)
  have hsub : Sub τ τ := (fun _ _ h => h)
  simp (maxDischargeDepth := 12) [go_sem, f3, f4, f5, gb3, gb4, gb5, pa, ca_0, ca_1, za, pa1, ca1_0, ca1_1, za1, nb3_0, nb3_1, nb4_0, nb4_1, nb5_0, nb5_1, nb3_b4, nb3_b5, nb4_b3, nb4_b5, nb5_b3, nb5_b4, m0_, m1_, sub_set, sub_killAll, hsub]
  refine ⟨?_, ?_⟩
  ·refine (hM _ _).2 ⟨AV.arr τ.next 0 a.length 1, AV.arr (τ.next + 1) 0 a1.length 1, ?_, ?_, ?_, ?_, ?_, by intro j hj; have hj_ := hK j hj; simp [go_sem, hj_.1, hj_.2, show ¬ j = τ.next by omega, show ¬ j = τ.next + 1 by omega], by first | omega | (simp [go_sem]; done) | (simp [go_sem]; omega), by simp (disch := omega) [get_alloc_ne, get_set_ne, get_kill_ne, go_sem, f3, f4, f5, gb3, gb4, gb5, pa, ca_0, ca_1, za, pa1, ca1_0, ca1_1, za1, nb3_0, nb3_1, nb4_0, nb4_1, nb5_0, nb5_1, nb3_b4, nb3_b5, nb4_b3, nb4_b5, nb5_b3, nb5_b4, m0_, m1_, sub_set, sub_killAll, hsub, ea, ea1], by first | omega | (simp [go_sem]; done) | (simp [go_sem]; omega), by simp (disch := omega) [get_alloc_ne, get_set_ne, get_kill_ne, go_sem, f3, f4, f5, gb3, gb4, gb5, pa, ca_0, ca_1, za, pa1, ca1_0, ca1_1, za1, nb3_0, nb3_1, nb4_0, nb4_1, nb5_0, nb5_1, nb3_b4, nb3_b5, nb4_b3, nb4_b5, nb5_b3, nb5_b4, m0_, m1_, sub_set, sub_killAll, hsub, ea, ea1], by first | omega | (simp [go_sem]; done) | (simp [go_sem]; omega), by simp (disch := omega) [get_alloc_ne, get_set_ne, get_kill_ne, go_sem, f3, f4, f5, gb3, gb4, gb5, pa, ca_0, ca_1, za, pa1, ca1_0, ca1_1, za1, nb3_0, nb3_1, nb4_0, nb4_1, nb5_0, nb5_1, nb3_b4, nb3_b5, nb4_b3, nb4_b5, nb5_b3, nb5_b4, m0_, m1_, sub_set, sub_killAll, hsub, ea, ea1], by first | omega | (simp [go_sem]; done) | (simp [go_sem]; omega), .inr ⟨τ.next, rfl, by simp (disch := omega) [get_alloc_ne, get_set_ne, get_kill_ne, go_sem, f3, f4, f5, gb3, gb4, gb5, pa, ca_0, ca_1, za, pa1, ca1_0, ca1_1, za1, nb3_0, nb3_1, nb4_0, nb4_1, nb5_0, nb5_1, nb3_b4, nb3_b5, nb4_b3, nb4_b5, nb5_b3, nb5_b4, m0_, m1_, sub_set, sub_killAll, hsub, ea, ea1], by simp [go_sem, f3, f4, f5, gb3, gb4, gb5, pa, ca_0, ca_1, za, pa1, ca1_0, ca1_1, za1, nb3_0, nb3_1, nb4_0, nb4_1, nb5_0, nb5_1, nb3_b4, nb3_b5, nb4_b3, nb4_b5, nb5_b3, nb5_b4, m0_, m1_, sub_set, sub_killAll, hsub, ea, ea1], by omega, by first | (simp [go_sem]; done) | (simp [go_sem]; omega)⟩, .inr ⟨(τ.next + 1), rfl, by simp (disch := omega) [get_alloc_ne, get_set_ne, get_kill_ne, go_sem, f3, f4, f5, gb3, gb4, gb5, pa, ca_0, ca_1, za, pa1, ca1_0, ca1_1, za1, nb3_0, nb3_1, nb4_0, nb4_1, nb5_0, nb5_1, nb3_b4, nb3_b5, nb4_b3, nb4_b5, nb5_b3, nb5_b4, m0_, m1_, sub_set, sub_killAll, hsub, ea, ea1], by simp [go_sem, f3, f4, f5, gb3, gb4, gb5, pa, ca_0, ca_1, za, pa1, ca1_0, ca1_1, za1, nb3_0, nb3_1, nb4_0, nb4_1, nb5_0, nb5_1, nb3_b4, nb3_b5, nb4_b3, nb4_b5, nb5_b3, nb5_b4, m0_, m1_, sub_set, sub_killAll, hsub, ea, ea1], by omega, by first | (simp [go_sem]; done) | (simp [go_sem]; omega)⟩, by intro i hi; first | (simp [idOf] at hi; done) | (simp [idOf] at hi; omega), by intro i hi; first | (simp [idOf] at hi; done) | (simp [idOf] at hi; omega), by intro i hi; first | (simp [idOf] at hi; done) | (simp [idOf] at hi; omega), by intro i hi; first | (simp [idOf] at hi; done) | (simp [idOf] at hi; omega), by intro i hi; first | (simp [idOf] at hi; done) | (simp [idOf] at hi; omega), by intro i hi; first | (simp [idOf] at hi; done) | (simp [idOf] at hi; omega), by first | exact evv1 | exact apart_symm ev1v | (intro i h1 h2; simp [idOf] at h1; done) | (intro i h1 h2; simp [idOf] at h2; done) | (intro i h1 h2; simp [idOf] at h1; simp [idOf] at h2; omega)⟩ <;> simp [go_sem, f3, f4, f5, gb3, gb4, gb5, pa, ca_0, ca_1, za, pa1, ca1_0, ca1_1, za1, nb3_0, nb3_1, nb4_0, nb4_1, nb5_0, nb5_1, nb3_b4, nb3_b5, nb4_b3, nb4_b5, nb5_b3, nb5_b4, m0_, m1_, sub_set, sub_killAll, hsub, ea, ea1]
  ·refine (hM _ _).2 ⟨AV.arr (τ.next + 1) 0 a.length 1, AV.arr τ.next 0 a1.length 1, ?_, ?_, ?_, ?_, ?_, by intro j hj; have hj_ := hK j hj; simp [go_sem, hj_.1, hj_.2, show ¬ j = τ.next by omega, show ¬ j = τ.next + 1 by omega], by first | omega | (simp [go_sem]; done) | (simp [go_sem]; omega), by simp (disch := omega) [get_alloc_ne, get_set_ne, get_kill_ne, go_sem, f3, f4, f5, gb3, gb4, gb5, pa, ca_0, ca_1, za, pa1, ca1_0, ca1_1, za1, nb3_0, nb3_1, nb4_0, nb4_1, nb5_0, nb5_1, nb3_b4, nb3_b5, nb4_b3, nb4_b5, nb5_b3, nb5_b4, m0_, m1_, sub_set, sub_killAll, hsub, ea, ea1], by first | omega | (simp [go_sem]; done) | (simp [go_sem]; omega), by simp (disch := omega) [get_alloc_ne, get_set_ne, get_kill_ne, go_sem, f3, f4, f5, gb3, gb4, gb5, pa, ca_0, ca_1, za, pa1, ca1_0, ca1_1, za1, nb3_0, nb3_1, nb4_0, nb4_1, nb5_0, nb5_1, nb3_b4, nb3_b5, nb4_b3, nb4_b5, nb5_b3, nb5_b4, m0_, m1_, sub_set, sub_killAll, hsub, ea, ea1], by first | omega | (simp [go_sem]; done) | (simp [go_sem]; omega), by simp (disch := omega) [get_alloc_ne, get_set_ne, get_kill_ne, go_sem, f3, f4, f5, gb3, gb4, gb5, pa, ca_0, ca_1, za, pa1, ca1_0, ca1_1, za1, nb3_0, nb3_1, nb4_0, nb4_1, nb5_0, nb5_1, nb3_b4, nb3_b5, nb4_b3, nb4_b5, nb5_b3, nb5_b4, m0_, m1_, sub_set, sub_killAll, hsub, ea, ea1], by first | omega | (simp [go_sem]; done) | (simp [go_sem]; omega), .inr ⟨(τ.next + 1), rfl, by simp (disch := omega) [get_alloc_ne, get_set_ne, get_kill_ne, go_sem, f3, f4, f5, gb3, gb4, gb5, pa, ca_0, ca_1, za, pa1, ca1_0, ca1_1, za1, nb3_0, nb3_1, nb4_0, nb4_1, nb5_0, nb5_1, nb3_b4, nb3_b5, nb4_b3, nb4_b5, nb5_b3, nb5_b4, m0_, m1_, sub_set, sub_killAll, hsub, ea, ea1], by simp [go_sem, f3, f4, f5, gb3, gb4, gb5, pa, ca_0, ca_1, za, pa1, ca1_0, ca1_1, za1, nb3_0, nb3_1, nb4_0, nb4_1, nb5_0, nb5_1, nb3_b4, nb3_b5, nb4_b3, nb4_b5, nb5_b3, nb5_b4, m0_, m1_, sub_set, sub_killAll, hsub, ea, ea1], by omega, by first | (simp [go_sem]; done) | (simp [go_sem]; omega)⟩, .inr ⟨τ.next, rfl, by simp (disch := omega) [get_alloc_ne, get_set_ne, get_kill_ne, go_sem, f3, f4, f5, gb3, gb4, gb5, pa, ca_0, ca_1, za, pa1, ca1_0, ca1_1, za1, nb3_0, nb3_1, nb4_0, nb4_1, nb5_0, nb5_1, nb3_b4, nb3_b5, nb4_b3, nb4_b5, nb5_b3, nb5_b4, m0_, m1_, sub_set, sub_killAll, hsub, ea, ea1], by simp [go_sem, f3, f4, f5, gb3, gb4, gb5, pa, ca_0, ca_1, za, pa1, ca1_0, ca1_1, za1, nb3_0, nb3_1, nb4_0, nb4_1, nb5_0, nb5_1, nb3_b4, nb3_b5, nb4_b3, nb4_b5, nb5_b3, nb5_b4, m0_, m1_, sub_set, sub_killAll, hsub, ea, ea1], by omega, by first | (simp [go_sem]; done) | (simp [go_sem]; omega)⟩, by intro i hi; first | (simp [idOf] at hi; done) | (simp [idOf] at hi; omega), by intro i hi; first | (simp [idOf] at hi; done) | (simp [idOf] at hi; omega), by intro i hi; first | (simp [idOf] at hi; done) | (simp [idOf] at hi; omega), by intro i hi; first | (simp [idOf] at hi; done) | (simp [idOf] at hi; omega), by intro i hi; first | (simp [idOf] at hi; done) | (simp [idOf] at hi; omega), by intro i hi; first | (simp [idOf] at hi; done) | (simp [idOf] at hi; omega), by first | exact evv1 | exact apart_symm ev1v | (intro i h1 h2; simp [idOf] at h1; done) | (intro i h1 h2; simp [idOf] at h2; done) | (intro i h1 h2; simp [idOf] at h1; simp [idOf] at h2; omega)⟩ <;> simp [go_sem, f3, f4, f5, gb3, gb4, gb5, pa, ca_0, ca_1, za, pa1, ca1_0, ca1_1, za1, nb3_0, nb3_1, nb4_0, nb4_1, nb5_0, nb5_1, nb3_b4, nb3_b5, nb4_b3, nb4_b5, nb5_b3, nb5_b4, m0_, m1_, sub_set, sub_killAll, hsub, ea, ea1]
 clear f3 f4 f5 hK hN gb3 ub3 gb4 ub4 gb5 ub5
 obtain ⟨v, v1, f3, f4, f5, f8, f9, hK, hN, gb3, ub3, gb4, ub4, gb5, ub5, av, av1, evb3, ev1b3, evb4, ev1b4, evb5, ev1b5, evv1⟩ := hm
 refine SW.seq ?_
 refine SW.seq ?_
 refine SW.regX (fun f_ t_ => τ1 = t_ ∧ f_ 3 = AV.ptr b3 0 ∧ f_ 4 = AV.ptr b4 0 ∧ f_ 5 = AV.ptr b5 0 ∧ f_ 8 = v ∧ f_ 9 = v1 ∧ f_ 23 = sl_GSlot (t.slots) ∧ f_ 24 = AV.int (((t.slots.length : Nat) : Int)) ∧ f_ 25 = AV.int (0)) (fun M hM => ?_) (fun fr3 τz hm => ?_)
 ·simp [go_sem, f3, f4, f5, f8, f9, gb3, gb4, gb5]
  refine (hM _ _).2 ⟨rfl, ?_, ?_, ?_, ?_, ?_, ?_, ?_, ?_⟩ <;> simp [go_sem, f3, f4, f5, f8, f9, gb3, gb4, gb5]
 clear f3 f4 f5 f8 f9
 obtain ⟨rfl, f3, f4, f5, f8, f9, f23, f24, f25⟩ := hm
 obtain ⟨oi, hruni, hoi⟩ := obind h
 refine SW.len 23 f23 (fun hbigi => ?_)
 obtain ⟨KLi, hKLi⟩ : ∃ KL : Fr → Mem → Prop, ∀ fr' τ', KL fr' τ' ↔ (∃ t8 : List Int, ∃ t9 : List Bool, ∃ v2 : AV, oi = .done (t8, t9) ∧ fr' 3 = AV.ptr b3 0 ∧ fr' 8 = v2 ∧ Kept σ0 τ' ∧ σ0.next ≤ τ'.next ∧ τ'.get b3 = some [intsA (t.graph.nodes), e3sA (t.graph.edges), sl_GSlot (t.slots), AV.int (t.vars), sl_GTest (t.tests)] ∧ b3 < τ'.next ∧ ArrAt σ0.next τ' v2 3 (t8.map AV.int) t8.length 1 ∧ t8.length = a.length ∧ (∀ i, idOf v2 = some i → ¬ i = b3)) := ⟨_, fun _ _ => Iff.rfl⟩
 refine SW.cut KLi ?_ ?_
 ·refine SW.block ?_
  obtain ⟨Ji, hJi⟩ : ∃ J : Nat → Fr → Mem → Prop, ∀ m_ fr' τ', J m_ fr' τ' ↔ (∃ k : Nat, ∃ t8 : List Int, ∃ t9 : List Bool, ∃ v2 : AV, ∃ v3 : AV, m_ = t.slots.length - k ∧ forN (b1_attribute_solve t o A) (t.slots.length - k) k (t8, t9) = some oi ∧ fr' 3 = AV.ptr b3 0 ∧ fr' 4 = AV.ptr b4 0 ∧ fr' 5 = AV.ptr b5 0 ∧ fr' 8 = v2 ∧ fr' 9 = v3 ∧ fr' 23 = sl_GSlot (t.slots) ∧ fr' 24 = AV.int (((t.slots.length : Nat) : Int)) ∧ fr' 25 = AV.int (((k : Nat) : Int)) ∧ Kept σ0 τ' ∧ σ0.next ≤ τ'.next ∧ τ'.get b3 = some [intsA (t.graph.nodes), e3sA (t.graph.edges), sl_GSlot (t.slots), AV.int (t.vars), sl_GTest (t.tests)] ∧ b3 < τ'.next ∧ τ'.get b4 = some [intsA (o.graph.nodes), e3sA (o.graph.edges), sl_List_Int (o.values)] ∧ b4 < τ'.next ∧ τ'.get b5 = some [intsA (A.nodes), intsA (A.edges)] ∧ b5 < τ'.next ∧ ArrAt σ0.next τ' v2 3 (t8.map AV.int) t8.length 1 ∧ t8.length = a.length ∧ ArrAt σ0.next τ' v3 4 (t9.map AV.bool) t9.length 1 ∧ t9.length = a1.length ∧ (∀ i, idOf v2 = some i → ¬ i = b3) ∧ (∀ i, idOf v3 = some i → ¬ i = b3) ∧ (∀ i, idOf v2 = some i → ¬ i = b4) ∧ (∀ i, idOf v3 = some i → ¬ i = b4) ∧ (∀ i, idOf v2 = some i → ¬ i = b5) ∧ (∀ i, idOf v3 = some i → ¬ i = b5) ∧ Apart v2 v3) := ⟨_, fun _ _ _ => Iff.rfl⟩
  refine SW.loop Ji (t.slots.length - 0) ((hJi _ _ _).2 ⟨0, a, a1, v, v1, rfl, hruni, f3, f4, f5, f8, f9, f23, f24, f25, hK, hN, gb3, ub3, gb4, ub4, gb5, ub5, av, rfl, av1, rfl, evb3, ev1b3, evb4, ev1b4, evb5, ev1b5, (by first | exact evv1 | exact fun i h h' => ev1v i h' h)⟩) ?_
  clear hruni
  intro m_ fr4 τ2 hm
  rw [hJi] at hm
  clear f23 f24 f25 f3 f4 f5 f8 f9 hK hN gb3 ub3 gb4 ub4 gb5 ub5 av av1
  obtain ⟨k, t8, t9, v2, v3, rfl, hruni, f3, f4, f5, f8, f9, f23, f24, f25, hK, hN, gb3, ub3, gb4, ub4, gb5, ub5, av2, qv2, av3, qv3, ev2b3, ev3b3, ev2b4, ev3b4, ev2b5, ev3b5, ev2v3⟩ := hm
  refine SW.seq ?_
  refine SW.regX (fun f_ t_ => τ2 = t_ ∧ f_ 3 = AV.ptr b3 0 ∧ f_ 4 = AV.ptr b4 0 ∧ f_ 5 = AV.ptr b5 0 ∧ f_ 8 = v2 ∧ f_ 9 = v3 ∧ f_ 23 = sl_GSlot (t.slots) ∧ f_ 24 = AV.int (((t.slots.length : Nat) : Int)) ∧ f_ 25 = AV.int (((k : Nat) : Int)) ∧ f_ 26 = AV.bool ((decide (k < t.slots.length)))) (fun M hM => ?_) (fun fr5 τz1 hm => ?_)
  ·simp [go_sem, f23, f24, f25, f3, f4, f5, f8, f9, gb3, gb4, gb5]
   refine (hM _ _).2 ⟨rfl, ?_, ?_, ?_, ?_, ?_, ?_, ?_, ?_, ?_⟩ <;> simp [go_sem, f23, f24, f25, f3, f4, f5, f8, f9, gb3, gb4, gb5]
  clear f23 f24 f25 f3 f4 f5 f8 f9
  obtain ⟨rfl, f3, f4, f5, f8, f9, f23, f24, f25, f26⟩ := hm
  refine SW.seq ?_
  refine SW.cond _ f26 (fun vh => ?_) (fun vh => ?_)
  rotate_left
  ·have hk : ¬ k < t.slots.length := by have := of_decide_eq_false vh; omega
   refine SW.exit rfl ?_
   exact SW.goal ((hKLi _ _).2 ⟨t8, t9, v2, forN_end hruni hk, f3, f8, hK, hN, gb3, ub3, av2, qv2, ev2b3⟩)
  have hkk : k < t.slots.length := by have := of_decide_eq_true vh; omega
  have hwk : IntKind.i64.wrap ((k : Int) + 1) = ((k + 1 : Nat) : Int) := by rw [wrap64_of _ (by omega) (by omega)]; rfl
  obtain ⟨ci, hbi, hci⟩ := forN_step hruni hkk
  simp only [b1_attribute_solve] at hbi
  refine SW.skip ?_
  refine SW.seq ?_
  refine SW.block ?_
  refine SW.seq ?_
  obtain ⟨x, hx, hbi⟩ := obind hbi
  have xlx := getN_lt hx
  have xdx := getN_flat GSlotC 4 (fun _ => rfl) hx
  refine SW.regX (fun f_ t_ => ∃ b11 : Nat, f_ 3 = AV.ptr b3 0 ∧ f_ 4 = AV.ptr b4 0 ∧ f_ 5 = AV.ptr b5 0 ∧ f_ 8 = v2 ∧ f_ 9 = v3 ∧ f_ 11 = AV.ptr b11 0 ∧ f_ 23 = sl_GSlot (t.slots) ∧ f_ 24 = AV.int (((t.slots.length : Nat) : Int)) ∧ f_ 25 = AV.int (((k : Nat) : Int)) ∧ Kept σ0 t_ ∧ σ0.next ≤ t_.next ∧ t_.get b3 = some [intsA (t.graph.nodes), e3sA (t.graph.edges), sl_GSlot (t.slots), AV.int (t.vars), sl_GTest (t.tests)] ∧ b3 < t_.next ∧ t_.get b4 = some [intsA (o.graph.nodes), e3sA (o.graph.edges), sl_List_Int (o.values)] ∧ b4 < t_.next ∧ t_.get b5 = some [intsA (A.nodes), intsA (A.edges)] ∧ b5 < t_.next ∧ t_.get b11 = some [AV.int (x.node), AV.int (x.attr), AV.int (x.term.var), AV.int (x.term.add)] ∧ b11 < t_.next ∧ ArrAt σ0.next t_ v2 3 (t8.map AV.int) t8.length 1 ∧ t8.length = a.length ∧ ArrAt σ0.next t_ v3 4 (t9.map AV.bool) t9.length 1 ∧ t9.length = a1.length ∧ σ0.next ≤ b11 ∧ ¬ b3 = b11 ∧ ¬ b4 = b11 ∧ ¬ b5 = b11 ∧ (∀ i, idOf v2 = some i → ¬ i = b11) ∧ (∀ i, idOf v3 = some i → ¬ i = b11)) (fun M hM => ?_) (fun fr6 τ3 hm => ?_)
  ·have nb3_0 : ¬ b3 = τ2.next := by omega
   have nb4_0 : ¬ b4 = τ2.next := by omega
   have nb5_0 : ¬ b5 = τ2.next := by omega
   simp [go_sem, f23, f24, f25, f26, f3, f4, f5, f8, f9, gb3, gb4, gb5, xlx, xdx, GSlotC, nb3_0, nb4_0, nb5_0]
   refine (hM _ _).2 ⟨τ2.next, ?_, ?_, ?_, ?_, ?_, ?_, ?_, ?_, ?_, by intro j hj; have hj_ := hK j hj; simp [go_sem, hj_.1, hj_.2, show ¬ j = τ2.next by omega], by first | omega | (simp [go_sem]; done) | (simp [go_sem]; omega), by simp (disch := omega) [get_alloc_ne, get_set_ne, get_kill_ne, go_sem, f23, f24, f25, f26, f3, f4, f5, f8, f9, gb3, gb4, gb5, xlx, xdx, GSlotC, nb3_0, nb4_0, nb5_0], by first | omega | (simp [go_sem]; done) | (simp [go_sem]; omega), by simp (disch := omega) [get_alloc_ne, get_set_ne, get_kill_ne, go_sem, f23, f24, f25, f26, f3, f4, f5, f8, f9, gb3, gb4, gb5, xlx, xdx, GSlotC, nb3_0, nb4_0, nb5_0], by first | omega | (simp [go_sem]; done) | (simp [go_sem]; omega), by simp (disch := omega) [get_alloc_ne, get_set_ne, get_kill_ne, go_sem, f23, f24, f25, f26, f3, f4, f5, f8, f9, gb3, gb4, gb5, xlx, xdx, GSlotC, nb3_0, nb4_0, nb5_0], by first | omega | (simp [go_sem]; done) | (simp [go_sem]; omega), by simp (disch := omega) [get_alloc_ne, get_set_ne, get_kill_ne, go_sem, f23, f24, f25, f26, f3, f4, f5, f8, f9, gb3, gb4, gb5, xlx, xdx, GSlotC, nb3_0, nb4_0, nb5_0], by first | omega | (simp [go_sem]; done) | (simp [go_sem]; omega), av2.same' (by simp [go_sem]; try omega) (fun i hi => by have zl := arrAt_lt av2 i hi; have zi0 : ¬ i = τ2.next := (by omega); constructor <;> simp [go_sem, zi0]), by first | exact qv2 | (simp; done) | (simp [qv2]; done) | (simp [go_sem, f23, f24, f25, f26, f3, f4, f5, f8, f9, gb3, gb4, gb5, xlx, xdx, GSlotC, nb3_0, nb4_0, nb5_0]; done), av3.same' (by simp [go_sem]; try omega) (fun i hi => by have zl := arrAt_lt av3 i hi; have zi0 : ¬ i = τ2.next := (by omega); constructor <;> simp [go_sem, zi0]), by first | exact qv3 | (simp; done) | (simp [qv3]; done) | (simp [go_sem, f23, f24, f25, f26, f3, f4, f5, f8, f9, gb3, gb4, gb5, xlx, xdx, GSlotC, nb3_0, nb4_0, nb5_0]; done), by omega, by omega, by omega, by omega, by first | exact ev2b11 | (intro i hi; have := arrAt_lt av2 i hi; omega), by first | exact ev3b11 | (intro i hi; have := arrAt_lt av3 i hi; omega)⟩ <;> simp [go_sem, f23, f24, f25, f26, f3, f4, f5, f8, f9, gb3, gb4, gb5, xlx, xdx, GSlotC, nb3_0, nb4_0, nb5_0]
  clear f23 f24 f25 f26 f3 f4 f5 f8 f9 hK hN gb3 ub3 gb4 ub4 gb5 ub5 av2 qv2 av3 qv3
  obtain ⟨b11, f3, f4, f5, f8, f9, f11, f23, f24, f25, hK, hN, gb3, ub3, gb4, ub4, gb5, ub5, gb11, ub11, av2, qv2, av3, qv3, wb11, eb3b11, eb4b11, eb5b11, ev2b11, ev3b11⟩ := hm
  refine SW.seq ?_
  obtain ⟨n, hn, hbi⟩ := obind hbi
  have xpn := getI_pos hn
  have xln := getI_lt hn
  have xin := getI_N hn
  have xdn := getN_map AV.int xin
  obtain ⟨x1, hx1, hbi⟩ := obind hbi
  have xpx1 := getI_pos hx1
  have xlx1 := getI_lt hx1
  have xix1 := getI_N hx1
  have xdx1 := getN_map intsA xix1
  obtain ⟨n1, hn1, hbi⟩ := obind hbi
  have xpn1 := getI_pos hn1
  have xln1 := getI_lt hn1
  have xin1 := getI_N hn1
  have xdn1 := getN_map AV.int xin1
  refine SW.regX (fun f_ t_ => τ3 = t_ ∧ f_ 3 = AV.ptr b3 0 ∧ f_ 4 = AV.ptr b4 0 ∧ f_ 5 = AV.ptr b5 0 ∧ f_ 8 = v2 ∧ f_ 9 = v3 ∧ f_ 11 = AV.ptr b11 0 ∧ f_ 12 = AV.int (n1) ∧ f_ 23 = sl_GSlot (t.slots) ∧ f_ 24 = AV.int (((t.slots.length : Nat) : Int)) ∧ f_ 25 = AV.int (((k : Nat) : Int))) (fun M hM => ?_) (fun fr7 τz2 hm => ?_)
  ·refine EW_regionD (by kernel_rfl) (by kernel_rfl) ?_
   simp [go_sem, f11, f23, f24, f25, f3, f4, f5, f8, f9, gb3, gb4, gb5, gb11, xpn, xln, xdn, xpx1, xlx1, xdx1, intsA, xpn1, xln1, xdn1]
   refine (hM _ _).2 ⟨rfl, ?_, ?_, ?_, ?_, ?_, ?_, ?_, ?_, ?_, ?_⟩ <;> simp [go_sem, f11, f23, f24, f25, f3, f4, f5, f8, f9, gb3, gb4, gb5, gb11, xpn, xln, xdn, xpx1, xlx1, xdx1, intsA, xpn1, xln1, xdn1]
  clear f11 f23 f24 f25 f3 f4 f5 f8 f9
  obtain ⟨rfl, f3, f4, f5, f8, f9, f11, f12, f23, f24, f25⟩ := hm
  refine SW.seq ?_
  refine SW.seq ?_
  refine SW.regX (fun f_ t_ => τ3 = t_ ∧ f_ 3 = AV.ptr b3 0 ∧ f_ 4 = AV.ptr b4 0 ∧ f_ 5 = AV.ptr b5 0 ∧ f_ 8 = v2 ∧ f_ 9 = v3 ∧ f_ 11 = AV.ptr b11 0 ∧ f_ 12 = AV.int (n1) ∧ f_ 13 = AV.int (x.term.var) ∧ f_ 23 = sl_GSlot (t.slots) ∧ f_ 24 = AV.int (((t.slots.length : Nat) : Int)) ∧ f_ 25 = AV.int (((k : Nat) : Int))) (fun M hM => ?_) (fun fr8 τz3 hm => ?_)
  ·simp [go_sem, f11, f12, f23, f24, f25, f3, f4, f5, f8, f9, gb3, gb4, gb5, gb11]
   refine (hM _ _).2 ⟨rfl, ?_, ?_, ?_, ?_, ?_, ?_, ?_, ?_, ?_, ?_, ?_⟩ <;> simp [go_sem, f11, f12, f23, f24, f25, f3, f4, f5, f8, f9, gb3, gb4, gb5, gb11]
  clear f11 f12 f23 f24 f25 f3 f4 f5 f8 f9
  obtain ⟨rfl, f3, f4, f5, f8, f9, f11, f12, f13, f23, f24, f25⟩ := hm
  refine SW.seq ?_
  obtain ⟨c, hc, hbi⟩ := obind hbi
  refine SW.regX (fun f_ t_ => τ3 = t_ ∧ f_ 3 = AV.ptr b3 0 ∧ f_ 4 = AV.ptr b4 0 ∧ f_ 5 = AV.ptr b5 0 ∧ f_ 8 = v2 ∧ f_ 9 = v3 ∧ f_ 11 = AV.ptr b11 0 ∧ f_ 12 = AV.int (n1) ∧ f_ 13 = AV.int (x.term.var) ∧ f_ 23 = sl_GSlot (t.slots) ∧ f_ 24 = AV.int (((t.slots.length : Nat) : Int)) ∧ f_ 25 = AV.int (((k : Nat) : Int)) ∧ f_ 54 = AV.bool (c)) (fun M hM => ?_) (fun fr9 τz4 hm => ?_)
  ·rcases Bool.eq_false_or_eq_true ((decide (0 ≤ x.term.var))) with y0 | y0
   ·have y0' := y0
    try simp at y0'
    have ky0 := condT hc y0
    obtain ⟨q, hq, ky0⟩ := obind ky0
    have xpq := getI_pos hq
    have xlq := getI_lt hq
    have xiq := getI_N hq
    have xdq := getN_map AV.bool xiq
    have xoq : (t9.map AV.bool).length = t9.length * 1 := by simp
    have ec := Option.some.inj ky0
    have zv3 := av3
    rcases zv3 with ⟨rfl, nv3, mv3⟩ | ⟨ov3, rfl, gov3, tov3, lov3, hiv3⟩
    ·exfalso; omega
    ·simp [go_sem, f11, f12, f13, f23, f24, f25, f3, f4, f5, f8, f9, gb3, gb4, gb5, gb11, y0, y0', xpq, xlq, xdq, xoq, gov3, tov3]
     refine (hM _ _).2 ⟨rfl, ?_, ?_, ?_, ?_, ?_, ?_, ?_, ?_, ?_, ?_, ?_, ?_⟩ <;> simp [go_sem, f11, f12, f13, f23, f24, f25, f3, f4, f5, f8, f9, gb3, gb4, gb5, gb11, y0, y0', xpq, xlq, xdq, xoq, gov3, tov3, ← ec]
   ·have y0' := y0
    try simp at y0'
    have ky0 := condF hc y0
    have ec := Option.some.inj ky0
    simp [go_sem, f11, f12, f13, f23, f24, f25, f3, f4, f5, f8, f9, gb3, gb4, gb5, gb11, y0, y0']
    refine (hM _ _).2 ⟨rfl, ?_, ?_, ?_, ?_, ?_, ?_, ?_, ?_, ?_, ?_, ?_, ?_⟩ <;> simp [go_sem, f11, f12, f13, f23, f24, f25, f3, f4, f5, f8, f9, gb3, gb4, gb5, gb11, y0, y0', ← ec]
  clear f11 f12 f13 f23 f24 f25 f3 f4 f5 f8 f9
  obtain ⟨rfl, f3, f4, f5, f8, f9, f11, f12, f13, f23, f24, f25, f54⟩ := hm
  obtain ⟨oj, hjj, hoj⟩ := obind hbi
  obtain ⟨Jj, hJj⟩ : ∃ J : Fr → Mem → Prop, ∀ fr' τ', J fr' τ' ↔ (∃ t81 : List Int, ∃ t91 : List Bool, ∃ v4 : AV, ∃ v5 : AV, oj = .done (t81, t91) ∧ fr' 3 = AV.ptr b3 0 ∧ fr' 4 = AV.ptr b4 0 ∧ fr' 5 = AV.ptr b5 0 ∧ fr' 8 = v4 ∧ fr' 9 = v5 ∧ fr' 11 = AV.ptr b11 0 ∧ fr' 12 = AV.int (n1) ∧ fr' 23 = sl_GSlot (t.slots) ∧ fr' 24 = AV.int (((t.slots.length : Nat) : Int)) ∧ fr' 25 = AV.int (((k : Nat) : Int)) ∧ Kept σ0 τ' ∧ σ0.next ≤ τ'.next ∧ τ'.get b3 = some [intsA (t.graph.nodes), e3sA (t.graph.edges), sl_GSlot (t.slots), AV.int (t.vars), sl_GTest (t.tests)] ∧ b3 < τ'.next ∧ τ'.get b4 = some [intsA (o.graph.nodes), e3sA (o.graph.edges), sl_List_Int (o.values)] ∧ b4 < τ'.next ∧ τ'.get b5 = some [intsA (A.nodes), intsA (A.edges)] ∧ b5 < τ'.next ∧ τ'.get b11 = some [AV.int (x.node), AV.int (x.attr), AV.int (x.term.var), AV.int (x.term.add)] ∧ b11 < τ'.next ∧ ArrAt σ0.next τ' v4 3 (t81.map AV.int) t81.length 1 ∧ t81.length = a.length ∧ ArrAt σ0.next τ' v5 4 (t91.map AV.bool) t91.length 1 ∧ t91.length = a1.length ∧ (∀ i, idOf v4 = some i → ¬ i = b3) ∧ (∀ i, idOf v5 = some i → ¬ i = b3) ∧ (∀ i, idOf v4 = some i → ¬ i = b4) ∧ (∀ i, idOf v5 = some i → ¬ i = b4) ∧ (∀ i, idOf v4 = some i → ¬ i = b5) ∧ (∀ i, idOf v5 = some i → ¬ i = b5) ∧ (∀ i, idOf v4 = some i → ¬ i = b11) ∧ (∀ i, idOf v5 = some i → ¬ i = b11) ∧ Apart v4 v5) := ⟨_, fun _ _ => Iff.rfl⟩
  refine SW.cut Jj ?_ ?_
  ·refine SW.cond _ f54 (fun vh1 => ?_) (fun vh1 => ?_)
   ·have hjj := condT hjj vh1
    obtain ⟨n2, hn2, hjj⟩ := obind hjj
    have xpn2 := getI_pos hn2
    have xln2 := getI_lt hn2
    have xin2 := getI_N hn2
    have xdn2 := getN_map AV.int xin2
    have xon2 : (t8.map AV.int).length = t8.length * 1 := by simp
    have st10 := set_map AV.int ((IntKind.i64.wrap (n1 - x.term.add))) t8 x.term.var.toNat (by have := xpn2; have := xln2; omega)
    have sust10 : x.term.var.toNat + 1 ≤ t8.length := by have := (by have := xpn2; have := xln2; omega); omega
    obtain ⟨q1, hq1, hjj⟩ := obind hjj
    have xpq1 := getI_pos hq1
    have xlq1 := getI_lt hq1
    have xiq1 := getI_N hq1
    have xdq1 := getN_map AV.bool xiq1
    have xoq1 : (t9.map AV.bool).length = t9.length * 1 := by simp
    have st12 := set_map AV.bool true t9 x.term.var.toNat (by have := xpq1; have := xlq1; omega)
    have sust12 : x.term.var.toNat + 1 ≤ t9.length := by have := (by have := xpq1; have := xlq1; omega); omega
    refine SW.regX (fun f_ t_ => f_ 3 = AV.ptr b3 0 ∧ f_ 4 = AV.ptr b4 0 ∧ f_ 5 = AV.ptr b5 0 ∧ f_ 8 = v2 ∧ f_ 9 = v3 ∧ f_ 11 = AV.ptr b11 0 ∧ f_ 12 = AV.int (n1) ∧ f_ 23 = sl_GSlot (t.slots) ∧ f_ 24 = AV.int (((t.slots.length : Nat) : Int)) ∧ f_ 25 = AV.int (((k : Nat) : Int)) ∧ Kept σ0 t_ ∧ σ0.next ≤ t_.next ∧ t_.get b3 = some [intsA (t.graph.nodes), e3sA (t.graph.edges), sl_GSlot (t.slots), AV.int (t.vars), sl_GTest (t.tests)] ∧ b3 < t_.next ∧ t_.get b4 = some [intsA (o.graph.nodes), e3sA (o.graph.edges), sl_List_Int (o.values)] ∧ b4 < t_.next ∧ t_.get b5 = some [intsA (A.nodes), intsA (A.edges)] ∧ b5 < t_.next ∧ t_.get b11 = some [AV.int (x.node), AV.int (x.attr), AV.int (x.term.var), AV.int (x.term.add)] ∧ b11 < t_.next ∧ ArrAt σ0.next t_ v2 3 (((t8.set x.term.var.toNat ((IntKind.i64.wrap (n1 - x.term.add))))).map AV.int) ((t8.set x.term.var.toNat ((IntKind.i64.wrap (n1 - x.term.add))))).length 1 ∧ ((t8.set x.term.var.toNat ((IntKind.i64.wrap (n1 - x.term.add))))).length = a.length ∧ ArrAt σ0.next t_ v3 4 (((t9.set x.term.var.toNat true)).map AV.bool) ((t9.set x.term.var.toNat true)).length 1 ∧ ((t9.set x.term.var.toNat true)).length = a1.length) (fun M hM => ?_) (fun fr11 τ5 hm => ?_)
    ·have zv2 := av2
     rcases zv2 with ⟨rfl, nv2, mv2⟩ | ⟨ov2, rfl, gov2, tov2, lov2, hiv2⟩
     ·exfalso; omega
     ·have nv2_b3 : ¬ ov2 = b3 := ev2b3 _ rfl
      have nb3_v2 : ¬ b3 = ov2 := fun e => ev2b3 _ rfl e.symm
      have nv2_b4 : ¬ ov2 = b4 := ev2b4 _ rfl
      have nb4_v2 : ¬ b4 = ov2 := fun e => ev2b4 _ rfl e.symm
      have nv2_b5 : ¬ ov2 = b5 := ev2b5 _ rfl
      have nb5_v2 : ¬ b5 = ov2 := fun e => ev2b5 _ rfl e.symm
      have nv2_b11 : ¬ ov2 = b11 := ev2b11 _ rfl
      have nb11_v2 : ¬ b11 = ov2 := fun e => ev2b11 _ rfl e.symm
      have zv3 := av3
      rcases zv3 with ⟨rfl, nv3, mv3⟩ | ⟨ov3, rfl, gov3, tov3, lov3, hiv3⟩
      ·exfalso; omega
      ·have nv3_v2 : ¬ ov3 = ov2 := by first | exact apart_ne ev2v3 rfl | exact apart_ne (apart_symm ev3v2) rfl
       have nv2_v3 := fun e => nv3_v2 (Eq.symm e)
       have nv3_b3 : ¬ ov3 = b3 := ev3b3 _ rfl
       have nb3_v3 : ¬ b3 = ov3 := fun e => ev3b3 _ rfl e.symm
       have nv3_b4 : ¬ ov3 = b4 := ev3b4 _ rfl
       have nb4_v3 : ¬ b4 = ov3 := fun e => ev3b4 _ rfl e.symm
       have nv3_b5 : ¬ ov3 = b5 := ev3b5 _ rfl
       have nb5_v3 : ¬ b5 = ov3 := fun e => ev3b5 _ rfl e.symm
       have nv3_b11 : ¬ ov3 = b11 := ev3b11 _ rfl
       have nb11_v3 : ¬ b11 = ov3 := fun e => ev3b11 _ rfl e.symm
       simp [go_sem, f11, f12, f13, f23, f24, f25, f3, f4, f5, f54, f8, f9, gb3, gb4, gb5, gb11, xpn2, xln2, xdn2, xon2, sust10, st10, xpq1, xlq1, xdq1, xoq1, sust12, st12, gov2, tov2, nv2_b3, nb3_v2, nv2_b4, nb4_v2, nv2_b5, nb5_v2, nv2_b11, nb11_v2, gov3, tov3, nv3_v2, nv2_v3, nv3_b3, nb3_v3, nv3_b4, nb4_v3, nv3_b5, nb5_v3, nv3_b11, nb11_v3]
       refine (hM _ _).2 ⟨?_, ?_, ?_, ?_, ?_, ?_, ?_, ?_, ?_, ?_, by intro j hj; have hj_ := hK j hj; simp [go_sem, hj_.1, hj_.2, show ¬ j = ov2 by omega, show ¬ j = ov3 by omega], by first | omega | (simp [go_sem]; done) | (simp [go_sem]; omega), by simp (disch := omega) [get_alloc_ne, get_set_ne, get_kill_ne, go_sem, f11, f12, f13, f23, f24, f25, f3, f4, f5, f54, f8, f9, gb3, gb4, gb5, gb11, xpn2, xln2, xdn2, xon2, sust10, st10, xpq1, xlq1, xdq1, xoq1, sust12, st12, gov2, tov2, nv2_b3, nb3_v2, nv2_b4, nb4_v2, nv2_b5, nb5_v2, nv2_b11, nb11_v2, gov3, tov3, nv3_v2, nv2_v3, nv3_b3, nb3_v3, nv3_b4, nb4_v3, nv3_b5, nb5_v3, nv3_b11, nb11_v3], by first | omega | (simp [go_sem]; done) | (simp [go_sem]; omega), by simp (disch := omega) [get_alloc_ne, get_set_ne, get_kill_ne, go_sem, f11, f12, f13, f23, f24, f25, f3, f4, f5, f54, f8, f9, gb3, gb4, gb5, gb11, xpn2, xln2, xdn2, xon2, sust10, st10, xpq1, xlq1, xdq1, xoq1, sust12, st12, gov2, tov2, nv2_b3, nb3_v2, nv2_b4, nb4_v2, nv2_b5, nb5_v2, nv2_b11, nb11_v2, gov3, tov3, nv3_v2, nv2_v3, nv3_b3, nb3_v3, nv3_b4, nb4_v3, nv3_b5, nb5_v3, nv3_b11, nb11_v3], by first | omega | (simp [go_sem]; done) | (simp [go_sem]; omega), by simp (disch := omega) [get_alloc_ne, get_set_ne, get_kill_ne, go_sem, f11, f12, f13, f23, f24, f25, f3, f4, f5, f54, f8, f9, gb3, gb4, gb5, gb11, xpn2, xln2, xdn2, xon2, sust10, st10, xpq1, xlq1, xdq1, xoq1, sust12, st12, gov2, tov2, nv2_b3, nb3_v2, nv2_b4, nb4_v2, nv2_b5, nb5_v2, nv2_b11, nb11_v2, gov3, tov3, nv3_v2, nv2_v3, nv3_b3, nb3_v3, nv3_b4, nb4_v3, nv3_b5, nb5_v3, nv3_b11, nb11_v3], by first | omega | (simp [go_sem]; done) | (simp [go_sem]; omega), by simp (disch := omega) [get_alloc_ne, get_set_ne, get_kill_ne, go_sem, f11, f12, f13, f23, f24, f25, f3, f4, f5, f54, f8, f9, gb3, gb4, gb5, gb11, xpn2, xln2, xdn2, xon2, sust10, st10, xpq1, xlq1, xdq1, xoq1, sust12, st12, gov2, tov2, nv2_b3, nb3_v2, nv2_b4, nb4_v2, nv2_b5, nb5_v2, nv2_b11, nb11_v2, gov3, tov3, nv3_v2, nv2_v3, nv3_b3, nb3_v3, nv3_b4, nb4_v3, nv3_b5, nb5_v3, nv3_b11, nb11_v3], by first | omega | (simp [go_sem]; done) | (simp [go_sem]; omega), .inr ⟨ov2, by simp, by simp (disch := omega) [get_alloc_ne, get_set_ne, get_kill_ne, go_sem, f11, f12, f13, f23, f24, f25, f3, f4, f5, f54, f8, f9, gb3, gb4, gb5, gb11, xpn2, xln2, xdn2, xon2, sust10, st10, xpq1, xlq1, xdq1, xoq1, sust12, st12, gov2, tov2, nv2_b3, nb3_v2, nv2_b4, nb4_v2, nv2_b5, nb5_v2, nv2_b11, nb11_v2, gov3, tov3, nv3_v2, nv2_v3, nv3_b3, nb3_v3, nv3_b4, nb4_v3, nv3_b5, nb5_v3, nv3_b11, nb11_v3], by simp (disch := omega) [go_sem, f11, f12, f13, f23, f24, f25, f3, f4, f5, f54, f8, f9, gb3, gb4, gb5, gb11, xpn2, xln2, xdn2, xon2, sust10, st10, xpq1, xlq1, xdq1, xoq1, sust12, st12, gov2, tov2, nv2_b3, nb3_v2, nv2_b4, nb4_v2, nv2_b5, nb5_v2, nv2_b11, nb11_v2, gov3, tov3, nv3_v2, nv2_v3, nv3_b3, nb3_v3, nv3_b4, nb4_v3, nv3_b5, nb5_v3, nv3_b11, nb11_v3], lov2, by first | omega | (simp [go_sem]; done) | (simp [go_sem]; omega)⟩, by first | exact qv2 | (simp; done) | (simp [qv2]; done) | (simp [go_sem, f11, f12, f13, f23, f24, f25, f3, f4, f5, f54, f8, f9, gb3, gb4, gb5, gb11, xpn2, xln2, xdn2, xon2, sust10, st10, xpq1, xlq1, xdq1, xoq1, sust12, st12, gov2, tov2, nv2_b3, nb3_v2, nv2_b4, nb4_v2, nv2_b5, nb5_v2, nv2_b11, nb11_v2, gov3, tov3, nv3_v2, nv2_v3, nv3_b3, nb3_v3, nv3_b4, nb4_v3, nv3_b5, nb5_v3, nv3_b11, nb11_v3]; done), .inr ⟨ov3, by simp, by simp (disch := omega) [get_alloc_ne, get_set_ne, get_kill_ne, go_sem, f11, f12, f13, f23, f24, f25, f3, f4, f5, f54, f8, f9, gb3, gb4, gb5, gb11, xpn2, xln2, xdn2, xon2, sust10, st10, xpq1, xlq1, xdq1, xoq1, sust12, st12, gov2, tov2, nv2_b3, nb3_v2, nv2_b4, nb4_v2, nv2_b5, nb5_v2, nv2_b11, nb11_v2, gov3, tov3, nv3_v2, nv2_v3, nv3_b3, nb3_v3, nv3_b4, nb4_v3, nv3_b5, nb5_v3, nv3_b11, nb11_v3], by simp (disch := omega) [go_sem, f11, f12, f13, f23, f24, f25, f3, f4, f5, f54, f8, f9, gb3, gb4, gb5, gb11, xpn2, xln2, xdn2, xon2, sust10, st10, xpq1, xlq1, xdq1, xoq1, sust12, st12, gov2, tov2, nv2_b3, nb3_v2, nv2_b4, nb4_v2, nv2_b5, nb5_v2, nv2_b11, nb11_v2, gov3, tov3, nv3_v2, nv2_v3, nv3_b3, nb3_v3, nv3_b4, nb4_v3, nv3_b5, nb5_v3, nv3_b11, nb11_v3], lov3, by first | omega | (simp [go_sem]; done) | (simp [go_sem]; omega)⟩, by first | exact qv3 | (simp; done) | (simp [qv3]; done) | (simp [go_sem, f11, f12, f13, f23, f24, f25, f3, f4, f5, f54, f8, f9, gb3, gb4, gb5, gb11, xpn2, xln2, xdn2, xon2, sust10, st10, xpq1, xlq1, xdq1, xoq1, sust12, st12, gov2, tov2, nv2_b3, nb3_v2, nv2_b4, nb4_v2, nv2_b5, nb5_v2, nv2_b11, nb11_v2, gov3, tov3, nv3_v2, nv2_v3, nv3_b3, nb3_v3, nv3_b4, nb4_v3, nv3_b5, nb5_v3, nv3_b11, nb11_v3]; done)⟩ <;> simp [go_sem, f11, f12, f13, f23, f24, f25, f3, f4, f5, f54, f8, f9, gb3, gb4, gb5, gb11, xpn2, xln2, xdn2, xon2, sust10, st10, xpq1, xlq1, xdq1, xoq1, sust12, st12, gov2, tov2, nv2_b3, nb3_v2, nv2_b4, nb4_v2, nv2_b5, nb5_v2, nv2_b11, nb11_v2, gov3, tov3, nv3_v2, nv2_v3, nv3_b3, nb3_v3, nv3_b4, nb4_v3, nv3_b5, nb5_v3, nv3_b11, nb11_v3]
    clear f11 f12 f13 f23 f24 f25 f3 f4 f5 f54 f8 f9 hK hN gb3 ub3 gb4 ub4 gb5 ub5 gb11 ub11 av2 qv2 av3 qv3
    obtain ⟨f3, f4, f5, f8, f9, f11, f12, f23, f24, f25, hK, hN, gb3, ub3, gb4, ub4, gb5, ub5, gb11, ub11, av2, qv2, av3, qv3⟩ := hm
    exact SW.goal ((hJj _ _).2 ⟨(t8.set x.term.var.toNat ((IntKind.i64.wrap (n1 - x.term.add)))), (t9.set x.term.var.toNat true), v2, v3, (Option.some.inj hjj).symm, f3, f4, f5, f8, f9, f11, f12, f23, f24, f25, hK, hN, gb3, ub3, gb4, ub4, gb5, ub5, gb11, ub11, av2, qv2, av3, qv3, ev2b3, ev3b3, ev2b4, ev3b4, ev2b5, ev3b5, ev2b11, ev3b11, (by first | exact ev2v3 | exact fun i h h' => ev3v2 i h' h)⟩)
   have hjj := condF hjj vh1
   refine SW.skip ?_
   exact SW.goal ((hJj _ _).2 ⟨t8, t9, v2, v3, (Option.some.inj hjj).symm, f3, f4, f5, f8, f9, f11, f12, f23, f24, f25, hK, hN, gb3, ub3, gb4, ub4, gb5, ub5, gb11, ub11, av2, qv2, av3, qv3, ev2b3, ev3b3, ev2b4, ev3b4, ev2b5, ev3b5, ev2b11, ev3b11, (by first | exact ev2v3 | exact fun i h h' => ev3v2 i h' h)⟩)
  intro fr10 τ4 hm
  rw [hJj] at hm
  clear hJj
  clear f11 f12 f13 f23 f24 f25 f3 f4 f5 f54 f8 f9 hK hN gb3 ub3 gb4 ub4 gb5 ub5 gb11 ub11 av2 qv2 av3 qv3
  obtain ⟨t81, t91, v4, v5, rfl, f3, f4, f5, f8, f9, f11, f12, f23, f24, f25, hK, hN, gb3, ub3, gb4, ub4, gb5, ub5, gb11, ub11, av4, qv4, av5, qv5, ev4b3, ev5b3, ev4b4, ev5b4, ev4b5, ev5b5, ev4b11, ev5b11, ev4v5⟩ := hm
  simp only [Out.on] at hoj
  refine SW.seq ?_
  obtain ⟨n3, hn3, hoj⟩ := obind hoj
  refine SW.regX (fun f_ t_ => τ4 = t_ ∧ f_ 3 = AV.ptr b3 0 ∧ f_ 4 = AV.ptr b4 0 ∧ f_ 5 = AV.ptr b5 0 ∧ f_ 8 = v4 ∧ f_ 9 = v5 ∧ f_ 23 = sl_GSlot (t.slots) ∧ f_ 24 = AV.int (((t.slots.length : Nat) : Int)) ∧ f_ 25 = AV.int (((k : Nat) : Int)) ∧ f_ 71 = AV.bool ((!decide (n3 = n1)))) (fun M hM => ?_) (fun fr12 τz5 hm => ?_)
  ·have zv4 := av4
   rcases zv4 with ⟨rfl, nv4, mv4⟩ | ⟨ov4, rfl, gov4, tov4, lov4, hiv4⟩
   ·simp [go_sem, f11, f12, f23, f24, f25, f3, f4, f5, f8, f9, gb3, gb4, gb5, gb11, nv4, mv4]
    refine EWcall_frz (w_attribute_value x.term t81 _ hn3) rfl (frzL_c (frz_aggL (frzL_c (.lit _) (frzL_c (.lit _) (frzL_n)))) (frzL_c (ArrAt.frzle av4 (Nat.zero_le _) (DataL.map (fun _ => .lit _) t81)) (frzL_n))) ?_
    simp [go_sem, f11, f12, f23, f24, f25, f3, f4, f5, f8, f9, gb3, gb4, gb5, gb11, nv4, mv4]
    refine (hM _ _).2 ⟨rfl, ?_, ?_, ?_, ?_, ?_, ?_, ?_, ?_, ?_⟩ <;> simp [go_sem, f11, f12, f23, f24, f25, f3, f4, f5, f8, f9, gb3, gb4, gb5, gb11, nv4, mv4]
   ·simp [go_sem, f11, f12, f23, f24, f25, f3, f4, f5, f8, f9, gb3, gb4, gb5, gb11, gov4, tov4]
    refine EWcall_frz (w_attribute_value x.term t81 _ hn3) rfl (frzL_c (frz_aggL (frzL_c (.lit _) (frzL_c (.lit _) (frzL_n)))) (frzL_c (ArrAt.frzle av4 (Nat.zero_le _) (DataL.map (fun _ => .lit _) t81)) (frzL_n))) ?_
    simp [go_sem, f11, f12, f23, f24, f25, f3, f4, f5, f8, f9, gb3, gb4, gb5, gb11, gov4, tov4]
    refine (hM _ _).2 ⟨rfl, ?_, ?_, ?_, ?_, ?_, ?_, ?_, ?_, ?_⟩ <;> simp [go_sem, f11, f12, f23, f24, f25, f3, f4, f5, f8, f9, gb3, gb4, gb5, gb11, gov4, tov4]
  clear f11 f12 f23 f24 f25 f3 f4 f5 f8 f9
  obtain ⟨rfl, f3, f4, f5, f8, f9, f23, f24, f25, f71⟩ := hm
  refine SW.cond _ f71 (fun vh2 => ?_) (fun vh2 => ?_)
  ·have hoj := condT hoj vh2
   refine SW.seq ?_
   refine SW.regX (fun f_ t_ => τ4 = t_ ∧ f_ 6 = AV.nils ∧ f_ 7 = AV.int (11)) (fun M hM => ?_) (fun fr13 τz6 hm => ?_)
   ·simp [go_sem, f23, f24, f25, f3, f4, f5, f71, f8, f9, gb3, gb4, gb5]
    refine (hM _ _).2 ⟨rfl, ?_, ?_⟩ <;> simp [go_sem, f23, f24, f25, f3, f4, f5, f71, f8, f9, gb3, gb4, gb5]
   clear f23 f24 f25 f3 f4 f5 f71 f8 f9
   obtain ⟨rfl, f6, f7⟩ := hm
   obtain rfl := Option.some.inj hoj
   obtain rfl := Option.some.inj hci
   obtain rfl := Option.some.inj hoi
   exact SW.ret ⟨AV.tup [AV.nils, AV.int (11)], by simp [go_sem, f6, f7], ⟨AV.nils, rfl, .inl ⟨rfl, rfl, rfl⟩⟩, hK, hN⟩
  have hoj := condF hoj vh2
  refine SW.skip ?_
  refine SW.blk ?_
  refine SW.regX (fun f_ t_ => τ4 = t_ ∧ f_ 3 = AV.ptr b3 0 ∧ f_ 4 = AV.ptr b4 0 ∧ f_ 5 = AV.ptr b5 0 ∧ f_ 8 = v4 ∧ f_ 9 = v5 ∧ f_ 23 = sl_GSlot (t.slots) ∧ f_ 24 = AV.int (((t.slots.length : Nat) : Int)) ∧ f_ 25 = AV.int (((k + 1 : Nat) : Int))) (fun M hM => ?_) (fun fr14 τz7 hm => ?_)
  ·simp [go_sem, f23, f24, f25, f3, f4, f5, f71, f8, f9, gb3, gb4, gb5, hwk]
   refine (hM _ _).2 ⟨rfl, ?_, ?_, ?_, ?_, ?_, ?_, ?_, ?_⟩ <;> simp [go_sem, f23, f24, f25, f3, f4, f5, f71, f8, f9, gb3, gb4, gb5, hwk]
  clear f23 f24 f25 f3 f4 f5 f71 f8 f9
  obtain ⟨rfl, f3, f4, f5, f8, f9, f23, f24, f25⟩ := hm
  obtain rfl := Option.some.inj hoj
  exact SW.goal ⟨t.slots.length - (k + 1), by omega, (hJi _ _ _).2 ⟨k + 1, t81, t91, v4, v5, rfl, hci, f3, f4, f5, f8, f9, f23, f24, f25, hK, hN, gb3, ub3, gb4, ub4, gb5, ub5, av4, qv4, av5, qv5, ev4b3, ev5b3, ev4b4, ev5b4, ev4b5, ev5b5, (by first | exact ev4v5 | exact fun i h h' => ev5v4 i h' h)⟩⟩
 intro fr15 τ6 hm
 rw [hKLi] at hm
 clear hKLi hruni
 clear f23 f24 f25 f3 f4 f5 f8 f9 hK hN gb3 ub3 gb4 ub4 gb5 ub5 av av1
 obtain ⟨t8, t9, v2, rfl, f3, f8, hK, hN, gb3, ub3, av2, qv2, ev2b3⟩ := hm
 simp only [Out.on] at hoi
 refine SW.seq ?_
 refine SW.seq ?_
 refine SW.regX (fun f_ t_ => τ6 = t_ ∧ f_ 8 = v2 ∧ f_ 74 = sl_GTest (t.tests) ∧ f_ 75 = AV.int (((t.tests.length : Nat) : Int)) ∧ f_ 76 = AV.int (0)) (fun M hM => ?_) (fun fr16 τz8 hm => ?_)
 ·simp [go_sem, f3, f8, gb3]
  refine (hM _ _).2 ⟨rfl, ?_, ?_, ?_, ?_⟩ <;> simp [go_sem, f3, f8, gb3]
 clear f3 f8
 obtain ⟨rfl, f8, f74, f75, f76⟩ := hm
 obtain ⟨oi1, hruni1, hoi1⟩ := obind hoi
 refine SW.len 74 f74 (fun hbigi1 => ?_)
 obtain ⟨KLi1, hKLi1⟩ : ∃ KL : Fr → Mem → Prop, ∀ fr' τ', KL fr' τ' ↔ (oi1 = .done () ∧ fr' 8 = v2 ∧ Kept σ0 τ' ∧ σ0.next ≤ τ'.next ∧ ArrAt σ0.next τ' v2 3 (t8.map AV.int) t8.length 1 ∧ t8.length = a.length) := ⟨_, fun _ _ => Iff.rfl⟩
 refine SW.cut KLi1 ?_ ?_
 ·refine SW.block ?_
  obtain ⟨Ji1, hJi1⟩ : ∃ J : Nat → Fr → Mem → Prop, ∀ m_ fr' τ', J m_ fr' τ' ↔ (∃ k1 : Nat, m_ = t.tests.length - k1 ∧ forN (b3_attribute_solve t t8) (t.tests.length - k1) k1 () = some oi1 ∧ fr' 8 = v2 ∧ fr' 74 = sl_GTest (t.tests) ∧ fr' 75 = AV.int (((t.tests.length : Nat) : Int)) ∧ fr' 76 = AV.int (((k1 : Nat) : Int)) ∧ Kept σ0 τ' ∧ σ0.next ≤ τ'.next ∧ ArrAt σ0.next τ' v2 3 (t8.map AV.int) t8.length 1 ∧ t8.length = a.length) := ⟨_, fun _ _ _ => Iff.rfl⟩
  refine SW.loop Ji1 (t.tests.length - 0) ((hJi1 _ _ _).2 ⟨0, rfl, hruni1, f8, f74, f75, f76, hK, hN, av2, qv2⟩) ?_
  clear hruni1
  intro m_ fr17 τ7 hm
  rw [hJi1] at hm
  clear f74 f75 f76 f8 hK hN av2 qv2
  obtain ⟨k1, rfl, hruni1, f8, f74, f75, f76, hK, hN, av2, qv2⟩ := hm
  refine SW.seq ?_
  refine SW.regX (fun f_ t_ => τ7 = t_ ∧ f_ 8 = v2 ∧ f_ 74 = sl_GTest (t.tests) ∧ f_ 75 = AV.int (((t.tests.length : Nat) : Int)) ∧ f_ 76 = AV.int (((k1 : Nat) : Int)) ∧ f_ 77 = AV.bool ((decide (k1 < t.tests.length)))) (fun M hM => ?_) (fun fr18 τz9 hm => ?_)
  ·simp [go_sem, f74, f75, f76, f8]
   refine (hM _ _).2 ⟨rfl, ?_, ?_, ?_, ?_, ?_⟩ <;> simp [go_sem, f74, f75, f76, f8]
  clear f74 f75 f76 f8
  obtain ⟨rfl, f8, f74, f75, f76, f77⟩ := hm
  refine SW.seq ?_
  refine SW.cond _ f77 (fun vh3 => ?_) (fun vh3 => ?_)
  rotate_left
  ·have hk : ¬ k1 < t.tests.length := by have := of_decide_eq_false vh3; omega
   refine SW.exit rfl ?_
   exact SW.goal ((hKLi1 _ _).2 ⟨forN_end hruni1 hk, f8, hK, hN, av2, qv2⟩)
  have hkk1 : k1 < t.tests.length := by have := of_decide_eq_true vh3; omega
  have hwk1 : IntKind.i64.wrap ((k1 : Int) + 1) = ((k1 + 1 : Nat) : Int) := by rw [wrap64_of _ (by omega) (by omega)]; rfl
  obtain ⟨ci1, hbi1, hci1⟩ := forN_step hruni1 hkk1
  simp only [b3_attribute_solve] at hbi1
  refine SW.skip ?_
  refine SW.seq ?_
  refine SW.block ?_
  refine SW.seq ?_
  obtain ⟨x2, hx2, hbi1⟩ := obind hbi1
  have xlx2 := getN_lt hx2
  have xdx2 := getN_flat GTestC 5 (fun _ => rfl) hx2
  refine SW.regX (fun f_ t_ => ∃ b15 : Nat, f_ 8 = v2 ∧ f_ 15 = AV.ptr b15 0 ∧ f_ 74 = sl_GTest (t.tests) ∧ f_ 75 = AV.int (((t.tests.length : Nat) : Int)) ∧ f_ 76 = AV.int (((k1 : Nat) : Int)) ∧ Kept σ0 t_ ∧ σ0.next ≤ t_.next ∧ t_.get b15 = some [AV.int (x2.kind), AV.int (x2.left.var), AV.int (x2.left.add), AV.int (x2.right.var), AV.int (x2.right.add)] ∧ b15 < t_.next ∧ ArrAt σ0.next t_ v2 3 (t8.map AV.int) t8.length 1 ∧ t8.length = a.length ∧ σ0.next ≤ b15 ∧ (∀ i, idOf v2 = some i → ¬ i = b15)) (fun M hM => ?_) (fun fr19 τ8 hm => ?_)
  ·simp [go_sem, f74, f75, f76, f77, f8, xlx2, xdx2, GTestC]
   refine (hM _ _).2 ⟨τ7.next, ?_, ?_, ?_, ?_, ?_, by intro j hj; have hj_ := hK j hj; simp [go_sem, hj_.1, hj_.2, show ¬ j = τ7.next by omega], by first | omega | (simp [go_sem]; done) | (simp [go_sem]; omega), by simp (disch := omega) [get_alloc_ne, get_set_ne, get_kill_ne, go_sem, f74, f75, f76, f77, f8, xlx2, xdx2, GTestC], by first | omega | (simp [go_sem]; done) | (simp [go_sem]; omega), av2.same' (by simp [go_sem]; try omega) (fun i hi => by have zl := arrAt_lt av2 i hi; have zi0 : ¬ i = τ7.next := (by omega); constructor <;> simp [go_sem, zi0]), by first | exact qv2 | (simp; done) | (simp [qv2]; done) | (simp [go_sem, f74, f75, f76, f77, f8, xlx2, xdx2, GTestC]; done), by omega, by first | exact ev2b15 | (intro i hi; have := arrAt_lt av2 i hi; omega)⟩ <;> simp [go_sem, f74, f75, f76, f77, f8, xlx2, xdx2, GTestC]
  clear f74 f75 f76 f77 f8 hK hN av2 qv2
  obtain ⟨b15, f8, f15, f74, f75, f76, hK, hN, gb15, ub15, av2, qv2, wb15, ev2b15⟩ := hm
  refine SW.seq ?_
  obtain ⟨q2, hq2, hbi1⟩ := obind hbi1
  refine SW.regX (fun f_ t_ => τ8 = t_ ∧ f_ 8 = v2 ∧ f_ 74 = sl_GTest (t.tests) ∧ f_ 75 = AV.int (((t.tests.length : Nat) : Int)) ∧ f_ 76 = AV.int (((k1 : Nat) : Int)) ∧ f_ 83 = AV.bool ((!q2))) (fun M hM => ?_) (fun fr20 τz10 hm => ?_)
  ·have zv2 := av2
   rcases zv2 with ⟨rfl, nv2, mv2⟩ | ⟨ov2, rfl, gov2, tov2, lov2, hiv2⟩
   ·simp [go_sem, f15, f74, f75, f76, f8, gb15, nv2, mv2]
    refine EWcall_frz (w_difference_Holds x2 t8 _ hq2) rfl (frzL_c (frz_aggL (frzL_c (.lit _) (frzL_c (.lit _) (frzL_c (.lit _) (frzL_c (.lit _) (frzL_c (.lit _) (frzL_n))))))) (frzL_c (ArrAt.frzle av2 (Nat.zero_le _) (DataL.map (fun _ => .lit _) t8)) (frzL_n))) ?_
    simp [go_sem, f15, f74, f75, f76, f8, gb15, nv2, mv2]
    refine (hM _ _).2 ⟨rfl, ?_, ?_, ?_, ?_, ?_⟩ <;> simp [go_sem, f15, f74, f75, f76, f8, gb15, nv2, mv2]
   ·simp [go_sem, f15, f74, f75, f76, f8, gb15, gov2, tov2]
    refine EWcall_frz (w_difference_Holds x2 t8 _ hq2) rfl (frzL_c (frz_aggL (frzL_c (.lit _) (frzL_c (.lit _) (frzL_c (.lit _) (frzL_c (.lit _) (frzL_c (.lit _) (frzL_n))))))) (frzL_c (ArrAt.frzle av2 (Nat.zero_le _) (DataL.map (fun _ => .lit _) t8)) (frzL_n))) ?_
    simp [go_sem, f15, f74, f75, f76, f8, gb15, gov2, tov2]
    refine (hM _ _).2 ⟨rfl, ?_, ?_, ?_, ?_, ?_⟩ <;> simp [go_sem, f15, f74, f75, f76, f8, gb15, gov2, tov2]
  clear f15 f74 f75 f76 f8
  obtain ⟨rfl, f8, f74, f75, f76, f83⟩ := hm
  refine SW.cond _ f83 (fun vh4 => ?_) (fun vh4 => ?_)
  ·have hbi1 := condT hbi1 vh4
   refine SW.seq ?_
   refine SW.regX (fun f_ t_ => τ8 = t_ ∧ f_ 6 = AV.nils ∧ f_ 7 = AV.int (16)) (fun M hM => ?_) (fun fr21 τz11 hm => ?_)
   ·simp [go_sem, f74, f75, f76, f8, f83]
    refine (hM _ _).2 ⟨rfl, ?_, ?_⟩ <;> simp [go_sem, f74, f75, f76, f8, f83]
   clear f74 f75 f76 f8 f83
   obtain ⟨rfl, f6, f7⟩ := hm
   obtain rfl := Option.some.inj hbi1
   obtain rfl := Option.some.inj hci1
   obtain rfl := Option.some.inj hoi1
   exact SW.ret ⟨AV.tup [AV.nils, AV.int (16)], by simp [go_sem, f6, f7], ⟨AV.nils, rfl, .inl ⟨rfl, rfl, rfl⟩⟩, hK, hN⟩
  have hbi1 := condF hbi1 vh4
  refine SW.skip ?_
  refine SW.blk ?_
  refine SW.regX (fun f_ t_ => τ8 = t_ ∧ f_ 8 = v2 ∧ f_ 74 = sl_GTest (t.tests) ∧ f_ 75 = AV.int (((t.tests.length : Nat) : Int)) ∧ f_ 76 = AV.int (((k1 + 1 : Nat) : Int))) (fun M hM => ?_) (fun fr22 τz12 hm => ?_)
  ·simp [go_sem, f74, f75, f76, f8, f83, hwk1]
   refine (hM _ _).2 ⟨rfl, ?_, ?_, ?_, ?_⟩ <;> simp [go_sem, f74, f75, f76, f8, f83, hwk1]
  clear f74 f75 f76 f8 f83
  obtain ⟨rfl, f8, f74, f75, f76⟩ := hm
  obtain rfl := Option.some.inj hbi1
  exact SW.goal ⟨t.tests.length - (k1 + 1), by omega, (hJi1 _ _ _).2 ⟨k1 + 1, rfl, hci1, f8, f74, f75, f76, hK, hN, av2, qv2⟩⟩
 intro fr23 τ9 hm
 rw [hKLi1] at hm
 clear hKLi1 hruni1
 clear f74 f75 f76 f8 hK hN av2 qv2
 obtain ⟨rfl, f8, hK, hN, av2, qv2⟩ := hm
 simp only [Out.on] at hoi1
 refine SW.seq ?_
 refine SW.regX (fun f_ t_ => τ9 = t_ ∧ f_ 6 = v2 ∧ f_ 7 = AV.int (0)) (fun M hM => ?_) (fun fr24 τz13 hm => ?_)
 ·simp [go_sem, f8]
  refine (hM _ _).2 ⟨rfl, ?_, ?_⟩ <;> simp [go_sem, f8]
 clear f8
 obtain ⟨rfl, f6, f7⟩ := hm
 obtain rfl := Option.some.inj hoi1
 exact SW.ret ⟨AV.tup [v2, AV.int (0)], by simp [go_sem, f6, f7], ⟨v2, rfl, av2⟩, hK, hN⟩
theorem w_attribute_solve (t : GPattern) (o : GHost) (A : Morph) (r : ((List Int) × Int)) (h : s_attribute_solve t o A = some r) : PureA Tryz.prog 74 [AV.agg [intsA (t.graph.nodes), e3sA (t.graph.edges), sl_GSlot (t.slots), AV.int (t.vars), sl_GTest (t.tests)], AV.agg [intsA (o.graph.nodes), e3sA (o.graph.edges), sl_List_Int (o.values)], AV.agg [intsA (A.nodes), intsA (A.edges)]] (AV.tup [intsA (r.1), AV.int (r.2)]) := pureA_of_own' (O := O_attribute_solve r) (fun σ0 => o_attribute_solve t o A r h σ0) (by rintro n x τ ⟨v0_, hx, av0_⟩; rw [hx]; exact frz_tupL (frzL_c (av0_.frz (DataL.map (fun _ => .lit _) r.1)) (frzL_c (.lit _) (frzL_n))))
def O_attribute_Matches (r : ((List GMatch) × Int)) (n : Nat) (x : AV) (τ : Mem) : Prop := ∃ v0_ : AV, x = AV.tup [v0_, AV.int (r.2)] ∧ ArrAt n τ v0_ 76 (r.1.flatMap GMatchC) r.1.length 3
set_option maxHeartbeats 4000000 in
theorem o_attribute_Matches (t : Types) (p : GPattern) (vh : GHost) (injective : Bool) (r : ((List GMatch) × Int)) (h : s_attribute_Matches t p vh injective = some r) (σ0 : Mem) : CallA Tryz.prog 29 [AV.agg [nodesA (t.nodes), edgesA (t.edges)], AV.agg [intsA (p.graph.nodes), e3sA (p.graph.edges), sl_GSlot (p.slots), AV.int (p.vars), sl_GTest (p.tests)], AV.agg [intsA (vh.graph.nodes), e3sA (vh.graph.edges), sl_List_Int (vh.values)], AV.bool (injective)] σ0 (fun x τ => O_attribute_Matches r σ0.next x τ ∧ Kept σ0 τ ∧ σ0.next ≤ τ.next) := by
 refine callA_of_SW (N := 61) Tryz.func29 (by kernel_rfl) rfl (by rw [Tryz.ntmps29]; rfl) ?_
 rw [Tryz.results29]
 obtain ⟨fr0, hfr⟩ : ∃ fr, fr = initFr [AV.agg [nodesA (t.nodes), edgesA (t.edges)], AV.agg [intsA (p.graph.nodes), e3sA (p.graph.edges), sl_GSlot (p.slots), AV.int (p.vars), sl_GTest (p.tests)], AV.agg [intsA (vh.graph.nodes), e3sA (vh.graph.edges), sl_List_Int (vh.values)], AV.bool (injective)] := ⟨_, rfl⟩
 rw [← hfr]
 have f0 : fr0 0 = AV.agg [nodesA (t.nodes), edgesA (t.edges)] := by rw [hfr]; rfl
 have f1 : fr0 1 = AV.agg [intsA (p.graph.nodes), e3sA (p.graph.edges), sl_GSlot (p.slots), AV.int (p.vars), sl_GTest (p.tests)] := by rw [hfr]; rfl
 have f2 : fr0 2 = AV.agg [intsA (vh.graph.nodes), e3sA (vh.graph.edges), sl_List_Int (vh.values)] := by rw [hfr]; rfl
 have f3 : fr0 3 = AV.bool (injective) := by rw [hfr]; rfl
 clear hfr
 simp only [s_attribute_Matches] at h
 refine SW.seq ?_
 refine SW.regX (fun f_ t_ => ∃ b4 : Nat, ∃ b5 : Nat, ∃ b6 : Nat, f_ 3 = AV.bool (injective) ∧ f_ 4 = AV.ptr b4 0 ∧ f_ 5 = AV.ptr b5 0 ∧ f_ 6 = AV.ptr b6 0 ∧ Kept σ0 t_ ∧ σ0.next ≤ t_.next ∧ t_.get b4 = some [nodesA (t.nodes), edgesA (t.edges)] ∧ b4 < t_.next ∧ t_.get b5 = some [intsA (p.graph.nodes), e3sA (p.graph.edges), sl_GSlot (p.slots), AV.int (p.vars), sl_GTest (p.tests)] ∧ b5 < t_.next ∧ t_.get b6 = some [intsA (vh.graph.nodes), e3sA (vh.graph.edges), sl_List_Int (vh.values)] ∧ b6 < t_.next ∧ σ0.next ≤ b4 ∧ σ0.next ≤ b5 ∧ ¬ b4 = b5 ∧ σ0.next ≤ b6 ∧ ¬ b4 = b6 ∧ ¬ b5 = b6) (fun M hM => ?_) (fun fr1 τ hm => ?_)
 ·simp [go_sem, f0, f1, f2, f3]
  refine (hM _ _).2 ⟨σ0.next, (σ0.next + 1), (σ0.next + 2), ?_, ?_, ?_, ?_, by intro j hj; simp [go_sem, show ¬ j = σ0.next by omega, show ¬ j = σ0.next + 1 by omega, show ¬ j = σ0.next + 2 by omega], by first | omega | (simp [go_sem]; done) | (simp [go_sem]; omega), by simp (disch := omega) [get_alloc_ne, get_set_ne, get_kill_ne, go_sem, f0, f1, f2, f3], by first | omega | (simp [go_sem]; done) | (simp [go_sem]; omega), by simp (disch := omega) [get_alloc_ne, get_set_ne, get_kill_ne, go_sem, f0, f1, f2, f3], by first | omega | (simp [go_sem]; done) | (simp [go_sem]; omega), by simp (disch := omega) [get_alloc_ne, get_set_ne, get_kill_ne, go_sem, f0, f1, f2, f3], by first | omega | (simp [go_sem]; done) | (simp [go_sem]; omega), by omega, by omega, by omega, by omega, by omega, by omega⟩ <;> simp [go_sem, f0, f1, f2, f3]
 clear f0 f1 f2 f3
 obtain ⟨b4, b5, b6, f3, f4, f5, f6, hK, hN, gb4, ub4, gb5, ub5, gb6, ub6, wb4, wb5, eb4b5, wb6, eb4b6, eb5b6⟩ := hm
 refine SW.seq ?_
 refine SW.seq ?_
 obtain ⟨n, hn, h⟩ := obind h
 refine SW.regX (fun f_ t_ => τ = t_ ∧ f_ 3 = AV.bool (injective) ∧ f_ 4 = AV.ptr b4 0 ∧ f_ 5 = AV.ptr b5 0 ∧ f_ 6 = AV.ptr b6 0 ∧ f_ 10 = AV.int (n)) (fun M hM => ?_) (fun fr2 τz hm => ?_)
 ·simp [go_sem, f3, f4, f5, f6, gb4, gb5, gb6]
  refine EWcall_pure (w_attribute_given t p vh _ hn) ?_
  simp [go_sem, f3, f4, f5, f6, gb4, gb5, gb6]
  refine (hM _ _).2 ⟨rfl, ?_, ?_, ?_, ?_, ?_⟩ <;> simp [go_sem, f3, f4, f5, f6, gb4, gb5, gb6]
 clear f3 f4 f5 f6
 obtain ⟨rfl, f3, f4, f5, f6, f10⟩ := hm
 refine SW.seq ?_
 refine SW.regX (fun f_ t_ => τ = t_ ∧ f_ 3 = AV.bool (injective) ∧ f_ 4 = AV.ptr b4 0 ∧ f_ 5 = AV.ptr b5 0 ∧ f_ 6 = AV.ptr b6 0 ∧ f_ 10 = AV.int (n) ∧ f_ 23 = AV.bool ((!decide (n = 0)))) (fun M hM => ?_) (fun fr3 τz1 hm => ?_)
 ·simp [go_sem, f10, f3, f4, f5, f6, gb4, gb5, gb6]
  refine (hM _ _).2 ⟨rfl, ?_, ?_, ?_, ?_, ?_, ?_⟩ <;> simp [go_sem, f10, f3, f4, f5, f6, gb4, gb5, gb6]
 clear f10 f3 f4 f5 f6
 obtain ⟨rfl, f3, f4, f5, f6, f10, f23⟩ := hm
 refine SW.cond _ f23 (fun vh1 => ?_) (fun vh1 => ?_)
 ·have h := condT h vh1
  refine SW.seq ?_
  refine SW.regX (fun f_ t_ => τ = t_ ∧ f_ 8 = AV.nils ∧ f_ 9 = AV.int (n)) (fun M hM => ?_) (fun fr4 τz2 hm => ?_)
  ·simp [go_sem, f10, f23, f3, f4, f5, f6, gb4, gb5, gb6]
   refine (hM _ _).2 ⟨rfl, ?_, ?_⟩ <;> simp [go_sem, f10, f23, f3, f4, f5, f6, gb4, gb5, gb6]
  clear f10 f23 f3 f4 f5 f6
  obtain ⟨rfl, f8, f9⟩ := hm
  obtain rfl := Option.some.inj h
  exact SW.ret ⟨AV.tup [AV.nils, AV.int (n)], by simp [go_sem, f8, f9], ⟨AV.nils, rfl, .inl ⟨rfl, rfl, rfl⟩⟩, hK, hN⟩
 have h := condF h vh1
 refine SW.skip ?_
 refine SW.seq ?_
 obtain ⟨rx, hrx, h⟩ := obind h
 refine SW.regX (fun f_ t_ => τ = t_ ∧ f_ 5 = AV.ptr b5 0 ∧ f_ 6 = AV.ptr b6 0 ∧ f_ 11 = morphsA (rx.1) ∧ f_ 12 = AV.int (rx.2)) (fun M hM => ?_) (fun fr5 τz3 hm => ?_)
 ·simp [go_sem, f10, f23, f3, f4, f5, f6, gb4, gb5, gb6]
  refine EWcall_pure (w_search_All t p.graph vh.graph injective _ hrx) ?_
  simp [go_sem, f10, f23, f3, f4, f5, f6, gb4, gb5, gb6]
  refine (hM _ _).2 ⟨rfl, ?_, ?_, ?_, ?_⟩ <;> simp [go_sem, f10, f23, f3, f4, f5, f6, gb4, gb5, gb6]
 clear f10 f23 f3 f4 f5 f6
 obtain ⟨rfl, f5, f6, f11, f12⟩ := hm
 refine SW.seq ?_
 refine SW.seq ?_
 refine SW.regX (fun f_ t_ => τ = t_ ∧ f_ 5 = AV.ptr b5 0 ∧ f_ 6 = AV.ptr b6 0 ∧ f_ 11 = morphsA (rx.1) ∧ f_ 12 = AV.int (rx.2) ∧ f_ 36 = AV.bool ((!decide (rx.2 = 0)))) (fun M hM => ?_) (fun fr6 τz4 hm => ?_)
 ·simp [go_sem, f11, f12, f5, f6, gb5, gb6]
  refine (hM _ _).2 ⟨rfl, ?_, ?_, ?_, ?_, ?_⟩ <;> simp [go_sem, f11, f12, f5, f6, gb5, gb6]
 clear f11 f12 f5 f6
 obtain ⟨rfl, f5, f6, f11, f12, f36⟩ := hm
 refine SW.cond _ f36 (fun vh2 => ?_) (fun vh2 => ?_)
 ·have h := condT h vh2
  refine SW.seq ?_
  refine SW.regX (fun f_ t_ => τ = t_ ∧ f_ 8 = AV.nils ∧ f_ 9 = AV.int (rx.2)) (fun M hM => ?_) (fun fr7 τz5 hm => ?_)
  ·simp [go_sem, f11, f12, f36, f5, f6, gb5, gb6]
   refine (hM _ _).2 ⟨rfl, ?_, ?_⟩ <;> simp [go_sem, f11, f12, f36, f5, f6, gb5, gb6]
  clear f11 f12 f36 f5 f6
  obtain ⟨rfl, f8, f9⟩ := hm
  obtain rfl := Option.some.inj h
  exact SW.ret ⟨AV.tup [AV.nils, AV.int (rx.2)], by simp [go_sem, f8, f9], ⟨AV.nils, rfl, .inl ⟨rfl, rfl, rfl⟩⟩, hK, hN⟩
 have h := condF h vh2
 refine SW.skip ?_
 refine SW.seq ?_
 refine SW.regX (fun f_ t_ => τ = t_ ∧ f_ 5 = AV.ptr b5 0 ∧ f_ 6 = AV.ptr b6 0 ∧ f_ 11 = morphsA (rx.1) ∧ f_ 13 = AV.nils) (fun M hM => ?_) (fun fr8 τz6 hm => ?_)
 ·simp [go_sem, f11, f12, f36, f5, f6, gb5, gb6]
  refine (hM _ _).2 ⟨rfl, ?_, ?_, ?_, ?_⟩ <;> simp [go_sem, f11, f12, f36, f5, f6, gb5, gb6]
 clear f11 f12 f36 f5 f6
 obtain ⟨rfl, f5, f6, f11, f13⟩ := hm
 refine SW.seq ?_
 refine SW.seq ?_
 refine SW.regX (fun f_ t_ => τ = t_ ∧ f_ 5 = AV.ptr b5 0 ∧ f_ 6 = AV.ptr b6 0 ∧ f_ 13 = AV.nils ∧ f_ 38 = morphsA (rx.1) ∧ f_ 39 = AV.int (((rx.1.length : Nat) : Int)) ∧ f_ 40 = AV.int (0)) (fun M hM => ?_) (fun fr9 τz7 hm => ?_)
 ·simp [go_sem, f11, f13, f5, f6, gb5, gb6]
  refine (hM _ _).2 ⟨rfl, ?_, ?_, ?_, ?_, ?_, ?_⟩ <;> simp [go_sem, f11, f13, f5, f6, gb5, gb6]
 clear f11 f13 f5 f6
 obtain ⟨rfl, f5, f6, f13, f38, f39, f40⟩ := hm
 obtain ⟨oi, hruni, hoi⟩ := obind h
 refine SW.len 38 f38 (fun hbigi => ?_)
 obtain ⟨KLi, hKLi⟩ : ∃ KL : Fr → Mem → Prop, ∀ fr' τ', KL fr' τ' ↔ (∃ out : List GMatch, ∃ v : AV, oi = .done out ∧ fr' 13 = v ∧ Kept σ0 τ' ∧ σ0.next ≤ τ'.next ∧ ArrAt σ0.next τ' v 76 (out.flatMap GMatchC) out.length 3) := ⟨_, fun _ _ => Iff.rfl⟩
 refine SW.cut KLi ?_ ?_
 ·refine SW.block ?_
  obtain ⟨Ji, hJi⟩ : ∃ J : Nat → Fr → Mem → Prop, ∀ m_ fr' τ', J m_ fr' τ' ↔ (∃ k : Nat, ∃ out : List GMatch, ∃ v : AV, m_ = rx.1.length - k ∧ forN (b1_attribute_Matches p vh rx) (rx.1.length - k) k out = some oi ∧ fr' 5 = AV.ptr b5 0 ∧ fr' 6 = AV.ptr b6 0 ∧ fr' 13 = v ∧ fr' 38 = morphsA (rx.1) ∧ fr' 39 = AV.int (((rx.1.length : Nat) : Int)) ∧ fr' 40 = AV.int (((k : Nat) : Int)) ∧ Kept σ0 τ' ∧ σ0.next ≤ τ'.next ∧ τ'.get b5 = some [intsA (p.graph.nodes), e3sA (p.graph.edges), sl_GSlot (p.slots), AV.int (p.vars), sl_GTest (p.tests)] ∧ b5 < τ'.next ∧ τ'.get b6 = some [intsA (vh.graph.nodes), e3sA (vh.graph.edges), sl_List_Int (vh.values)] ∧ b6 < τ'.next ∧ ArrAt σ0.next τ' v 76 (out.flatMap GMatchC) out.length 3 ∧ (∀ i, idOf v = some i → ¬ i = b5) ∧ (∀ i, idOf v = some i → ¬ i = b6)) := ⟨_, fun _ _ _ => Iff.rfl⟩
  refine SW.loop Ji (rx.1.length - 0) ((hJi _ _ _).2 ⟨0, ([] : List GMatch), AV.nils, rfl, hruni, f5, f6, f13, f38, f39, f40, hK, hN, gb5, ub5, gb6, ub6, .inl ⟨rfl, rfl, rfl⟩, (fun i h => by cases h), (fun i h => by cases h)⟩) ?_
  clear hruni
  intro m_ fr10 τ1 hm
  rw [hJi] at hm
  clear f13 f38 f39 f40 f5 f6 hK hN gb5 ub5 gb6 ub6
  obtain ⟨k, out, v, rfl, hruni, f5, f6, f13, f38, f39, f40, hK, hN, gb5, ub5, gb6, ub6, av, evb5, evb6⟩ := hm
  refine SW.seq ?_
  refine SW.regX (fun f_ t_ => τ1 = t_ ∧ f_ 5 = AV.ptr b5 0 ∧ f_ 6 = AV.ptr b6 0 ∧ f_ 13 = v ∧ f_ 38 = morphsA (rx.1) ∧ f_ 39 = AV.int (((rx.1.length : Nat) : Int)) ∧ f_ 40 = AV.int (((k : Nat) : Int)) ∧ f_ 41 = AV.bool ((decide (k < rx.1.length)))) (fun M hM => ?_) (fun fr11 τz8 hm => ?_)
  ·simp [go_sem, f13, f38, f39, f40, f5, f6, gb5, gb6]
   refine (hM _ _).2 ⟨rfl, ?_, ?_, ?_, ?_, ?_, ?_, ?_⟩ <;> simp [go_sem, f13, f38, f39, f40, f5, f6, gb5, gb6]
  clear f13 f38 f39 f40 f5 f6
  obtain ⟨rfl, f5, f6, f13, f38, f39, f40, f41⟩ := hm
  refine SW.seq ?_
  refine SW.cond _ f41 (fun vh3 => ?_) (fun vh3 => ?_)
  rotate_left
  ·have hk : ¬ k < rx.1.length := by have := of_decide_eq_false vh3; omega
   refine SW.exit rfl ?_
   exact SW.goal ((hKLi _ _).2 ⟨out, v, forN_end hruni hk, f13, hK, hN, av⟩)
  have hkk : k < rx.1.length := by have := of_decide_eq_true vh3; omega
  have hwk : IntKind.i64.wrap ((k : Int) + 1) = ((k + 1 : Nat) : Int) := by rw [wrap64_of _ (by omega) (by omega)]; rfl
  obtain ⟨ci, hbi, hci⟩ := forN_step hruni hkk
  simp only [b1_attribute_Matches] at hbi
  refine SW.skip ?_
  refine SW.seq ?_
  refine SW.block ?_
  refine SW.seq ?_
  obtain ⟨x, hx, hbi⟩ := obind hbi
  have xlx := getN_lt hx
  have xdx := getN_flat morphC 2 (fun _ => rfl) hx
  refine SW.regX (fun f_ t_ => ∃ b15 : Nat, f_ 5 = AV.ptr b5 0 ∧ f_ 6 = AV.ptr b6 0 ∧ f_ 13 = v ∧ f_ 15 = AV.ptr b15 0 ∧ f_ 38 = morphsA (rx.1) ∧ f_ 39 = AV.int (((rx.1.length : Nat) : Int)) ∧ f_ 40 = AV.int (((k : Nat) : Int)) ∧ Kept σ0 t_ ∧ σ0.next ≤ t_.next ∧ t_.get b5 = some [intsA (p.graph.nodes), e3sA (p.graph.edges), sl_GSlot (p.slots), AV.int (p.vars), sl_GTest (p.tests)] ∧ b5 < t_.next ∧ t_.get b6 = some [intsA (vh.graph.nodes), e3sA (vh.graph.edges), sl_List_Int (vh.values)] ∧ b6 < t_.next ∧ t_.get b15 = some [intsA (x.nodes), intsA (x.edges)] ∧ b15 < t_.next ∧ ArrAt σ0.next t_ v 76 (out.flatMap GMatchC) out.length 3 ∧ σ0.next ≤ b15 ∧ ¬ b5 = b15 ∧ ¬ b6 = b15 ∧ (∀ i, idOf v = some i → ¬ i = b15)) (fun M hM => ?_) (fun fr12 τ2 hm => ?_)
  ·have nb5_0 : ¬ b5 = τ1.next := by omega
   have nb6_0 : ¬ b6 = τ1.next := by omega
   simp [go_sem, f13, f38, f39, f40, f41, f5, f6, gb5, gb6, xlx, xdx, morphC, nb5_0, nb6_0]
   refine (hM _ _).2 ⟨τ1.next, ?_, ?_, ?_, ?_, ?_, ?_, ?_, by intro j hj; have hj_ := hK j hj; simp [go_sem, hj_.1, hj_.2, show ¬ j = τ1.next by omega], by first | omega | (simp [go_sem]; done) | (simp [go_sem]; omega), by simp (disch := omega) [get_alloc_ne, get_set_ne, get_kill_ne, go_sem, f13, f38, f39, f40, f41, f5, f6, gb5, gb6, xlx, xdx, morphC, nb5_0, nb6_0], by first | omega | (simp [go_sem]; done) | (simp [go_sem]; omega), by simp (disch := omega) [get_alloc_ne, get_set_ne, get_kill_ne, go_sem, f13, f38, f39, f40, f41, f5, f6, gb5, gb6, xlx, xdx, morphC, nb5_0, nb6_0], by first | omega | (simp [go_sem]; done) | (simp [go_sem]; omega), by simp (disch := omega) [get_alloc_ne, get_set_ne, get_kill_ne, go_sem, f13, f38, f39, f40, f41, f5, f6, gb5, gb6, xlx, xdx, morphC, nb5_0, nb6_0], by first | omega | (simp [go_sem]; done) | (simp [go_sem]; omega), av.same' (by simp [go_sem]; try omega) (fun i hi => by have zl := arrAt_lt av i hi; have zi0 : ¬ i = τ1.next := (by omega); constructor <;> simp [go_sem, zi0]), by omega, by omega, by omega, by first | exact evb15 | (intro i hi; have := arrAt_lt av i hi; omega)⟩ <;> simp [go_sem, f13, f38, f39, f40, f41, f5, f6, gb5, gb6, xlx, xdx, morphC, nb5_0, nb6_0]
  clear f13 f38 f39 f40 f41 f5 f6 hK hN gb5 ub5 gb6 ub6 av
  obtain ⟨b15, f5, f6, f13, f15, f38, f39, f40, hK, hN, gb5, ub5, gb6, ub6, gb15, ub15, av, wb15, eb5b15, eb6b15, evb15⟩ := hm
  refine SW.seq ?_
  obtain ⟨rx1, hrx1, hbi⟩ := obind hbi
  refine SW.regX (fun f_ t_ => τ2 = t_ ∧ f_ 5 = AV.ptr b5 0 ∧ f_ 6 = AV.ptr b6 0 ∧ f_ 13 = v ∧ f_ 15 = AV.ptr b15 0 ∧ f_ 16 = intsA (rx1.1) ∧ f_ 17 = AV.int (rx1.2) ∧ f_ 38 = morphsA (rx.1) ∧ f_ 39 = AV.int (((rx.1.length : Nat) : Int)) ∧ f_ 40 = AV.int (((k : Nat) : Int))) (fun M hM => ?_) (fun fr13 τz9 hm => ?_)
  ·simp [go_sem, f13, f15, f38, f39, f40, f5, f6, gb5, gb6, gb15]
   refine EWcall_pure (w_attribute_solve p vh x _ hrx1) ?_
   simp [go_sem, f13, f15, f38, f39, f40, f5, f6, gb5, gb6, gb15]
   refine (hM _ _).2 ⟨rfl, ?_, ?_, ?_, ?_, ?_, ?_, ?_, ?_, ?_⟩ <;> simp [go_sem, f13, f15, f38, f39, f40, f5, f6, gb5, gb6, gb15]
  clear f13 f15 f38 f39 f40 f5 f6
  obtain ⟨rfl, f5, f6, f13, f15, f16, f17, f38, f39, f40⟩ := hm
  refine SW.seq ?_
  refine SW.regX (fun f_ t_ => τ2 = t_ ∧ f_ 5 = AV.ptr b5 0 ∧ f_ 6 = AV.ptr b6 0 ∧ f_ 13 = v ∧ f_ 15 = AV.ptr b15 0 ∧ f_ 16 = intsA (rx1.1) ∧ f_ 38 = morphsA (rx.1) ∧ f_ 39 = AV.int (((rx.1.length : Nat) : Int)) ∧ f_ 40 = AV.int (((k : Nat) : Int)) ∧ f_ 52 = AV.bool ((decide (rx1.2 = 0)))) (fun M hM => ?_) (fun fr14 τz10 hm => ?_)
  ·simp [go_sem, f13, f15, f16, f17, f38, f39, f40, f5, f6, gb5, gb6, gb15]
   refine (hM _ _).2 ⟨rfl, ?_, ?_, ?_, ?_, ?_, ?_, ?_, ?_, ?_⟩ <;> simp [go_sem, f13, f15, f16, f17, f38, f39, f40, f5, f6, gb5, gb6, gb15]
  clear f13 f15 f16 f17 f38 f39 f40 f5 f6
  obtain ⟨rfl, f5, f6, f13, f15, f16, f38, f39, f40, f52⟩ := hm
  refine SW.cond _ f52 (fun vh4 => ?_) (fun vh4 => ?_)
  ·have hbi := condT hbi vh4
   obtain ⟨a, ha, hbi⟩ := obind hbi
   obtain ⟨la, ea⟩ := catL_spec ha
   refine SW.regX (fun f_ t_ => ∃ v1 : AV, f_ 5 = AV.ptr b5 0 ∧ f_ 6 = AV.ptr b6 0 ∧ f_ 13 = v1 ∧ f_ 38 = morphsA (rx.1) ∧ f_ 39 = AV.int (((rx.1.length : Nat) : Int)) ∧ f_ 40 = AV.int (((k : Nat) : Int)) ∧ Kept σ0 t_ ∧ σ0.next ≤ t_.next ∧ t_.get b5 = some [intsA (p.graph.nodes), e3sA (p.graph.edges), sl_GSlot (p.slots), AV.int (p.vars), sl_GTest (p.tests)] ∧ b5 < t_.next ∧ t_.get b6 = some [intsA (vh.graph.nodes), e3sA (vh.graph.edges), sl_List_Int (vh.values)] ∧ b6 < t_.next ∧ ArrAt σ0.next t_ v1 76 (a.flatMap GMatchC) a.length 3 ∧ (∀ i, idOf v1 = some i → ¬ i = b5) ∧ (∀ i, idOf v1 = some i → ¬ i = b6)) (fun M hM => ?_) (fun fr15 τ3 hm => ?_)
   ·have nb5_0 : ¬ b5 = τ2.next := by omega
    have nb5_1 : ¬ b5 = τ2.next + 1 := by omega
    have nb6_0 : ¬ b6 = τ2.next := by omega
    have nb6_1 : ¬ b6 = τ2.next + 1 := by omega
    have nb15_0 : ¬ b15 = τ2.next := by omega
    have nb15_1 : ¬ b15 = τ2.next + 1 := by omega
    have zv := av
    rcases zv with ⟨rfl, nv, mv⟩ | ⟨ov, rfl, gov, tov, lov, hiv⟩
    ·simp [go_sem, f13, f15, f16, f38, f39, f40, f5, f52, f6, gb5, gb6, gb15, nb5_0, nb5_1, nb6_0, nb6_1, nb15_0, nb15_1, nv, mv]
     refine (hM _ _).2 ⟨AV.arr (τ2.next + 1) 0 a.length 3, ?_, ?_, ?_, ?_, ?_, ?_, by intro j hj; have hj_ := hK j hj; simp [go_sem, hj_.1, hj_.2, show ¬ j = τ2.next by omega, show ¬ j = τ2.next + 1 by omega], by first | omega | (simp [go_sem]; done) | (simp [go_sem]; omega), by simp (disch := omega) [get_alloc_ne, get_set_ne, get_kill_ne, go_sem, f13, f15, f16, f38, f39, f40, f5, f52, f6, gb5, gb6, gb15, nb5_0, nb5_1, nb6_0, nb6_1, nb15_0, nb15_1, nv, mv, ea], by first | omega | (simp [go_sem]; done) | (simp [go_sem]; omega), by simp (disch := omega) [get_alloc_ne, get_set_ne, get_kill_ne, go_sem, f13, f15, f16, f38, f39, f40, f5, f52, f6, gb5, gb6, gb15, nb5_0, nb5_1, nb6_0, nb6_1, nb15_0, nb15_1, nv, mv, ea], by first | omega | (simp [go_sem]; done) | (simp [go_sem]; omega), .inr ⟨(τ2.next + 1), rfl, by simp (disch := omega) [get_alloc_ne, get_set_ne, get_kill_ne, go_sem, f13, f15, f16, f38, f39, f40, f5, f52, f6, gb5, gb6, gb15, nb5_0, nb5_1, nb6_0, nb6_1, nb15_0, nb15_1, nv, mv, ea, GMatchC], by simp [go_sem, f13, f15, f16, f38, f39, f40, f5, f52, f6, gb5, gb6, gb15, nb5_0, nb5_1, nb6_0, nb6_1, nb15_0, nb15_1, nv, mv, ea], by omega, by first | (simp [go_sem]; done) | (simp [go_sem]; omega)⟩, by intro i hi; first | (simp [idOf] at hi; done) | (simp [idOf] at hi; omega), by intro i hi; first | (simp [idOf] at hi; done) | (simp [idOf] at hi; omega)⟩ <;> simp [go_sem, f13, f15, f16, f38, f39, f40, f5, f52, f6, gb5, gb6, gb15, nb5_0, nb5_1, nb6_0, nb6_1, nb15_0, nb15_1, nv, mv, ea]
    ·have Lv : (out.flatMap GMatchC).length = out.length * 3 := length_flatMap (f := GMatchC) (sz := 3) (fun _ => rfl) _
     have nv_0 : ¬ ov = τ2.next := by omega
     have nv_1 : ¬ ov = τ2.next + 1 := by omega
     have nv_b5 : ¬ ov = b5 := evb5 _ rfl
     have nb5_v : ¬ b5 = ov := fun e => evb5 _ rfl e.symm
     have nv_b6 : ¬ ov = b6 := evb6 _ rfl
     have nb6_v : ¬ b6 = ov := fun e => evb6 _ rfl e.symm
     have nv_b15 : ¬ ov = b15 := evb15 _ rfl
     have nb15_v : ¬ b15 = ov := fun e => evb15 _ rfl e.symm
     have ca_0 : out.length ≤ 9223372036854775806 := by have c_ := la; (try simp at c_); omega
     have ca_1 : (out.length + 1) * 72 ≤ 140737488355328 := by have c_ := la; (try simp at c_); omega
     simp [go_sem, f13, f15, f16, f38, f39, f40, f5, f52, f6, gb5, gb6, gb15, nb5_0, nb5_1, nb6_0, nb6_1, nb15_0, nb15_1, gov, tov, Lv, nv_0, nv_1, nv_b5, nb5_v, nv_b6, nb6_v, nv_b15, nb15_v, ca_0, ca_1]
     refine (hM _ _).2 ⟨AV.arr (τ2.next + 1) 0 a.length 3, ?_, ?_, ?_, ?_, ?_, ?_, by intro j hj; have hj_ := hK j hj; simp [go_sem, hj_.1, hj_.2, show ¬ j = τ2.next by omega, show ¬ j = τ2.next + 1 by omega, show ¬ j = ov by omega], by first | omega | (simp [go_sem]; done) | (simp [go_sem]; omega), by simp (disch := omega) [get_alloc_ne, get_set_ne, get_kill_ne, go_sem, f13, f15, f16, f38, f39, f40, f5, f52, f6, gb5, gb6, gb15, nb5_0, nb5_1, nb6_0, nb6_1, nb15_0, nb15_1, gov, tov, Lv, nv_0, nv_1, nv_b5, nb5_v, nv_b6, nb6_v, nv_b15, nb15_v, ca_0, ca_1, ea], by first | omega | (simp [go_sem]; done) | (simp [go_sem]; omega), by simp (disch := omega) [get_alloc_ne, get_set_ne, get_kill_ne, go_sem, f13, f15, f16, f38, f39, f40, f5, f52, f6, gb5, gb6, gb15, nb5_0, nb5_1, nb6_0, nb6_1, nb15_0, nb15_1, gov, tov, Lv, nv_0, nv_1, nv_b5, nb5_v, nv_b6, nb6_v, nv_b15, nb15_v, ca_0, ca_1, ea], by first | omega | (simp [go_sem]; done) | (simp [go_sem]; omega), .inr ⟨(τ2.next + 1), rfl, by simp (disch := omega) [get_alloc_ne, get_set_ne, get_kill_ne, go_sem, f13, f15, f16, f38, f39, f40, f5, f52, f6, gb5, gb6, gb15, nb5_0, nb5_1, nb6_0, nb6_1, nb15_0, nb15_1, gov, tov, Lv, nv_0, nv_1, nv_b5, nb5_v, nv_b6, nb6_v, nv_b15, nb15_v, ca_0, ca_1, ea, GMatchC], by simp [go_sem, f13, f15, f16, f38, f39, f40, f5, f52, f6, gb5, gb6, gb15, nb5_0, nb5_1, nb6_0, nb6_1, nb15_0, nb15_1, gov, tov, Lv, nv_0, nv_1, nv_b5, nb5_v, nv_b6, nb6_v, nv_b15, nb15_v, ca_0, ca_1, ea], by omega, by first | (simp [go_sem]; done) | (simp [go_sem]; omega)⟩, by intro i hi; first | (simp [idOf] at hi; done) | (simp [idOf] at hi; omega), by intro i hi; first | (simp [idOf] at hi; done) | (simp [idOf] at hi; omega)⟩ <;> simp [go_sem, f13, f15, f16, f38, f39, f40, f5, f52, f6, gb5, gb6, gb15, nb5_0, nb5_1, nb6_0, nb6_1, nb15_0, nb15_1, gov, tov, Lv, nv_0, nv_1, nv_b5, nb5_v, nv_b6, nb6_v, nv_b15, nb15_v, ca_0, ca_1, ea]
   clear f13 f15 f16 f38 f39 f40 f5 f52 f6 hK hN gb5 ub5 gb6 ub6 gb15 ub15 av
   obtain ⟨v1, f5, f6, f13, f38, f39, f40, hK, hN, gb5, ub5, gb6, ub6, av1, ev1b5, ev1b6⟩ := hm
   refine SW.blk ?_
   refine SW.regX (fun f_ t_ => τ3 = t_ ∧ f_ 5 = AV.ptr b5 0 ∧ f_ 6 = AV.ptr b6 0 ∧ f_ 13 = v1 ∧ f_ 38 = morphsA (rx.1) ∧ f_ 39 = AV.int (((rx.1.length : Nat) : Int)) ∧ f_ 40 = AV.int (((k + 1 : Nat) : Int))) (fun M hM => ?_) (fun fr16 τz11 hm => ?_)
   ·simp [go_sem, f13, f38, f39, f40, f5, f6, gb5, gb6, hwk]
    refine (hM _ _).2 ⟨rfl, ?_, ?_, ?_, ?_, ?_, ?_⟩ <;> simp [go_sem, f13, f38, f39, f40, f5, f6, gb5, gb6, hwk]
   clear f13 f38 f39 f40 f5 f6
   obtain ⟨rfl, f5, f6, f13, f38, f39, f40⟩ := hm
   obtain rfl := Option.some.inj hbi
   exact SW.goal ⟨rx.1.length - (k + 1), by omega, (hJi _ _ _).2 ⟨k + 1, a, v1, rfl, hci, f5, f6, f13, f38, f39, f40, hK, hN, gb5, ub5, gb6, ub6, av1, ev1b5, ev1b6⟩⟩
  have hbi := condF hbi vh4
  refine SW.skip ?_
  refine SW.blk ?_
  refine SW.regX (fun f_ t_ => τ2 = t_ ∧ f_ 5 = AV.ptr b5 0 ∧ f_ 6 = AV.ptr b6 0 ∧ f_ 13 = v ∧ f_ 38 = morphsA (rx.1) ∧ f_ 39 = AV.int (((rx.1.length : Nat) : Int)) ∧ f_ 40 = AV.int (((k + 1 : Nat) : Int))) (fun M hM => ?_) (fun fr17 τz12 hm => ?_)
  ·simp [go_sem, f13, f15, f16, f38, f39, f40, f5, f52, f6, gb5, gb6, gb15, hwk]
   refine (hM _ _).2 ⟨rfl, ?_, ?_, ?_, ?_, ?_, ?_⟩ <;> simp [go_sem, f13, f15, f16, f38, f39, f40, f5, f52, f6, gb5, gb6, gb15, hwk]
  clear f13 f15 f16 f38 f39 f40 f5 f52 f6
  obtain ⟨rfl, f5, f6, f13, f38, f39, f40⟩ := hm
  obtain rfl := Option.some.inj hbi
  exact SW.goal ⟨rx.1.length - (k + 1), by omega, (hJi _ _ _).2 ⟨k + 1, out, v, rfl, hci, f5, f6, f13, f38, f39, f40, hK, hN, gb5, ub5, gb6, ub6, av, evb5, evb6⟩⟩
 intro fr18 τ4 hm
 rw [hKLi] at hm
 clear hKLi hruni
 clear f13 f38 f39 f40 f5 f6 hK hN gb5 ub5 gb6 ub6
 obtain ⟨out, v, rfl, f13, hK, hN, av⟩ := hm
 simp only [Out.on] at hoi
 refine SW.seq ?_
 refine SW.regX (fun f_ t_ => τ4 = t_ ∧ f_ 8 = v ∧ f_ 9 = AV.int (0)) (fun M hM => ?_) (fun fr19 τz13 hm => ?_)
 ·simp [go_sem, f13]
  refine (hM _ _).2 ⟨rfl, ?_, ?_⟩ <;> simp [go_sem, f13]
 clear f13
 obtain ⟨rfl, f8, f9⟩ := hm
 obtain rfl := Option.some.inj hoi
 exact SW.ret ⟨AV.tup [v, AV.int (0)], by simp [go_sem, f8, f9], ⟨v, rfl, av⟩, hK, hN⟩
theorem w_attribute_Matches (t : Types) (p : GPattern) (vh : GHost) (injective : Bool) (r : ((List GMatch) × Int)) (h : s_attribute_Matches t p vh injective = some r) : PureA Tryz.prog 29 [AV.agg [nodesA (t.nodes), edgesA (t.edges)], AV.agg [intsA (p.graph.nodes), e3sA (p.graph.edges), sl_GSlot (p.slots), AV.int (p.vars), sl_GTest (p.tests)], AV.agg [intsA (vh.graph.nodes), e3sA (vh.graph.edges), sl_List_Int (vh.values)], AV.bool (injective)] (AV.tup [sl_GMatch (r.1), AV.int (r.2)]) := pureA_of_own' (O := O_attribute_Matches r) (fun σ0 => o_attribute_Matches t p vh injective r h σ0) (by rintro n x τ ⟨v0_, hx, av0_⟩; rw [hx]; exact frz_tupL (frzL_c (av0_.frz (DataL.flatMap gd_GMatchC r.1)) (frzL_c (.lit _) (frzL_n))))
end Go.Proofs.YtippinddoldhkaaGreat
