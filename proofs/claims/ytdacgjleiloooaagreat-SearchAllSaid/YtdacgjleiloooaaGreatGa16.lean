/-
  Plain functions and the walks that lead to them, by a program of ours (gen.py): scarfjoint/scarfjointref17.open.
-/
import Derived.Test.YtdacgjleiloooaaGreatGd
import Derived.Test.YtdacgjleiloooaaGreatGT
import Derived.Test.YtdacgjleiloooaaGreatB3
import Derived.Test.YtdacgjleiloooaaGreatGS
set_option linter.unusedSimpArgs false
set_option linter.unusedVariables false
namespace Go.Proofs.YtdacgjleiloooaaGreat
open Go Go.Ew Go.Proofs Go.RowKit
set_option maxRecDepth 100000
def O_ref17_open (r : (Morph)) (n : Nat) (x : AV) (τ : Mem) : Prop := ∃ v0_ v1_ : AV, x = AV.agg [v0_, v1_] ∧ ArrAt n τ v0_ 3 (r.nodes.map AV.int) r.nodes.length 1 ∧ ArrAt n τ v1_ 3 (r.edges.map AV.int) r.edges.length 1 ∧ Apart v0_ v1_
set_option maxHeartbeats 4000000 in
theorem o_ref17_open (p : Graph) (r : (Morph)) (h : s_ref17_open p = some r) (σ0 : Mem) : CallA Tryz.prog 44 [AV.agg [intsA (p.nodes), e3sA (p.edges)]] σ0 (fun x τ => O_ref17_open r σ0.next x τ ∧ Kept σ0 τ ∧ σ0.next ≤ τ.next) := by
 refine callA_of_SW (N := 38) Tryz.func44 (by kernel_rfl) rfl (by rw [Tryz.ntmps44]; rfl) ?_
 rw [Tryz.results44]
 obtain ⟨fr0, hfr⟩ : ∃ fr, fr = initFr [AV.agg [intsA (p.nodes), e3sA (p.edges)]] := ⟨_, rfl⟩
 rw [← hfr]
 have f0 : fr0 0 = AV.agg [intsA (p.nodes), e3sA (p.edges)] := by rw [hfr]; rfl
 clear hfr
 simp only [s_ref17_open] at h
 refine SW.seq ?_
 refine SW.regX (fun f_ t_ => ∃ b1 : Nat, ∃ b2 : Nat, f_ 1 = AV.ptr b1 0 ∧ f_ 2 = AV.ptr b2 0 ∧ Kept σ0 t_ ∧ σ0.next ≤ t_.next ∧ t_.get b1 = some [intsA (p.nodes), e3sA (p.edges)] ∧ b1 < t_.next ∧ t_.get b2 = some [AV.nils, AV.nils] ∧ b2 < t_.next ∧ σ0.next ≤ b1 ∧ σ0.next ≤ b2 ∧ ¬ b1 = b2) (fun M hM => ?_) (fun fr1 τ hm => ?_)
 ·simp [go_sem, f0]
  refine (hM _ _).2 ⟨σ0.next, (σ0.next + 1), ?_, ?_, by intro j hj; simp [go_sem, show ¬ j = σ0.next by omega, show ¬ j = σ0.next + 1 by omega], by first | omega | (simp [go_sem]; done) | (simp [go_sem]; omega), by simp (disch := omega) [get_alloc_ne, get_set_ne, get_kill_ne, go_sem, f0], by first | omega | (simp [go_sem]; done) | (simp [go_sem]; omega), by simp (disch := omega) [get_alloc_ne, get_set_ne, get_kill_ne, go_sem, f0], by first | omega | (simp [go_sem]; done) | (simp [go_sem]; omega), by omega, by omega, by omega⟩ <;> simp [go_sem, f0]
 clear f0
 obtain ⟨b1, b2, f1, f2, hK, hN, gb1, ub1, gb2, ub2, wb1, wb2, eb1b2⟩ := hm
 refine SW.seq ?_
 obtain ⟨a, ha, h⟩ := obind h
 obtain ⟨pa, la, ea⟩ := mkL_spec ha
 have ca_0 : (((p.nodes.length : Nat) : Int)) ≤ 9223372036854775807 := by omega
 have ca_1 : 8 * (((p.nodes.length : Nat) : Int)) ≤ 281474976710656 := by omega
 have za := zerosA_map AV.int 0 (((p.nodes.length : Nat) : Int)).toNat
 try simp at za
 obtain ⟨a1, ha1, h⟩ := obind h
 obtain ⟨pa1, la1, ea1⟩ := mkL_spec ha1
 have ca1_0 : (((p.edges.length : Nat) : Int)) ≤ 9223372036854775807 := by omega
 have ca1_1 : 8 * (((p.edges.length : Nat) : Int)) ≤ 281474976710656 := by omega
 have za1 := zerosA_map AV.int 0 (((p.edges.length : Nat) : Int)).toNat
 try simp at za1
 refine SW.regX (fun f_ t_ => ∃ b3 : Nat, ∃ v : AV, ∃ v1 : AV, f_ 2 = AV.ptr b2 0 ∧ f_ 3 = AV.ptr b3 0 ∧ Kept σ0 t_ ∧ σ0.next ≤ t_.next ∧ t_.get b2 = some [AV.nils, AV.nils] ∧ b2 < t_.next ∧ t_.get b3 = some [v, v1] ∧ b3 < t_.next ∧ ArrAt σ0.next t_ v 3 (a.map AV.int) a.length 1 ∧ ArrAt σ0.next t_ v1 3 (a1.map AV.int) a1.length 1 ∧ (∀ i, idOf v = some i → ¬ i = b2) ∧ (∀ i, idOf v1 = some i → ¬ i = b2) ∧ σ0.next ≤ b3 ∧ ¬ b2 = b3 ∧ (∀ i, idOf v = some i → ¬ i = b3) ∧ (∀ i, idOf v1 = some i → ¬ i = b3) ∧ Apart v v1) (fun M hM => ?_) (fun fr2 τ1 hm => ?_)
 ·have nb1_0 : ¬ b1 = τ.next := by omega
  have nb1_1 : ¬ b1 = τ.next + 1 := by omega
  have nb1_2 : ¬ b1 = τ.next + 2 := by omega
  have nb2_0 : ¬ b2 = τ.next := by omega
  have nb2_1 : ¬ b2 = τ.next + 1 := by omega
  have nb2_2 : ¬ b2 = τ.next + 2 := by omega
  have nb1_b2 : ¬ b1 = b2 := by omega
  have nb2_b1 : ¬ b2 = b1 := by omega
  refine EW_regionY τ 11 (.q false 0 (.q false 1 (.q false 2 (.q false 4 (.q false 5 (.q false 6 (.both (.s 3 (.both (.s 7 (.q false 8 (.s 9 (.s 10 .done)))) (.s 9 (.s 7 (.q false 8 (.s 10 .done)))))) (.both (.s 7 (.both (.s 3 (.q false 8 (.s 9 (.s 10 .done)))) (.s 9 (.s 3 (.q false 8 (.s 10 .done)))))) (.s 9 (.both (.s 3 (.s 7 (.q false 8 (.s 10 .done)))) (.s 7 (.s 3 (.q false 8 (.s 10 .done)))))))))))))) (by kernel_rfl) (by kernel_rfl) (fun _ _ h => h) (fun hfin => ?_)
  have m0_ : τ.get (τ.next) = none := hfin _ (by omega)
  have m1_ : τ.get (τ.next + 1) = none := hfin _ (by omega)
  have m2_ : τ.get (τ.next + 2) = none := hfin _ (by omega)
  have hsub : Sub τ τ := (fun _ _ h => h)
  simp (maxDischargeDepth := 12) [go_sem, f1, f2, gb1, gb2, pa, ca_0, ca_1, za, pa1, ca1_0, ca1_1, za1, nb1_0, nb1_1, nb1_2, nb2_0, nb2_1, nb2_2, nb1_b2, nb2_b1, m0_, m1_, m2_, sub_set, sub_killAll, hsub]
  refine ⟨?_, ?_⟩
  ·refine ⟨?_, ?_⟩
   ·refine (hM _ _).2 ⟨(τ.next + 2), AV.arr τ.next 0 a.length 1, AV.arr (τ.next + 1) 0 a1.length 1, ?_, ?_, by intro j hj; have hj_ := hK j hj; simp [go_sem, hj_.1, hj_.2, show ¬ j = τ.next by omega, show ¬ j = τ.next + 1 by omega, show ¬ j = τ.next + 2 by omega], by first | omega | (simp [go_sem]; done) | (simp [go_sem]; omega), by simp (disch := omega) [get_alloc_ne, get_set_ne, get_kill_ne, go_sem, f1, f2, gb1, gb2, pa, ca_0, ca_1, za, pa1, ca1_0, ca1_1, za1, nb1_0, nb1_1, nb1_2, nb2_0, nb2_1, nb2_2, nb1_b2, nb2_b1, m0_, m1_, m2_, sub_set, sub_killAll, hsub, ea, ea1], by first | omega | (simp [go_sem]; done) | (simp [go_sem]; omega), by simp (disch := omega) [get_alloc_ne, get_set_ne, get_kill_ne, go_sem, f1, f2, gb1, gb2, pa, ca_0, ca_1, za, pa1, ca1_0, ca1_1, za1, nb1_0, nb1_1, nb1_2, nb2_0, nb2_1, nb2_2, nb1_b2, nb2_b1, m0_, m1_, m2_, sub_set, sub_killAll, hsub, ea, ea1], by first | omega | (simp [go_sem]; done) | (simp [go_sem]; omega), .inr ⟨τ.next, rfl, by simp (disch := omega) [get_alloc_ne, get_set_ne, get_kill_ne, go_sem, f1, f2, gb1, gb2, pa, ca_0, ca_1, za, pa1, ca1_0, ca1_1, za1, nb1_0, nb1_1, nb1_2, nb2_0, nb2_1, nb2_2, nb1_b2, nb2_b1, m0_, m1_, m2_, sub_set, sub_killAll, hsub, ea, ea1], by simp [go_sem, f1, f2, gb1, gb2, pa, ca_0, ca_1, za, pa1, ca1_0, ca1_1, za1, nb1_0, nb1_1, nb1_2, nb2_0, nb2_1, nb2_2, nb1_b2, nb2_b1, m0_, m1_, m2_, sub_set, sub_killAll, hsub, ea, ea1], by omega, by first | (simp [go_sem]; done) | (simp [go_sem]; omega)⟩, .inr ⟨(τ.next + 1), rfl, by simp (disch := omega) [get_alloc_ne, get_set_ne, get_kill_ne, go_sem, f1, f2, gb1, gb2, pa, ca_0, ca_1, za, pa1, ca1_0, ca1_1, za1, nb1_0, nb1_1, nb1_2, nb2_0, nb2_1, nb2_2, nb1_b2, nb2_b1, m0_, m1_, m2_, sub_set, sub_killAll, hsub, ea, ea1], by simp [go_sem, f1, f2, gb1, gb2, pa, ca_0, ca_1, za, pa1, ca1_0, ca1_1, za1, nb1_0, nb1_1, nb1_2, nb2_0, nb2_1, nb2_2, nb1_b2, nb2_b1, m0_, m1_, m2_, sub_set, sub_killAll, hsub, ea, ea1], by omega, by first | (simp [go_sem]; done) | (simp [go_sem]; omega)⟩, by intro i hi; first | (simp [idOf] at hi; done) | (simp [idOf] at hi; omega), by intro i hi; first | (simp [idOf] at hi; done) | (simp [idOf] at hi; omega), by omega, by omega, by intro i hi; first | (simp [idOf] at hi; done) | (simp [idOf] at hi; omega), by intro i hi; first | (simp [idOf] at hi; done) | (simp [idOf] at hi; omega), by first | exact evv1 | exact apart_symm ev1v | (intro i h1 h2; simp [idOf] at h1; done) | (intro i h1 h2; simp [idOf] at h2; done) | (intro i h1 h2; simp [idOf] at h1; simp [idOf] at h2; omega)⟩ <;> simp [go_sem, f1, f2, gb1, gb2, pa, ca_0, ca_1, za, pa1, ca1_0, ca1_1, za1, nb1_0, nb1_1, nb1_2, nb2_0, nb2_1, nb2_2, nb1_b2, nb2_b1, m0_, m1_, m2_, sub_set, sub_killAll, hsub, ea, ea1]
   ·refine (hM _ _).2 ⟨(τ.next + 1), AV.arr τ.next 0 a.length 1, AV.arr (τ.next + 2) 0 a1.length 1, ?_, ?_, by intro j hj; have hj_ := hK j hj; simp [go_sem, hj_.1, hj_.2, show ¬ j = τ.next by omega, show ¬ j = τ.next + 1 by omega, show ¬ j = τ.next + 2 by omega], by first | omega | (simp [go_sem]; done) | (simp [go_sem]; omega), by simp (disch := omega) [get_alloc_ne, get_set_ne, get_kill_ne, go_sem, f1, f2, gb1, gb2, pa, ca_0, ca_1, za, pa1, ca1_0, ca1_1, za1, nb1_0, nb1_1, nb1_2, nb2_0, nb2_1, nb2_2, nb1_b2, nb2_b1, m0_, m1_, m2_, sub_set, sub_killAll, hsub, ea, ea1], by first | omega | (simp [go_sem]; done) | (simp [go_sem]; omega), by simp (disch := omega) [get_alloc_ne, get_set_ne, get_kill_ne, go_sem, f1, f2, gb1, gb2, pa, ca_0, ca_1, za, pa1, ca1_0, ca1_1, za1, nb1_0, nb1_1, nb1_2, nb2_0, nb2_1, nb2_2, nb1_b2, nb2_b1, m0_, m1_, m2_, sub_set, sub_killAll, hsub, ea, ea1], by first | omega | (simp [go_sem]; done) | (simp [go_sem]; omega), .inr ⟨τ.next, rfl, by simp (disch := omega) [get_alloc_ne, get_set_ne, get_kill_ne, go_sem, f1, f2, gb1, gb2, pa, ca_0, ca_1, za, pa1, ca1_0, ca1_1, za1, nb1_0, nb1_1, nb1_2, nb2_0, nb2_1, nb2_2, nb1_b2, nb2_b1, m0_, m1_, m2_, sub_set, sub_killAll, hsub, ea, ea1], by simp [go_sem, f1, f2, gb1, gb2, pa, ca_0, ca_1, za, pa1, ca1_0, ca1_1, za1, nb1_0, nb1_1, nb1_2, nb2_0, nb2_1, nb2_2, nb1_b2, nb2_b1, m0_, m1_, m2_, sub_set, sub_killAll, hsub, ea, ea1], by omega, by first | (simp [go_sem]; done) | (simp [go_sem]; omega)⟩, .inr ⟨(τ.next + 2), rfl, by simp (disch := omega) [get_alloc_ne, get_set_ne, get_kill_ne, go_sem, f1, f2, gb1, gb2, pa, ca_0, ca_1, za, pa1, ca1_0, ca1_1, za1, nb1_0, nb1_1, nb1_2, nb2_0, nb2_1, nb2_2, nb1_b2, nb2_b1, m0_, m1_, m2_, sub_set, sub_killAll, hsub, ea, ea1], by simp [go_sem, f1, f2, gb1, gb2, pa, ca_0, ca_1, za, pa1, ca1_0, ca1_1, za1, nb1_0, nb1_1, nb1_2, nb2_0, nb2_1, nb2_2, nb1_b2, nb2_b1, m0_, m1_, m2_, sub_set, sub_killAll, hsub, ea, ea1], by omega, by first | (simp [go_sem]; done) | (simp [go_sem]; omega)⟩, by intro i hi; first | (simp [idOf] at hi; done) | (simp [idOf] at hi; omega), by intro i hi; first | (simp [idOf] at hi; done) | (simp [idOf] at hi; omega), by omega, by omega, by intro i hi; first | (simp [idOf] at hi; done) | (simp [idOf] at hi; omega), by intro i hi; first | (simp [idOf] at hi; done) | (simp [idOf] at hi; omega), by first | exact evv1 | exact apart_symm ev1v | (intro i h1 h2; simp [idOf] at h1; done) | (intro i h1 h2; simp [idOf] at h2; done) | (intro i h1 h2; simp [idOf] at h1; simp [idOf] at h2; omega)⟩ <;> simp [go_sem, f1, f2, gb1, gb2, pa, ca_0, ca_1, za, pa1, ca1_0, ca1_1, za1, nb1_0, nb1_1, nb1_2, nb2_0, nb2_1, nb2_2, nb1_b2, nb2_b1, m0_, m1_, m2_, sub_set, sub_killAll, hsub, ea, ea1]
  ·refine ⟨?_, ?_⟩
   ·refine ⟨?_, ?_⟩
    ·refine (hM _ _).2 ⟨(τ.next + 2), AV.arr (τ.next + 1) 0 a.length 1, AV.arr τ.next 0 a1.length 1, ?_, ?_, by intro j hj; have hj_ := hK j hj; simp [go_sem, hj_.1, hj_.2, show ¬ j = τ.next by omega, show ¬ j = τ.next + 1 by omega, show ¬ j = τ.next + 2 by omega], by first | omega | (simp [go_sem]; done) | (simp [go_sem]; omega), by simp (disch := omega) [get_alloc_ne, get_set_ne, get_kill_ne, go_sem, f1, f2, gb1, gb2, pa, ca_0, ca_1, za, pa1, ca1_0, ca1_1, za1, nb1_0, nb1_1, nb1_2, nb2_0, nb2_1, nb2_2, nb1_b2, nb2_b1, m0_, m1_, m2_, sub_set, sub_killAll, hsub, ea, ea1], by first | omega | (simp [go_sem]; done) | (simp [go_sem]; omega), by simp (disch := omega) [get_alloc_ne, get_set_ne, get_kill_ne, go_sem, f1, f2, gb1, gb2, pa, ca_0, ca_1, za, pa1, ca1_0, ca1_1, za1, nb1_0, nb1_1, nb1_2, nb2_0, nb2_1, nb2_2, nb1_b2, nb2_b1, m0_, m1_, m2_, sub_set, sub_killAll, hsub, ea, ea1], by first | omega | (simp [go_sem]; done) | (simp [go_sem]; omega), .inr ⟨(τ.next + 1), rfl, by simp (disch := omega) [get_alloc_ne, get_set_ne, get_kill_ne, go_sem, f1, f2, gb1, gb2, pa, ca_0, ca_1, za, pa1, ca1_0, ca1_1, za1, nb1_0, nb1_1, nb1_2, nb2_0, nb2_1, nb2_2, nb1_b2, nb2_b1, m0_, m1_, m2_, sub_set, sub_killAll, hsub, ea, ea1], by simp [go_sem, f1, f2, gb1, gb2, pa, ca_0, ca_1, za, pa1, ca1_0, ca1_1, za1, nb1_0, nb1_1, nb1_2, nb2_0, nb2_1, nb2_2, nb1_b2, nb2_b1, m0_, m1_, m2_, sub_set, sub_killAll, hsub, ea, ea1], by omega, by first | (simp [go_sem]; done) | (simp [go_sem]; omega)⟩, .inr ⟨τ.next, rfl, by simp (disch := omega) [get_alloc_ne, get_set_ne, get_kill_ne, go_sem, f1, f2, gb1, gb2, pa, ca_0, ca_1, za, pa1, ca1_0, ca1_1, za1, nb1_0, nb1_1, nb1_2, nb2_0, nb2_1, nb2_2, nb1_b2, nb2_b1, m0_, m1_, m2_, sub_set, sub_killAll, hsub, ea, ea1], by simp [go_sem, f1, f2, gb1, gb2, pa, ca_0, ca_1, za, pa1, ca1_0, ca1_1, za1, nb1_0, nb1_1, nb1_2, nb2_0, nb2_1, nb2_2, nb1_b2, nb2_b1, m0_, m1_, m2_, sub_set, sub_killAll, hsub, ea, ea1], by omega, by first | (simp [go_sem]; done) | (simp [go_sem]; omega)⟩, by intro i hi; first | (simp [idOf] at hi; done) | (simp [idOf] at hi; omega), by intro i hi; first | (simp [idOf] at hi; done) | (simp [idOf] at hi; omega), by omega, by omega, by intro i hi; first | (simp [idOf] at hi; done) | (simp [idOf] at hi; omega), by intro i hi; first | (simp [idOf] at hi; done) | (simp [idOf] at hi; omega), by first | exact evv1 | exact apart_symm ev1v | (intro i h1 h2; simp [idOf] at h1; done) | (intro i h1 h2; simp [idOf] at h2; done) | (intro i h1 h2; simp [idOf] at h1; simp [idOf] at h2; omega)⟩ <;> simp [go_sem, f1, f2, gb1, gb2, pa, ca_0, ca_1, za, pa1, ca1_0, ca1_1, za1, nb1_0, nb1_1, nb1_2, nb2_0, nb2_1, nb2_2, nb1_b2, nb2_b1, m0_, m1_, m2_, sub_set, sub_killAll, hsub, ea, ea1]
    ·refine (hM _ _).2 ⟨(τ.next + 1), AV.arr (τ.next + 2) 0 a.length 1, AV.arr τ.next 0 a1.length 1, ?_, ?_, by intro j hj; have hj_ := hK j hj; simp [go_sem, hj_.1, hj_.2, show ¬ j = τ.next by omega, show ¬ j = τ.next + 1 by omega, show ¬ j = τ.next + 2 by omega], by first | omega | (simp [go_sem]; done) | (simp [go_sem]; omega), by simp (disch := omega) [get_alloc_ne, get_set_ne, get_kill_ne, go_sem, f1, f2, gb1, gb2, pa, ca_0, ca_1, za, pa1, ca1_0, ca1_1, za1, nb1_0, nb1_1, nb1_2, nb2_0, nb2_1, nb2_2, nb1_b2, nb2_b1, m0_, m1_, m2_, sub_set, sub_killAll, hsub, ea, ea1], by first | omega | (simp [go_sem]; done) | (simp [go_sem]; omega), by simp (disch := omega) [get_alloc_ne, get_set_ne, get_kill_ne, go_sem, f1, f2, gb1, gb2, pa, ca_0, ca_1, za, pa1, ca1_0, ca1_1, za1, nb1_0, nb1_1, nb1_2, nb2_0, nb2_1, nb2_2, nb1_b2, nb2_b1, m0_, m1_, m2_, sub_set, sub_killAll, hsub, ea, ea1], by first | omega | (simp [go_sem]; done) | (simp [go_sem]; omega), .inr ⟨(τ.next + 2), rfl, by simp (disch := omega) [get_alloc_ne, get_set_ne, get_kill_ne, go_sem, f1, f2, gb1, gb2, pa, ca_0, ca_1, za, pa1, ca1_0, ca1_1, za1, nb1_0, nb1_1, nb1_2, nb2_0, nb2_1, nb2_2, nb1_b2, nb2_b1, m0_, m1_, m2_, sub_set, sub_killAll, hsub, ea, ea1], by simp [go_sem, f1, f2, gb1, gb2, pa, ca_0, ca_1, za, pa1, ca1_0, ca1_1, za1, nb1_0, nb1_1, nb1_2, nb2_0, nb2_1, nb2_2, nb1_b2, nb2_b1, m0_, m1_, m2_, sub_set, sub_killAll, hsub, ea, ea1], by omega, by first | (simp [go_sem]; done) | (simp [go_sem]; omega)⟩, .inr ⟨τ.next, rfl, by simp (disch := omega) [get_alloc_ne, get_set_ne, get_kill_ne, go_sem, f1, f2, gb1, gb2, pa, ca_0, ca_1, za, pa1, ca1_0, ca1_1, za1, nb1_0, nb1_1, nb1_2, nb2_0, nb2_1, nb2_2, nb1_b2, nb2_b1, m0_, m1_, m2_, sub_set, sub_killAll, hsub, ea, ea1], by simp [go_sem, f1, f2, gb1, gb2, pa, ca_0, ca_1, za, pa1, ca1_0, ca1_1, za1, nb1_0, nb1_1, nb1_2, nb2_0, nb2_1, nb2_2, nb1_b2, nb2_b1, m0_, m1_, m2_, sub_set, sub_killAll, hsub, ea, ea1], by omega, by first | (simp [go_sem]; done) | (simp [go_sem]; omega)⟩, by intro i hi; first | (simp [idOf] at hi; done) | (simp [idOf] at hi; omega), by intro i hi; first | (simp [idOf] at hi; done) | (simp [idOf] at hi; omega), by omega, by omega, by intro i hi; first | (simp [idOf] at hi; done) | (simp [idOf] at hi; omega), by intro i hi; first | (simp [idOf] at hi; done) | (simp [idOf] at hi; omega), by first | exact evv1 | exact apart_symm ev1v | (intro i h1 h2; simp [idOf] at h1; done) | (intro i h1 h2; simp [idOf] at h2; done) | (intro i h1 h2; simp [idOf] at h1; simp [idOf] at h2; omega)⟩ <;> simp [go_sem, f1, f2, gb1, gb2, pa, ca_0, ca_1, za, pa1, ca1_0, ca1_1, za1, nb1_0, nb1_1, nb1_2, nb2_0, nb2_1, nb2_2, nb1_b2, nb2_b1, m0_, m1_, m2_, sub_set, sub_killAll, hsub, ea, ea1]
   ·refine ⟨?_, ?_⟩
    ·refine (hM _ _).2 ⟨τ.next, AV.arr (τ.next + 1) 0 a.length 1, AV.arr (τ.next + 2) 0 a1.length 1, ?_, ?_, by intro j hj; have hj_ := hK j hj; simp [go_sem, hj_.1, hj_.2, show ¬ j = τ.next by omega, show ¬ j = τ.next + 1 by omega, show ¬ j = τ.next + 2 by omega], by first | omega | (simp [go_sem]; done) | (simp [go_sem]; omega), by simp (disch := omega) [get_alloc_ne, get_set_ne, get_kill_ne, go_sem, f1, f2, gb1, gb2, pa, ca_0, ca_1, za, pa1, ca1_0, ca1_1, za1, nb1_0, nb1_1, nb1_2, nb2_0, nb2_1, nb2_2, nb1_b2, nb2_b1, m0_, m1_, m2_, sub_set, sub_killAll, hsub, ea, ea1], by first | omega | (simp [go_sem]; done) | (simp [go_sem]; omega), by simp (disch := omega) [get_alloc_ne, get_set_ne, get_kill_ne, go_sem, f1, f2, gb1, gb2, pa, ca_0, ca_1, za, pa1, ca1_0, ca1_1, za1, nb1_0, nb1_1, nb1_2, nb2_0, nb2_1, nb2_2, nb1_b2, nb2_b1, m0_, m1_, m2_, sub_set, sub_killAll, hsub, ea, ea1], by first | omega | (simp [go_sem]; done) | (simp [go_sem]; omega), .inr ⟨(τ.next + 1), rfl, by simp (disch := omega) [get_alloc_ne, get_set_ne, get_kill_ne, go_sem, f1, f2, gb1, gb2, pa, ca_0, ca_1, za, pa1, ca1_0, ca1_1, za1, nb1_0, nb1_1, nb1_2, nb2_0, nb2_1, nb2_2, nb1_b2, nb2_b1, m0_, m1_, m2_, sub_set, sub_killAll, hsub, ea, ea1], by simp [go_sem, f1, f2, gb1, gb2, pa, ca_0, ca_1, za, pa1, ca1_0, ca1_1, za1, nb1_0, nb1_1, nb1_2, nb2_0, nb2_1, nb2_2, nb1_b2, nb2_b1, m0_, m1_, m2_, sub_set, sub_killAll, hsub, ea, ea1], by omega, by first | (simp [go_sem]; done) | (simp [go_sem]; omega)⟩, .inr ⟨(τ.next + 2), rfl, by simp (disch := omega) [get_alloc_ne, get_set_ne, get_kill_ne, go_sem, f1, f2, gb1, gb2, pa, ca_0, ca_1, za, pa1, ca1_0, ca1_1, za1, nb1_0, nb1_1, nb1_2, nb2_0, nb2_1, nb2_2, nb1_b2, nb2_b1, m0_, m1_, m2_, sub_set, sub_killAll, hsub, ea, ea1], by simp [go_sem, f1, f2, gb1, gb2, pa, ca_0, ca_1, za, pa1, ca1_0, ca1_1, za1, nb1_0, nb1_1, nb1_2, nb2_0, nb2_1, nb2_2, nb1_b2, nb2_b1, m0_, m1_, m2_, sub_set, sub_killAll, hsub, ea, ea1], by omega, by first | (simp [go_sem]; done) | (simp [go_sem]; omega)⟩, by intro i hi; first | (simp [idOf] at hi; done) | (simp [idOf] at hi; omega), by intro i hi; first | (simp [idOf] at hi; done) | (simp [idOf] at hi; omega), by omega, by omega, by intro i hi; first | (simp [idOf] at hi; done) | (simp [idOf] at hi; omega), by intro i hi; first | (simp [idOf] at hi; done) | (simp [idOf] at hi; omega), by first | exact evv1 | exact apart_symm ev1v | (intro i h1 h2; simp [idOf] at h1; done) | (intro i h1 h2; simp [idOf] at h2; done) | (intro i h1 h2; simp [idOf] at h1; simp [idOf] at h2; omega)⟩ <;> simp [go_sem, f1, f2, gb1, gb2, pa, ca_0, ca_1, za, pa1, ca1_0, ca1_1, za1, nb1_0, nb1_1, nb1_2, nb2_0, nb2_1, nb2_2, nb1_b2, nb2_b1, m0_, m1_, m2_, sub_set, sub_killAll, hsub, ea, ea1]
    ·refine (hM _ _).2 ⟨τ.next, AV.arr (τ.next + 2) 0 a.length 1, AV.arr (τ.next + 1) 0 a1.length 1, ?_, ?_, by intro j hj; have hj_ := hK j hj; simp [go_sem, hj_.1, hj_.2, show ¬ j = τ.next by omega, show ¬ j = τ.next + 1 by omega, show ¬ j = τ.next + 2 by omega], by first | omega | (simp [go_sem]; done) | (simp [go_sem]; omega), by simp (disch := omega) [get_alloc_ne, get_set_ne, get_kill_ne, go_sem, f1, f2, gb1, gb2, pa, ca_0, ca_1, za, pa1, ca1_0, ca1_1, za1, nb1_0, nb1_1, nb1_2, nb2_0, nb2_1, nb2_2, nb1_b2, nb2_b1, m0_, m1_, m2_, sub_set, sub_killAll, hsub, ea, ea1], by first | omega | (simp [go_sem]; done) | (simp [go_sem]; omega), by simp (disch := omega) [get_alloc_ne, get_set_ne, get_kill_ne, go_sem, f1, f2, gb1, gb2, pa, ca_0, ca_1, za, pa1, ca1_0, ca1_1, za1, nb1_0, nb1_1, nb1_2, nb2_0, nb2_1, nb2_2, nb1_b2, nb2_b1, m0_, m1_, m2_, sub_set, sub_killAll, hsub, ea, ea1], by first | omega | (simp [go_sem]; done) | (simp [go_sem]; omega), .inr ⟨(τ.next + 2), rfl, by simp (disch := omega) [get_alloc_ne, get_set_ne, get_kill_ne, go_sem, f1, f2, gb1, gb2, pa, ca_0, ca_1, za, pa1, ca1_0, ca1_1, za1, nb1_0, nb1_1, nb1_2, nb2_0, nb2_1, nb2_2, nb1_b2, nb2_b1, m0_, m1_, m2_, sub_set, sub_killAll, hsub, ea, ea1], by simp [go_sem, f1, f2, gb1, gb2, pa, ca_0, ca_1, za, pa1, ca1_0, ca1_1, za1, nb1_0, nb1_1, nb1_2, nb2_0, nb2_1, nb2_2, nb1_b2, nb2_b1, m0_, m1_, m2_, sub_set, sub_killAll, hsub, ea, ea1], by omega, by first | (simp [go_sem]; done) | (simp [go_sem]; omega)⟩, .inr ⟨(τ.next + 1), rfl, by simp (disch := omega) [get_alloc_ne, get_set_ne, get_kill_ne, go_sem, f1, f2, gb1, gb2, pa, ca_0, ca_1, za, pa1, ca1_0, ca1_1, za1, nb1_0, nb1_1, nb1_2, nb2_0, nb2_1, nb2_2, nb1_b2, nb2_b1, m0_, m1_, m2_, sub_set, sub_killAll, hsub, ea, ea1], by simp [go_sem, f1, f2, gb1, gb2, pa, ca_0, ca_1, za, pa1, ca1_0, ca1_1, za1, nb1_0, nb1_1, nb1_2, nb2_0, nb2_1, nb2_2, nb1_b2, nb2_b1, m0_, m1_, m2_, sub_set, sub_killAll, hsub, ea, ea1], by omega, by first | (simp [go_sem]; done) | (simp [go_sem]; omega)⟩, by intro i hi; first | (simp [idOf] at hi; done) | (simp [idOf] at hi; omega), by intro i hi; first | (simp [idOf] at hi; done) | (simp [idOf] at hi; omega), by omega, by omega, by intro i hi; first | (simp [idOf] at hi; done) | (simp [idOf] at hi; omega), by intro i hi; first | (simp [idOf] at hi; done) | (simp [idOf] at hi; omega), by first | exact evv1 | exact apart_symm ev1v | (intro i h1 h2; simp [idOf] at h1; done) | (intro i h1 h2; simp [idOf] at h2; done) | (intro i h1 h2; simp [idOf] at h1; simp [idOf] at h2; omega)⟩ <;> simp [go_sem, f1, f2, gb1, gb2, pa, ca_0, ca_1, za, pa1, ca1_0, ca1_1, za1, nb1_0, nb1_1, nb1_2, nb2_0, nb2_1, nb2_2, nb1_b2, nb2_b1, m0_, m1_, m2_, sub_set, sub_killAll, hsub, ea, ea1]
 clear f1 f2 hK hN gb1 ub1 gb2 ub2
 obtain ⟨b3, v, v1, f2, f3, hK, hN, gb2, ub2, gb3, ub3, av, av1, evb2, ev1b2, wb3, eb2b3, evb3, ev1b3, evv1⟩ := hm
 refine SW.seq ?_
 refine SW.seq ?_
 refine SW.regX (fun f_ t_ => τ1 = t_ ∧ f_ 2 = AV.ptr b2 0 ∧ f_ 3 = AV.ptr b3 0 ∧ f_ 4 = AV.int (0)) (fun M hM => ?_) (fun fr3 τz hm => ?_)
 ·simp [go_sem, f2, f3, gb2, gb3]
  refine (hM _ _).2 ⟨rfl, ?_, ?_, ?_⟩ <;> simp [go_sem, f2, f3, gb2, gb3]
 clear f2 f3
 obtain ⟨rfl, f2, f3, f4⟩ := hm
 obtain ⟨oi1, hruni1, hoi1⟩ := obind h
 refine SW.lenBA b3 0 gb3 rfl av (fun hbigi1 => ?_)
 obtain ⟨KL, hKL⟩ : ∃ KL : Fr → Mem → Prop, ∀ fr' τ', KL fr' τ' ↔ (∃ x : List Int, ∃ v2 : AV, oi1 = .done x ∧ fr' 2 = AV.ptr b2 0 ∧ fr' 3 = AV.ptr b3 0 ∧ Kept σ0 τ' ∧ σ0.next ≤ τ'.next ∧ τ'.get b2 = some [AV.nils, AV.nils] ∧ b2 < τ'.next ∧ τ'.get b3 = some [v2, v1] ∧ b3 < τ'.next ∧ ArrAt σ0.next τ' v2 3 (x.map AV.int) x.length 1 ∧ x.length = a.length ∧ ArrAt σ0.next τ' v1 3 (a1.map AV.int) a1.length 1 ∧ (∀ i, idOf v2 = some i → ¬ i = b2) ∧ (∀ i, idOf v2 = some i → ¬ i = b3) ∧ Apart v2 v1) := ⟨_, fun _ _ => Iff.rfl⟩
 refine SW.cut KL ?_ ?_
 ·refine SW.block ?_
  obtain ⟨J, hJ⟩ : ∃ J : Nat → Fr → Mem → Prop, ∀ m_ fr' τ', J m_ fr' τ' ↔ (∃ i : Nat, ∃ x : List Int, ∃ v2 : AV, m_ = a.length - i ∧ forN b1_ref17_open (a.length - i) i x = some oi1 ∧ fr' 2 = AV.ptr b2 0 ∧ fr' 3 = AV.ptr b3 0 ∧ fr' 4 = AV.int (((i : Nat) : Int)) ∧ Kept σ0 τ' ∧ σ0.next ≤ τ'.next ∧ τ'.get b2 = some [AV.nils, AV.nils] ∧ b2 < τ'.next ∧ τ'.get b3 = some [v2, v1] ∧ b3 < τ'.next ∧ ArrAt σ0.next τ' v2 3 (x.map AV.int) x.length 1 ∧ x.length = a.length ∧ ArrAt σ0.next τ' v1 3 (a1.map AV.int) a1.length 1 ∧ (∀ i, idOf v2 = some i → ¬ i = b2) ∧ (∀ i, idOf v2 = some i → ¬ i = b3) ∧ Apart v2 v1) := ⟨_, fun _ _ _ => Iff.rfl⟩
  refine SW.loop J (a.length - 0) ((hJ _ _ _).2 ⟨0, a, v, rfl, hruni1, f2, f3, f4, hK, hN, gb2, ub2, gb3, ub3, av, rfl, av1, evb2, evb3, (by first | exact evv1 | exact fun i h h' => ev1v i h' h)⟩) ?_
  clear hruni1
  intro m_ fr4 τ2 hm
  rw [hJ] at hm
  clear f2 f3 f4 hK hN gb2 ub2 gb3 ub3 av av1
  obtain ⟨i, x, v2, rfl, hruni1, f2, f3, f4, hK, hN, gb2, ub2, gb3, ub3, av2, qv2, av1, ev2b2, ev2b3, ev2v1⟩ := hm
  refine SW.seq ?_
  refine SW.seq ?_
  refine SW.regX (fun f_ t_ => τ2 = t_ ∧ f_ 2 = AV.ptr b2 0 ∧ f_ 3 = AV.ptr b3 0 ∧ f_ 4 = AV.int (((i : Nat) : Int)) ∧ f_ 19 = AV.bool ((decide (i < x.length)))) (fun M hM => ?_) (fun fr5 τz1 hm => ?_)
  ·have zv2 := av2
   rcases zv2 with ⟨rfl, nv2, mv2⟩ | ⟨ov2, rfl, gov2, tov2, lov2, hiv2⟩
   ·simp [go_sem, f2, f3, f4, gb2, gb3, nv2, mv2]
    refine (hM _ _).2 ⟨rfl, ?_, ?_, ?_, ?_⟩ <;> simp [go_sem, f2, f3, f4, gb2, gb3, nv2, mv2]
   ·simp [go_sem, f2, f3, f4, gb2, gb3, gov2, tov2]
    refine (hM _ _).2 ⟨rfl, ?_, ?_, ?_, ?_⟩ <;> simp [go_sem, f2, f3, f4, gb2, gb3, gov2, tov2]
  clear f2 f3 f4
  obtain ⟨rfl, f2, f3, f4, f19⟩ := hm
  refine SW.cond _ f19 (fun hx => ?_) (fun hx => ?_)
  rotate_left
  ·have hk : ¬ i < a.length := by have := of_decide_eq_false hx; omega
   refine SW.exit rfl ?_
   exact SW.goal ((hKL _ _).2 ⟨x, v2, forN_end hruni1 hk, f2, f3, hK, hN, gb2, ub2, gb3, ub3, av2, qv2, av1, ev2b2, ev2b3, (by first | exact ev2v1 | exact fun i h h' => ev1v2 i h' h)⟩)
  have hki : i < a.length := by have := of_decide_eq_true hx; omega
  have hwi : IntKind.i64.wrap ((i : Int) + 1) = ((i + 1 : Nat) : Int) := by rw [wrap64_of _ (by omega) (by omega)]; rfl
  obtain ⟨ci1, hbi1, hci1⟩ := forN_step hruni1 hki
  simp only [b1_ref17_open] at hbi1
  refine SW.skip ?_
  refine SW.seq ?_
  refine SW.block ?_
  obtain ⟨n, hn, hbi1⟩ := obind hbi1
  have xln := getN_lt hn
  have xdn := getN_map AV.int hn
  have xon : (x.map AV.int).length = x.length * 1 := by simp
  have st4 := set_map AV.int (-1) x i xln
  have sust4 : i + 1 ≤ x.length := by have := xln; omega
  refine SW.regX (fun f_ t_ => f_ 2 = AV.ptr b2 0 ∧ f_ 3 = AV.ptr b3 0 ∧ f_ 4 = AV.int (((i : Nat) : Int)) ∧ Kept σ0 t_ ∧ σ0.next ≤ t_.next ∧ t_.get b2 = some [AV.nils, AV.nils] ∧ b2 < t_.next ∧ t_.get b3 = some [v2, v1] ∧ b3 < t_.next ∧ ArrAt σ0.next t_ v2 3 (((x.set i (-1))).map AV.int) ((x.set i (-1))).length 1 ∧ ((x.set i (-1))).length = a.length ∧ ArrAt σ0.next t_ v1 3 (a1.map AV.int) a1.length 1) (fun M hM => ?_) (fun fr6 τ3 hm => ?_)
  ·have zv2 := av2
   rcases zv2 with ⟨rfl, nv2, mv2⟩ | ⟨ov2, rfl, gov2, tov2, lov2, hiv2⟩
   ·exfalso; omega
   ·have nv2_b2 : ¬ ov2 = b2 := ev2b2 _ rfl
    have nb2_v2 : ¬ b2 = ov2 := fun e => ev2b2 _ rfl e.symm
    have nv2_b3 : ¬ ov2 = b3 := ev2b3 _ rfl
    have nb3_v2 : ¬ b3 = ov2 := fun e => ev2b3 _ rfl e.symm
    simp [go_sem, f19, f2, f3, f4, gb2, gb3, xln, xdn, xon, sust4, st4, gov2, tov2, nv2_b2, nb2_v2, nv2_b3, nb3_v2]
    refine (hM _ _).2 ⟨?_, ?_, ?_, by intro j hj; have hj_ := hK j hj; simp [go_sem, hj_.1, hj_.2, show ¬ j = ov2 by omega], by first | omega | (simp [go_sem]; done) | (simp [go_sem]; omega), by simp (disch := omega) [get_alloc_ne, get_set_ne, get_kill_ne, go_sem, f19, f2, f3, f4, gb2, gb3, xln, xdn, xon, sust4, st4, gov2, tov2, nv2_b2, nb2_v2, nv2_b3, nb3_v2], by first | omega | (simp [go_sem]; done) | (simp [go_sem]; omega), by simp (disch := omega) [get_alloc_ne, get_set_ne, get_kill_ne, go_sem, f19, f2, f3, f4, gb2, gb3, xln, xdn, xon, sust4, st4, gov2, tov2, nv2_b2, nb2_v2, nv2_b3, nb3_v2], by first | omega | (simp [go_sem]; done) | (simp [go_sem]; omega), .inr ⟨ov2, by simp, by simp (disch := omega) [get_alloc_ne, get_set_ne, get_kill_ne, go_sem, f19, f2, f3, f4, gb2, gb3, xln, xdn, xon, sust4, st4, gov2, tov2, nv2_b2, nb2_v2, nv2_b3, nb3_v2], by simp (disch := omega) [go_sem, f19, f2, f3, f4, gb2, gb3, xln, xdn, xon, sust4, st4, gov2, tov2, nv2_b2, nb2_v2, nv2_b3, nb3_v2], lov2, by first | omega | (simp [go_sem]; done) | (simp [go_sem]; omega)⟩, by first | exact qv2 | (simp; done) | (simp [qv2]; done) | (simp [go_sem, f19, f2, f3, f4, gb2, gb3, xln, xdn, xon, sust4, st4, gov2, tov2, nv2_b2, nb2_v2, nv2_b3, nb3_v2]; done), av1.same' (by simp [go_sem]; try omega) (fun i hi => by have zl := arrAt_lt av1 i hi; have ze0 := apart_ne (by first | exact ev2v1 | exact apart_symm ev1v2) hi; constructor <;> simp [go_sem, ze0])⟩ <;> simp [go_sem, f19, f2, f3, f4, gb2, gb3, xln, xdn, xon, sust4, st4, gov2, tov2, nv2_b2, nb2_v2, nv2_b3, nb3_v2]
  clear f19 f2 f3 f4 hK hN gb2 ub2 gb3 ub3 av2 qv2 av1
  obtain ⟨f2, f3, f4, hK, hN, gb2, ub2, gb3, ub3, av2, qv2, av1⟩ := hm
  refine SW.blk ?_
  refine SW.regX (fun f_ t_ => τ3 = t_ ∧ f_ 2 = AV.ptr b2 0 ∧ f_ 3 = AV.ptr b3 0 ∧ f_ 4 = AV.int (((i + 1 : Nat) : Int))) (fun M hM => ?_) (fun fr7 τz2 hm => ?_)
  ·simp [go_sem, f2, f3, f4, gb2, gb3, hwi]
   refine (hM _ _).2 ⟨rfl, ?_, ?_, ?_⟩ <;> simp [go_sem, f2, f3, f4, gb2, gb3, hwi]
  clear f2 f3 f4
  obtain ⟨rfl, f2, f3, f4⟩ := hm
  obtain rfl := Option.some.inj hbi1
  exact SW.goal ⟨a.length - (i + 1), by omega, (hJ _ _ _).2 ⟨i + 1, (x.set i (-1)), v2, rfl, hci1, f2, f3, f4, hK, hN, gb2, ub2, gb3, ub3, av2, qv2, av1, ev2b2, ev2b3, (by first | exact ev2v1 | exact fun i h h' => ev1v2 i h' h)⟩⟩
 intro fr8 τ4 hm
 rw [hKL] at hm
 clear hKL hruni1
 clear f2 f3 f4 hK hN gb2 ub2 gb3 ub3 av av1
 obtain ⟨x, v2, rfl, f2, f3, hK, hN, gb2, ub2, gb3, ub3, av2, qv2, av1, ev2b2, ev2b3, ev2v1⟩ := hm
 simp only [Out.on] at hoi1
 refine SW.seq ?_
 refine SW.seq ?_
 refine SW.regX (fun f_ t_ => τ4 = t_ ∧ f_ 2 = AV.ptr b2 0 ∧ f_ 3 = AV.ptr b3 0 ∧ f_ 5 = AV.int (0)) (fun M hM => ?_) (fun fr9 τz3 hm => ?_)
 ·simp [go_sem, f2, f3, gb2, gb3]
  refine (hM _ _).2 ⟨rfl, ?_, ?_, ?_⟩ <;> simp [go_sem, f2, f3, gb2, gb3]
 clear f2 f3
 obtain ⟨rfl, f2, f3, f5⟩ := hm
 obtain ⟨oi3, hruni3, hoi3⟩ := obind hoi1
 refine SW.lenBA b3 1 gb3 rfl av1 (fun hbigi3 => ?_)
 obtain ⟨KL, hKL⟩ : ∃ KL : Fr → Mem → Prop, ∀ fr' τ', KL fr' τ' ↔ (∃ x1 : List Int, ∃ v3 : AV, oi3 = .done x1 ∧ fr' 2 = AV.ptr b2 0 ∧ fr' 3 = AV.ptr b3 0 ∧ Kept σ0 τ' ∧ σ0.next ≤ τ'.next ∧ τ'.get b2 = some [AV.nils, AV.nils] ∧ b2 < τ'.next ∧ τ'.get b3 = some [v2, v3] ∧ b3 < τ'.next ∧ ArrAt σ0.next τ' v2 3 (x.map AV.int) x.length 1 ∧ x.length = a.length ∧ ArrAt σ0.next τ' v3 3 (x1.map AV.int) x1.length 1 ∧ x1.length = a1.length ∧ (∀ i, idOf v3 = some i → ¬ i = b2) ∧ (∀ i, idOf v3 = some i → ¬ i = b3) ∧ Apart v2 v3) := ⟨_, fun _ _ => Iff.rfl⟩
 refine SW.cut KL ?_ ?_
 ·refine SW.block ?_
  obtain ⟨J, hJ⟩ : ∃ J : Nat → Fr → Mem → Prop, ∀ m_ fr' τ', J m_ fr' τ' ↔ (∃ i2 : Nat, ∃ x1 : List Int, ∃ v3 : AV, m_ = a1.length - i2 ∧ forN b3_ref17_open (a1.length - i2) i2 x1 = some oi3 ∧ fr' 2 = AV.ptr b2 0 ∧ fr' 3 = AV.ptr b3 0 ∧ fr' 5 = AV.int (((i2 : Nat) : Int)) ∧ Kept σ0 τ' ∧ σ0.next ≤ τ'.next ∧ τ'.get b2 = some [AV.nils, AV.nils] ∧ b2 < τ'.next ∧ τ'.get b3 = some [v2, v3] ∧ b3 < τ'.next ∧ ArrAt σ0.next τ' v2 3 (x.map AV.int) x.length 1 ∧ x.length = a.length ∧ ArrAt σ0.next τ' v3 3 (x1.map AV.int) x1.length 1 ∧ x1.length = a1.length ∧ (∀ i, idOf v3 = some i → ¬ i = b2) ∧ (∀ i, idOf v3 = some i → ¬ i = b3) ∧ Apart v2 v3) := ⟨_, fun _ _ _ => Iff.rfl⟩
  refine SW.loop J (a1.length - 0) ((hJ _ _ _).2 ⟨0, a1, v1, rfl, hruni3, f2, f3, f5, hK, hN, gb2, ub2, gb3, ub3, av2, qv2, av1, rfl, ev1b2, ev1b3, (by first | exact ev2v1 | exact fun i h h' => ev1v2 i h' h)⟩) ?_
  clear hruni3
  intro m_ fr10 τ5 hm
  rw [hJ] at hm
  clear f2 f3 f5 hK hN gb2 ub2 gb3 ub3 av2 qv2 av1
  obtain ⟨i2, x1, v3, rfl, hruni3, f2, f3, f5, hK, hN, gb2, ub2, gb3, ub3, av2, qv2, av3, qv3, ev3b2, ev3b3, ev2v3⟩ := hm
  refine SW.seq ?_
  refine SW.seq ?_
  refine SW.regX (fun f_ t_ => τ5 = t_ ∧ f_ 2 = AV.ptr b2 0 ∧ f_ 3 = AV.ptr b3 0 ∧ f_ 5 = AV.int (((i2 : Nat) : Int)) ∧ f_ 30 = AV.bool ((decide (i2 < x1.length)))) (fun M hM => ?_) (fun fr11 τz4 hm => ?_)
  ·have zv3 := av3
   rcases zv3 with ⟨rfl, nv3, mv3⟩ | ⟨ov3, rfl, gov3, tov3, lov3, hiv3⟩
   ·simp [go_sem, f2, f3, f5, gb2, gb3, nv3, mv3]
    refine (hM _ _).2 ⟨rfl, ?_, ?_, ?_, ?_⟩ <;> simp [go_sem, f2, f3, f5, gb2, gb3, nv3, mv3]
   ·simp [go_sem, f2, f3, f5, gb2, gb3, gov3, tov3]
    refine (hM _ _).2 ⟨rfl, ?_, ?_, ?_, ?_⟩ <;> simp [go_sem, f2, f3, f5, gb2, gb3, gov3, tov3]
  clear f2 f3 f5
  obtain ⟨rfl, f2, f3, f5, f30⟩ := hm
  refine SW.cond _ f30 (fun hx1 => ?_) (fun hx1 => ?_)
  rotate_left
  ·have hk : ¬ i2 < a1.length := by have := of_decide_eq_false hx1; omega
   refine SW.exit rfl ?_
   exact SW.goal ((hKL _ _).2 ⟨x1, v3, forN_end hruni3 hk, f2, f3, hK, hN, gb2, ub2, gb3, ub3, av2, qv2, av3, qv3, ev3b2, ev3b3, (by first | exact ev2v3 | exact fun i h h' => ev3v2 i h' h)⟩)
  have hki2 : i2 < a1.length := by have := of_decide_eq_true hx1; omega
  have hwi2 : IntKind.i64.wrap ((i2 : Int) + 1) = ((i2 + 1 : Nat) : Int) := by rw [wrap64_of _ (by omega) (by omega)]; rfl
  obtain ⟨ci3, hbi3, hci3⟩ := forN_step hruni3 hki2
  simp only [b3_ref17_open] at hbi3
  refine SW.skip ?_
  refine SW.seq ?_
  refine SW.block ?_
  obtain ⟨n1, hn1, hbi3⟩ := obind hbi3
  have xln1 := getN_lt hn1
  have xdn1 := getN_map AV.int hn1
  have xon1 : (x1.map AV.int).length = x1.length * 1 := by simp
  have st4 := set_map AV.int (-1) x1 i2 xln1
  have sust4 : i2 + 1 ≤ x1.length := by have := xln1; omega
  refine SW.regX (fun f_ t_ => f_ 2 = AV.ptr b2 0 ∧ f_ 3 = AV.ptr b3 0 ∧ f_ 5 = AV.int (((i2 : Nat) : Int)) ∧ Kept σ0 t_ ∧ σ0.next ≤ t_.next ∧ t_.get b2 = some [AV.nils, AV.nils] ∧ b2 < t_.next ∧ t_.get b3 = some [v2, v3] ∧ b3 < t_.next ∧ ArrAt σ0.next t_ v2 3 (x.map AV.int) x.length 1 ∧ x.length = a.length ∧ ArrAt σ0.next t_ v3 3 (((x1.set i2 (-1))).map AV.int) ((x1.set i2 (-1))).length 1 ∧ ((x1.set i2 (-1))).length = a1.length) (fun M hM => ?_) (fun fr12 τ6 hm => ?_)
  ·have zv3 := av3
   rcases zv3 with ⟨rfl, nv3, mv3⟩ | ⟨ov3, rfl, gov3, tov3, lov3, hiv3⟩
   ·exfalso; omega
   ·have nv3_b2 : ¬ ov3 = b2 := ev3b2 _ rfl
    have nb2_v3 : ¬ b2 = ov3 := fun e => ev3b2 _ rfl e.symm
    have nv3_b3 : ¬ ov3 = b3 := ev3b3 _ rfl
    have nb3_v3 : ¬ b3 = ov3 := fun e => ev3b3 _ rfl e.symm
    simp [go_sem, f2, f3, f30, f5, gb2, gb3, xln1, xdn1, xon1, sust4, st4, gov3, tov3, nv3_b2, nb2_v3, nv3_b3, nb3_v3]
    refine (hM _ _).2 ⟨?_, ?_, ?_, by intro j hj; have hj_ := hK j hj; simp [go_sem, hj_.1, hj_.2, show ¬ j = ov3 by omega], by first | omega | (simp [go_sem]; done) | (simp [go_sem]; omega), by simp (disch := omega) [get_alloc_ne, get_set_ne, get_kill_ne, go_sem, f2, f3, f30, f5, gb2, gb3, xln1, xdn1, xon1, sust4, st4, gov3, tov3, nv3_b2, nb2_v3, nv3_b3, nb3_v3], by first | omega | (simp [go_sem]; done) | (simp [go_sem]; omega), by simp (disch := omega) [get_alloc_ne, get_set_ne, get_kill_ne, go_sem, f2, f3, f30, f5, gb2, gb3, xln1, xdn1, xon1, sust4, st4, gov3, tov3, nv3_b2, nb2_v3, nv3_b3, nb3_v3], by first | omega | (simp [go_sem]; done) | (simp [go_sem]; omega), av2.same' (by simp [go_sem]; try omega) (fun i hi => by have zl := arrAt_lt av2 i hi; have ze0 := apart_ne (by first | exact ev3v2 | exact apart_symm ev2v3) hi; constructor <;> simp [go_sem, ze0]), by first | exact qv2 | (simp; done) | (simp [qv2]; done) | (simp [go_sem, f2, f3, f30, f5, gb2, gb3, xln1, xdn1, xon1, sust4, st4, gov3, tov3, nv3_b2, nb2_v3, nv3_b3, nb3_v3]; done), .inr ⟨ov3, by simp, by simp (disch := omega) [get_alloc_ne, get_set_ne, get_kill_ne, go_sem, f2, f3, f30, f5, gb2, gb3, xln1, xdn1, xon1, sust4, st4, gov3, tov3, nv3_b2, nb2_v3, nv3_b3, nb3_v3], by simp (disch := omega) [go_sem, f2, f3, f30, f5, gb2, gb3, xln1, xdn1, xon1, sust4, st4, gov3, tov3, nv3_b2, nb2_v3, nv3_b3, nb3_v3], lov3, by first | omega | (simp [go_sem]; done) | (simp [go_sem]; omega)⟩, by first | exact qv3 | (simp; done) | (simp [qv3]; done) | (simp [go_sem, f2, f3, f30, f5, gb2, gb3, xln1, xdn1, xon1, sust4, st4, gov3, tov3, nv3_b2, nb2_v3, nv3_b3, nb3_v3]; done)⟩ <;> simp [go_sem, f2, f3, f30, f5, gb2, gb3, xln1, xdn1, xon1, sust4, st4, gov3, tov3, nv3_b2, nb2_v3, nv3_b3, nb3_v3]
  clear f2 f3 f30 f5 hK hN gb2 ub2 gb3 ub3 av2 qv2 av3 qv3
  obtain ⟨f2, f3, f5, hK, hN, gb2, ub2, gb3, ub3, av2, qv2, av3, qv3⟩ := hm
  refine SW.blk ?_
  refine SW.regX (fun f_ t_ => τ6 = t_ ∧ f_ 2 = AV.ptr b2 0 ∧ f_ 3 = AV.ptr b3 0 ∧ f_ 5 = AV.int (((i2 + 1 : Nat) : Int))) (fun M hM => ?_) (fun fr13 τz5 hm => ?_)
  ·simp [go_sem, f2, f3, f5, gb2, gb3, hwi2]
   refine (hM _ _).2 ⟨rfl, ?_, ?_, ?_⟩ <;> simp [go_sem, f2, f3, f5, gb2, gb3, hwi2]
  clear f2 f3 f5
  obtain ⟨rfl, f2, f3, f5⟩ := hm
  obtain rfl := Option.some.inj hbi3
  exact SW.goal ⟨a1.length - (i2 + 1), by omega, (hJ _ _ _).2 ⟨i2 + 1, (x1.set i2 (-1)), v3, rfl, hci3, f2, f3, f5, hK, hN, gb2, ub2, gb3, ub3, av2, qv2, av3, qv3, ev3b2, ev3b3, (by first | exact ev2v3 | exact fun i h h' => ev3v2 i h' h)⟩⟩
 intro fr14 τ7 hm
 rw [hKL] at hm
 clear hKL hruni3
 clear f2 f3 f5 hK hN gb2 ub2 gb3 ub3 av2 qv2 av1
 obtain ⟨x1, v3, rfl, f2, f3, hK, hN, gb2, ub2, gb3, ub3, av2, qv2, av3, qv3, ev3b2, ev3b3, ev2v3⟩ := hm
 simp only [Out.on] at hoi3
 refine SW.seq ?_
 refine SW.regX (fun f_ t_ => f_ 2 = AV.ptr b2 0 ∧ Kept σ0 t_ ∧ σ0.next ≤ t_.next ∧ t_.get b2 = some [v2, v3] ∧ b2 < t_.next ∧ ArrAt σ0.next t_ v2 3 (x.map AV.int) x.length 1 ∧ x.length = a.length ∧ ArrAt σ0.next t_ v3 3 (x1.map AV.int) x1.length 1 ∧ x1.length = a1.length) (fun M hM => ?_) (fun fr15 τ8 hm => ?_)
 ·have nb3_b2 : ¬ b3 = b2 := by omega
  have zv2 := av2
  rcases zv2 with ⟨rfl, nv2, mv2⟩ | ⟨ov2, rfl, gov2, tov2, lov2, hiv2⟩
  ·have zv3 := av3
   rcases zv3 with ⟨rfl, nv3, mv3⟩ | ⟨ov3, rfl, gov3, tov3, lov3, hiv3⟩
   ·simp [go_sem, f2, f3, gb2, gb3, nb3_b2, nv2, mv2, nv3, mv3]
    refine (hM _ _).2 ⟨?_, by intro j hj; have hj_ := hK j hj; simp [go_sem, hj_.1, hj_.2, show ¬ j = b2 by omega], by first | omega | (simp [go_sem]; done) | (simp [go_sem]; omega), by simp (disch := omega) [get_alloc_ne, get_set_ne, get_kill_ne, go_sem, f2, f3, gb2, gb3, nb3_b2, nv2, mv2, nv3, mv3], by first | omega | (simp [go_sem]; done) | (simp [go_sem]; omega), av2.same' (by simp [go_sem]; try omega) (fun i hi => by have zl := arrAt_lt av2 i hi; have zs0 := ev2b2 i hi; constructor <;> simp [go_sem, zs0]), by first | exact qv2 | (simp; done) | (simp [qv2]; done) | (simp [go_sem, f2, f3, gb2, gb3, nb3_b2, nv2, mv2, nv3, mv3]; done), av3.same' (by simp [go_sem]; try omega) (fun i hi => by have zl := arrAt_lt av3 i hi; have zs0 := ev3b2 i hi; constructor <;> simp [go_sem, zs0]), by first | exact qv3 | (simp; done) | (simp [qv3]; done) | (simp [go_sem, f2, f3, gb2, gb3, nb3_b2, nv2, mv2, nv3, mv3]; done)⟩ <;> simp [go_sem, f2, f3, gb2, gb3, nb3_b2, nv2, mv2, nv3, mv3]
   ·have nv3_b2 : ¬ ov3 = b2 := ev3b2 _ rfl
    have nb2_v3 : ¬ b2 = ov3 := fun e => ev3b2 _ rfl e.symm
    have nv3_b3 : ¬ ov3 = b3 := ev3b3 _ rfl
    have nb3_v3 : ¬ b3 = ov3 := fun e => ev3b3 _ rfl e.symm
    simp [go_sem, f2, f3, gb2, gb3, nb3_b2, nv2, mv2, gov3, tov3, nv3_b2, nb2_v3, nv3_b3, nb3_v3]
    refine (hM _ _).2 ⟨?_, by intro j hj; have hj_ := hK j hj; simp [go_sem, hj_.1, hj_.2, show ¬ j = b2 by omega], by first | omega | (simp [go_sem]; done) | (simp [go_sem]; omega), by simp (disch := omega) [get_alloc_ne, get_set_ne, get_kill_ne, go_sem, f2, f3, gb2, gb3, nb3_b2, nv2, mv2, gov3, tov3, nv3_b2, nb2_v3, nv3_b3, nb3_v3], by first | omega | (simp [go_sem]; done) | (simp [go_sem]; omega), av2.same' (by simp [go_sem]; try omega) (fun i hi => by have zl := arrAt_lt av2 i hi; have zs0 := ev2b2 i hi; constructor <;> simp [go_sem, zs0]), by first | exact qv2 | (simp; done) | (simp [qv2]; done) | (simp [go_sem, f2, f3, gb2, gb3, nb3_b2, nv2, mv2, gov3, tov3, nv3_b2, nb2_v3, nv3_b3, nb3_v3]; done), av3.same' (by simp [go_sem]; try omega) (fun i hi => by have zl := arrAt_lt av3 i hi; have zs0 := ev3b2 i hi; constructor <;> simp [go_sem, zs0]), by first | exact qv3 | (simp; done) | (simp [qv3]; done) | (simp [go_sem, f2, f3, gb2, gb3, nb3_b2, nv2, mv2, gov3, tov3, nv3_b2, nb2_v3, nv3_b3, nb3_v3]; done)⟩ <;> simp [go_sem, f2, f3, gb2, gb3, nb3_b2, nv2, mv2, gov3, tov3, nv3_b2, nb2_v3, nv3_b3, nb3_v3]
  ·have nv2_b2 : ¬ ov2 = b2 := ev2b2 _ rfl
   have nb2_v2 : ¬ b2 = ov2 := fun e => ev2b2 _ rfl e.symm
   have nv2_b3 : ¬ ov2 = b3 := ev2b3 _ rfl
   have nb3_v2 : ¬ b3 = ov2 := fun e => ev2b3 _ rfl e.symm
   have zv3 := av3
   rcases zv3 with ⟨rfl, nv3, mv3⟩ | ⟨ov3, rfl, gov3, tov3, lov3, hiv3⟩
   ·simp [go_sem, f2, f3, gb2, gb3, nb3_b2, gov2, tov2, nv2_b2, nb2_v2, nv2_b3, nb3_v2, nv3, mv3]
    refine (hM _ _).2 ⟨?_, by intro j hj; have hj_ := hK j hj; simp [go_sem, hj_.1, hj_.2, show ¬ j = b2 by omega], by first | omega | (simp [go_sem]; done) | (simp [go_sem]; omega), by simp (disch := omega) [get_alloc_ne, get_set_ne, get_kill_ne, go_sem, f2, f3, gb2, gb3, nb3_b2, gov2, tov2, nv2_b2, nb2_v2, nv2_b3, nb3_v2, nv3, mv3], by first | omega | (simp [go_sem]; done) | (simp [go_sem]; omega), av2.same' (by simp [go_sem]; try omega) (fun i hi => by have zl := arrAt_lt av2 i hi; have zs0 := ev2b2 i hi; constructor <;> simp [go_sem, zs0]), by first | exact qv2 | (simp; done) | (simp [qv2]; done) | (simp [go_sem, f2, f3, gb2, gb3, nb3_b2, gov2, tov2, nv2_b2, nb2_v2, nv2_b3, nb3_v2, nv3, mv3]; done), av3.same' (by simp [go_sem]; try omega) (fun i hi => by have zl := arrAt_lt av3 i hi; have zs0 := ev3b2 i hi; constructor <;> simp [go_sem, zs0]), by first | exact qv3 | (simp; done) | (simp [qv3]; done) | (simp [go_sem, f2, f3, gb2, gb3, nb3_b2, gov2, tov2, nv2_b2, nb2_v2, nv2_b3, nb3_v2, nv3, mv3]; done)⟩ <;> simp [go_sem, f2, f3, gb2, gb3, nb3_b2, gov2, tov2, nv2_b2, nb2_v2, nv2_b3, nb3_v2, nv3, mv3]
   ·have nv3_v2 : ¬ ov3 = ov2 := by first | exact apart_ne ev2v3 rfl | exact apart_ne (apart_symm ev3v2) rfl
    have nv2_v3 := fun e => nv3_v2 (Eq.symm e)
    have nv3_b2 : ¬ ov3 = b2 := ev3b2 _ rfl
    have nb2_v3 : ¬ b2 = ov3 := fun e => ev3b2 _ rfl e.symm
    have nv3_b3 : ¬ ov3 = b3 := ev3b3 _ rfl
    have nb3_v3 : ¬ b3 = ov3 := fun e => ev3b3 _ rfl e.symm
    simp [go_sem, f2, f3, gb2, gb3, nb3_b2, gov2, tov2, nv2_b2, nb2_v2, nv2_b3, nb3_v2, gov3, tov3, nv3_v2, nv2_v3, nv3_b2, nb2_v3, nv3_b3, nb3_v3]
    refine (hM _ _).2 ⟨?_, by intro j hj; have hj_ := hK j hj; simp [go_sem, hj_.1, hj_.2, show ¬ j = b2 by omega], by first | omega | (simp [go_sem]; done) | (simp [go_sem]; omega), by simp (disch := omega) [get_alloc_ne, get_set_ne, get_kill_ne, go_sem, f2, f3, gb2, gb3, nb3_b2, gov2, tov2, nv2_b2, nb2_v2, nv2_b3, nb3_v2, gov3, tov3, nv3_v2, nv2_v3, nv3_b2, nb2_v3, nv3_b3, nb3_v3], by first | omega | (simp [go_sem]; done) | (simp [go_sem]; omega), av2.same' (by simp [go_sem]; try omega) (fun i hi => by have zl := arrAt_lt av2 i hi; have zs0 := ev2b2 i hi; constructor <;> simp [go_sem, zs0]), by first | exact qv2 | (simp; done) | (simp [qv2]; done) | (simp [go_sem, f2, f3, gb2, gb3, nb3_b2, gov2, tov2, nv2_b2, nb2_v2, nv2_b3, nb3_v2, gov3, tov3, nv3_v2, nv2_v3, nv3_b2, nb2_v3, nv3_b3, nb3_v3]; done), av3.same' (by simp [go_sem]; try omega) (fun i hi => by have zl := arrAt_lt av3 i hi; have zs0 := ev3b2 i hi; constructor <;> simp [go_sem, zs0]), by first | exact qv3 | (simp; done) | (simp [qv3]; done) | (simp [go_sem, f2, f3, gb2, gb3, nb3_b2, gov2, tov2, nv2_b2, nb2_v2, nv2_b3, nb3_v2, gov3, tov3, nv3_v2, nv2_v3, nv3_b2, nb2_v3, nv3_b3, nb3_v3]; done)⟩ <;> simp [go_sem, f2, f3, gb2, gb3, nb3_b2, gov2, tov2, nv2_b2, nb2_v2, nv2_b3, nb3_v2, gov3, tov3, nv3_v2, nv2_v3, nv3_b2, nb2_v3, nv3_b3, nb3_v3]
 clear f2 f3 hK hN gb2 ub2 gb3 ub3 av2 qv2 av3 qv3
 obtain ⟨f2, hK, hN, gb2, ub2, av2, qv2, av3, qv3⟩ := hm
 obtain rfl := Option.some.inj hoi3
 exact SW.ret ⟨AV.agg [v2, v3], by simp [go_sem, f2, gb2], ⟨v2, v3, rfl, av2, av3, (by first | exact ev2v3 | exact fun i h h' => ev3v2 i h' h)⟩, hK, hN⟩
theorem w_ref17_open (p : Graph) (r : (Morph)) (h : s_ref17_open p = some r) : PureA Tryz.prog 44 [AV.agg [intsA (p.nodes), e3sA (p.edges)]] (AV.agg [intsA (r.nodes), intsA (r.edges)]) := pureA_of_own' (O := O_ref17_open r) (fun σ0 => o_ref17_open p r h σ0) (by rintro n x τ ⟨v0_, v1_, hx, av0_, av1_, ev0_v1_⟩; rw [hx]; exact frz_aggL (frzL_c (av0_.frz (DataL.map (fun _ => .lit _) r.nodes)) (frzL_c (av1_.frz (DataL.map (fun _ => .lit _) r.edges)) (frzL_n))))
end Go.Proofs.YtdacgjleiloooaaGreat
