/-
  Plain functions and the walks that lead to them, by a program of ours (gen.py): scarfjoint/scarfjointref17.Check, scarfjoint/scarfjointref05.Copied, scarfjoint/scarfjointref17.Instance, scarfjoint/scarfjointref05.Same.
-/
import Derived.Test.YtdacgjleiloooaaGreatGd
import Derived.Test.YtdacgjleiloooaaGreatGT
import Derived.Test.YtdacgjleiloooaaGreatB3
import Derived.Test.YtdacgjleiloooaaGreatGa11
import Derived.Test.YtdacgjleiloooaaGreatGa20
import Derived.Test.YtdacgjleiloooaaGreatGa4
set_option linter.unusedSimpArgs false
set_option linter.unusedVariables false
namespace Go.Proofs.YtdacgjleiloooaaGreat
open Go Go.Ew Go.Proofs Go.RowKit
set_option maxRecDepth 100000
set_option maxHeartbeats 4000000 in
theorem w_ref17_Check (F : Nat) (t : Types) (p : Graph) (g : Graph) (m : Morph) (injective : Bool) (r : (Int)) (h : s_ref17_Check F t p g m injective = some r) : PureA Tryz.prog 22 [AV.agg [nodesA (t.nodes), edgesA (t.edges)], AV.agg [intsA (p.nodes), e3sA (p.edges)], AV.agg [intsA (g.nodes), e3sA (g.edges)], AV.agg [intsA (m.nodes), intsA (m.edges)], AV.bool (injective)] (AV.int (r)) := by
  refine pureA_of_SW (N := 25) Tryz.func22 (by kernel_rfl) rfl (by rw [Tryz.ntmps22]; rfl) (fun σ0 => ?_)
  rw [Tryz.results22]
  obtain ⟨fr0, hfr⟩ : ∃ fr, fr = initFr [AV.agg [nodesA (t.nodes), edgesA (t.edges)], AV.agg [intsA (p.nodes), e3sA (p.edges)], AV.agg [intsA (g.nodes), e3sA (g.edges)], AV.agg [intsA (m.nodes), intsA (m.edges)], AV.bool (injective)] := ⟨_, rfl⟩
  rw [← hfr]
  have f0 : fr0 0 = AV.agg [nodesA (t.nodes), edgesA (t.edges)] := by rw [hfr]; rfl
  have f1 : fr0 1 = AV.agg [intsA (p.nodes), e3sA (p.edges)] := by rw [hfr]; rfl
  have f2 : fr0 2 = AV.agg [intsA (g.nodes), e3sA (g.edges)] := by rw [hfr]; rfl
  have f3 : fr0 3 = AV.agg [intsA (m.nodes), intsA (m.edges)] := by rw [hfr]; rfl
  have f4 : fr0 4 = AV.bool (injective) := by rw [hfr]; rfl
  clear hfr
  simp only [s_ref17_Check] at h
  refine SW.seq ?_
  -- region 0
  refine SW.regX (fun f_ t_ => ∃ b5 : Nat, ∃ b6 : Nat, ∃ b7 : Nat, ∃ b8 : Nat, f_ 4 = AV.bool (injective) ∧ f_ 5 = AV.ptr b5 0 ∧ f_ 6 = AV.ptr b6 0 ∧ f_ 7 = AV.ptr b7 0 ∧ f_ 8 = AV.ptr b8 0 ∧ Kept σ0 t_ ∧ σ0.next ≤ t_.next ∧ t_.get b5 = some [nodesA (t.nodes), edgesA (t.edges)] ∧ b5 < t_.next ∧ t_.get b6 = some [intsA (p.nodes), e3sA (p.edges)] ∧ b6 < t_.next ∧ t_.get b7 = some [intsA (g.nodes), e3sA (g.edges)] ∧ b7 < t_.next ∧ t_.get b8 = some [intsA (m.nodes), intsA (m.edges)] ∧ b8 < t_.next ∧ σ0.next ≤ b5 ∧ σ0.next ≤ b6 ∧ ¬ b5 = b6 ∧ σ0.next ≤ b7 ∧ ¬ b5 = b7 ∧ ¬ b6 = b7 ∧ σ0.next ≤ b8 ∧ ¬ b5 = b8 ∧ ¬ b6 = b8 ∧ ¬ b7 = b8) (fun M hM => ?_) (fun fr1 τ hm => ?_)
  · simp [go_sem, f0, f1, f2, f3, f4]
    refine (hM _ _).2 ⟨σ0.next, (σ0.next + 1), (σ0.next + 2), (σ0.next + 3), ?_, ?_, ?_, ?_, ?_, by intro j hj; simp [go_sem, show ¬ j = σ0.next by omega, show ¬ j = σ0.next + 1 by omega, show ¬ j = σ0.next + 2 by omega, show ¬ j = σ0.next + 3 by omega], by first | omega | (simp [go_sem]; done) | (simp [go_sem]; omega), by simp (disch := omega) [get_alloc_ne, get_set_ne, get_kill_ne, go_sem, f0, f1, f2, f3, f4], by first | omega | (simp [go_sem]; done) | (simp [go_sem]; omega), by simp (disch := omega) [get_alloc_ne, get_set_ne, get_kill_ne, go_sem, f0, f1, f2, f3, f4], by first | omega | (simp [go_sem]; done) | (simp [go_sem]; omega), by simp (disch := omega) [get_alloc_ne, get_set_ne, get_kill_ne, go_sem, f0, f1, f2, f3, f4], by first | omega | (simp [go_sem]; done) | (simp [go_sem]; omega), by simp (disch := omega) [get_alloc_ne, get_set_ne, get_kill_ne, go_sem, f0, f1, f2, f3, f4], by first | omega | (simp [go_sem]; done) | (simp [go_sem]; omega), by omega, by omega, by omega, by omega, by omega, by omega, by omega, by omega, by omega, by omega⟩ <;> simp [go_sem, f0, f1, f2, f3, f4]
  clear f0 f1 f2 f3 f4
  obtain ⟨b5, b6, b7, b8, f4, f5, f6, f7, f8, hK, hN, gb5, ub5, gb6, ub6, gb7, ub7, gb8, ub8, wb5, wb6, eb5b6, wb7, eb5b7, eb6b7, wb8, eb5b8, eb6b8, eb7b8⟩ := hm
  refine SW.seq ?_
  refine SW.seq ?_
  -- region 1
  obtain ⟨n, hn, h⟩ := obind h
  refine SW.regX (fun f_ t_ => τ = t_ ∧ f_ 4 = AV.bool (injective) ∧ f_ 5 = AV.ptr b5 0 ∧ f_ 6 = AV.ptr b6 0 ∧ f_ 7 = AV.ptr b7 0 ∧ f_ 8 = AV.ptr b8 0 ∧ f_ 11 = AV.int (n)) (fun M hM => ?_) (fun fr2 τz hm => ?_)
  · simp [go_sem, f4, f5, f6, f7, f8, gb5, gb6, gb7, gb8]
    refine EWcall_pure (w_ref17_given F t p g _ hn) ?_
    simp [go_sem, f4, f5, f6, f7, f8, gb5, gb6, gb7, gb8]
    refine (hM _ _).2 ⟨rfl, ?_, ?_, ?_, ?_, ?_, ?_⟩ <;> simp [go_sem, f4, f5, f6, f7, f8, gb5, gb6, gb7, gb8]
  clear f4 f5 f6 f7 f8
  obtain ⟨rfl, f4, f5, f6, f7, f8, f11⟩ := hm
  refine SW.seq ?_
  -- region 2
  refine SW.regX (fun f_ t_ => τ = t_ ∧ f_ 4 = AV.bool (injective) ∧ f_ 5 = AV.ptr b5 0 ∧ f_ 6 = AV.ptr b6 0 ∧ f_ 7 = AV.ptr b7 0 ∧ f_ 8 = AV.ptr b8 0 ∧ f_ 11 = AV.int (n) ∧ f_ 17 = AV.bool ((!decide (n = 0)))) (fun M hM => ?_) (fun fr3 τz1 hm => ?_)
  · simp [go_sem, f11, f4, f5, f6, f7, f8, gb5, gb6, gb7, gb8]
    refine (hM _ _).2 ⟨rfl, ?_, ?_, ?_, ?_, ?_, ?_, ?_⟩ <;> simp [go_sem, f11, f4, f5, f6, f7, f8, gb5, gb6, gb7, gb8]
  clear f11 f4 f5 f6 f7 f8
  obtain ⟨rfl, f4, f5, f6, f7, f8, f11, f17⟩ := hm
  refine SW.cond _ f17 (fun hx => ?_) (fun hx => ?_)
  · have h := condT h hx
    refine SW.seq ?_
    -- region 3
    refine SW.regX (fun f_ t_ => τ = t_ ∧ f_ 10 = AV.int (n)) (fun M hM => ?_) (fun fr4 τz2 hm => ?_)
    · simp [go_sem, f11, f17, f4, f5, f6, f7, f8, gb5, gb6, gb7, gb8]
      refine (hM _ _).2 ⟨rfl, ?_⟩ <;> simp [go_sem, f11, f17, f4, f5, f6, f7, f8, gb5, gb6, gb7, gb8]
    clear f11 f17 f4 f5 f6 f7 f8
    obtain ⟨rfl, f10⟩ := hm
    obtain rfl := Option.some.inj h
    exact SW.ret ⟨AV.int (n), by simp [go_sem, f10], .lit _, hK.keeps⟩
  have h := condF h hx
  refine SW.skip ?_
  refine SW.seq ?_
  -- region 4
  obtain ⟨n1, hn1, h⟩ := obind h
  refine SW.regX (fun f_ t_ => τ = t_ ∧ f_ 10 = AV.int (n1)) (fun M hM => ?_) (fun fr5 τz3 hm => ?_)
  · simp [go_sem, f11, f17, f4, f5, f6, f7, f8, gb5, gb6, gb7, gb8]
    refine EWcall_pure (w_ref17_match F t p g m injective _ hn1) ?_
    simp [go_sem, f11, f17, f4, f5, f6, f7, f8, gb5, gb6, gb7, gb8]
    refine (hM _ _).2 ⟨rfl, ?_⟩ <;> simp [go_sem, f11, f17, f4, f5, f6, f7, f8, gb5, gb6, gb7, gb8]
  clear f11 f17 f4 f5 f6 f7 f8
  obtain ⟨rfl, f10⟩ := hm
  obtain rfl := Option.some.inj h
  exact SW.ret ⟨AV.int (n1), by simp [go_sem, f10], .lit _, hK.keeps⟩
def O_ref05_Copied (r : (Graph)) (n : Nat) (x : AV) (τ : Mem) : Prop := ∃ v0_ v1_ : AV, x = AV.agg [v0_, v1_] ∧ ArrAt n τ v0_ 3 (r.nodes.map AV.int) r.nodes.length 1 ∧ ArrAt n τ v1_ 77 (r.edges.flatMap e3C) r.edges.length 3 ∧ Apart v0_ v1_
set_option maxHeartbeats 4000000 in
theorem o_ref05_Copied (g : Graph) (r : (Graph)) (h : s_ref05_Copied g = some r) (σ0 : Mem) : CallA Tryz.prog 39 [AV.agg [intsA (g.nodes), e3sA (g.edges)]] σ0 (fun x τ => O_ref05_Copied r σ0.next x τ ∧ Kept σ0 τ ∧ σ0.next ≤ τ.next) := by
  refine callA_of_SW (N := 12) Tryz.func39 (by kernel_rfl) rfl (by rw [Tryz.ntmps39]; rfl) ?_
  rw [Tryz.results39]
  obtain ⟨fr0, hfr⟩ : ∃ fr, fr = initFr [AV.agg [intsA (g.nodes), e3sA (g.edges)]] := ⟨_, rfl⟩
  rw [← hfr]
  have f0 : fr0 0 = AV.agg [intsA (g.nodes), e3sA (g.edges)] := by rw [hfr]; rfl
  clear hfr
  simp only [s_ref05_Copied] at h
  refine SW.seq ?_
  -- region 0
  refine SW.regX (fun f_ t_ => ∃ b1 : Nat, ∃ b2 : Nat, f_ 1 = AV.ptr b1 0 ∧ f_ 2 = AV.ptr b2 0 ∧ Kept σ0 t_ ∧ σ0.next ≤ t_.next ∧ t_.get b1 = some [intsA (g.nodes), e3sA (g.edges)] ∧ b1 < t_.next ∧ t_.get b2 = some [AV.nils, AV.nils] ∧ b2 < t_.next ∧ σ0.next ≤ b1 ∧ σ0.next ≤ b2 ∧ ¬ b1 = b2) (fun M hM => ?_) (fun fr1 τ hm => ?_)
  · simp [go_sem, f0]
    refine (hM _ _).2 ⟨σ0.next, (σ0.next + 1), ?_, ?_, by intro j hj; simp [go_sem, show ¬ j = σ0.next by omega, show ¬ j = σ0.next + 1 by omega], by first | omega | (simp [go_sem]; done) | (simp [go_sem]; omega), by simp (disch := omega) [get_alloc_ne, get_set_ne, get_kill_ne, go_sem, f0], by first | omega | (simp [go_sem]; done) | (simp [go_sem]; omega), by simp (disch := omega) [get_alloc_ne, get_set_ne, get_kill_ne, go_sem, f0], by first | omega | (simp [go_sem]; done) | (simp [go_sem]; omega), by omega, by omega, by omega⟩ <;> simp [go_sem, f0]
  clear f0
  obtain ⟨b1, b2, f1, f2, hK, hN, gb1, ub1, gb2, ub2, wb1, wb2, eb1b2⟩ := hm
  refine SW.seq ?_
  -- region 1
  obtain ⟨a, ha, h⟩ := obind h
  obtain ⟨la, ea⟩ := catL_spec ha
  obtain ⟨a1, ha1, h⟩ := obind h
  obtain ⟨la1, ea1⟩ := catL_spec ha1
  refine SW.regX (fun f_ t_ => ∃ v : AV, ∃ v1 : AV, f_ 2 = AV.ptr b2 0 ∧ Kept σ0 t_ ∧ σ0.next ≤ t_.next ∧ t_.get b2 = some [v, v1] ∧ b2 < t_.next ∧ ArrAt σ0.next t_ v 3 (a.map AV.int) a.length 1 ∧ ArrAt σ0.next t_ v1 77 (a1.flatMap e3C) a1.length 3 ∧ (∀ i, idOf v = some i → ¬ i = b2) ∧ (∀ i, idOf v1 = some i → ¬ i = b2) ∧ Apart v v1) (fun M hM => ?_) (fun fr2 τ1 hm => ?_)
  · have nb1_0 : ¬ b1 = τ.next := by omega
    have nb1_1 : ¬ b1 = τ.next + 1 := by omega
    have nb1_2 : ¬ b1 = τ.next + 2 := by omega
    have nb1_3 : ¬ b1 = τ.next + 3 := by omega
    have nb2_0 : ¬ b2 = τ.next := by omega
    have nb2_1 : ¬ b2 = τ.next + 1 := by omega
    have nb2_2 : ¬ b2 = τ.next + 2 := by omega
    have nb2_3 : ¬ b2 = τ.next + 3 := by omega
    have nb1_b2 : ¬ b1 = b2 := by omega
    have nb2_b1 : ¬ b2 = b1 := by omega
    have ca_0 : g.nodes.length ≤ 9223372036854775807 := by have c_ := la; (try simp at c_); omega
    have ca_1 : g.nodes.length * 8 ≤ 140737488355328 := by have c_ := la; (try simp at c_); omega
    have La1 := length_flatMap (f := e3C) (sz := 3) (fun _ => rfl) g.edges
    have Ma1 := sum_len (f := e3C) (sz := 3) (fun _ => rfl) g.edges
    have ca1_0 : g.edges.length ≤ 9223372036854775807 := by have c_ := la1; (try simp at c_); omega
    have ca1_1 : g.edges.length * 24 ≤ 140737488355328 := by have c_ := la1; (try simp at c_); omega
    refine EW_regionY (τ.kill b2) 10 (.q false 1 (.q false 2 (.q false 5 (.q false 6 (.both (.s 0 (.both (.s 3 (.s 4 (.s 7 (.q false 8 (.s 9 .done))))) (.s 4 (.s 3 (.s 7 (.q false 8 (.s 9 .done))))))) (.s 4 (.s 0 (.s 3 (.s 7 (.q false 8 (.s 9 .done))))))))))) (by kernel_rfl) (by kernel_rfl) (sub_kill b2 (fun _ _ h => h)) (fun hfin => ?_)
    have m0_ : τ.get (τ.next) = none := hfin _ (by omega)
    have m1_ : τ.get (τ.next + 1) = none := hfin _ (by omega)
    have m2_ : τ.get (τ.next + 2) = none := hfin _ (by omega)
    have m3_ : τ.get (τ.next + 3) = none := hfin _ (by omega)
    have hsub : Sub (τ.kill b2) τ := (sub_kill b2 (fun _ _ h => h))
    simp (maxDischargeDepth := 12) [go_sem, f1, f2, gb1, gb2, nb1_0, nb1_1, nb1_2, nb1_3, nb2_0, nb2_1, nb2_2, nb2_3, nb1_b2, nb2_b1, ca_0, ca_1, La1, Ma1, ca1_0, ca1_1, m0_, m1_, m2_, m3_, sub_set, sub_killAll, hsub]
    refine ⟨?_, ?_⟩
    · refine ⟨?_, ?_⟩
      · refine (hM _ _).2 ⟨AV.arr (τ.next + 1) 0 a.length 1, AV.arr (τ.next + 3) 0 a1.length 3, ?_, by intro j hj; have hj_ := hK j hj; simp [go_sem, hj_.1, hj_.2, show ¬ j = τ.next by omega, show ¬ j = τ.next + 1 by omega, show ¬ j = τ.next + 2 by omega, show ¬ j = τ.next + 3 by omega, show ¬ j = b2 by omega], by first | omega | (simp [go_sem]; done) | (simp [go_sem]; omega), by simp (disch := omega) [get_alloc_ne, get_set_ne, get_kill_ne, go_sem, f1, f2, gb1, gb2, nb1_0, nb1_1, nb1_2, nb1_3, nb2_0, nb2_1, nb2_2, nb2_3, nb1_b2, nb2_b1, ca_0, ca_1, La1, Ma1, ca1_0, ca1_1, m0_, m1_, m2_, m3_, sub_set, sub_killAll, hsub, ea, ea1], by first | omega | (simp [go_sem]; done) | (simp [go_sem]; omega), .inr ⟨(τ.next + 1), rfl, by simp (disch := omega) [get_alloc_ne, get_set_ne, get_kill_ne, go_sem, f1, f2, gb1, gb2, nb1_0, nb1_1, nb1_2, nb1_3, nb2_0, nb2_1, nb2_2, nb2_3, nb1_b2, nb2_b1, ca_0, ca_1, La1, Ma1, ca1_0, ca1_1, m0_, m1_, m2_, m3_, sub_set, sub_killAll, hsub, ea, ea1], by simp [go_sem, f1, f2, gb1, gb2, nb1_0, nb1_1, nb1_2, nb1_3, nb2_0, nb2_1, nb2_2, nb2_3, nb1_b2, nb2_b1, ca_0, ca_1, La1, Ma1, ca1_0, ca1_1, m0_, m1_, m2_, m3_, sub_set, sub_killAll, hsub, ea, ea1], by omega, by first | (simp [go_sem]; done) | (simp [go_sem]; omega)⟩, .inr ⟨(τ.next + 3), rfl, by simp (disch := omega) [get_alloc_ne, get_set_ne, get_kill_ne, go_sem, f1, f2, gb1, gb2, nb1_0, nb1_1, nb1_2, nb1_3, nb2_0, nb2_1, nb2_2, nb2_3, nb1_b2, nb2_b1, ca_0, ca_1, La1, Ma1, ca1_0, ca1_1, m0_, m1_, m2_, m3_, sub_set, sub_killAll, hsub, ea, ea1, e3C], by simp [go_sem, f1, f2, gb1, gb2, nb1_0, nb1_1, nb1_2, nb1_3, nb2_0, nb2_1, nb2_2, nb2_3, nb1_b2, nb2_b1, ca_0, ca_1, La1, Ma1, ca1_0, ca1_1, m0_, m1_, m2_, m3_, sub_set, sub_killAll, hsub, ea, ea1], by omega, by first | (simp [go_sem]; done) | (simp [go_sem]; omega)⟩, by intro i hi; first | (simp [idOf] at hi; done) | (simp [idOf] at hi; omega), by intro i hi; first | (simp [idOf] at hi; done) | (simp [idOf] at hi; omega), by first | exact evv1 | exact apart_symm ev1v | (intro i h1 h2; simp [idOf] at h1; done) | (intro i h1 h2; simp [idOf] at h2; done) | (intro i h1 h2; simp [idOf] at h1; simp [idOf] at h2; omega)⟩ <;> simp [go_sem, f1, f2, gb1, gb2, nb1_0, nb1_1, nb1_2, nb1_3, nb2_0, nb2_1, nb2_2, nb2_3, nb1_b2, nb2_b1, ca_0, ca_1, La1, Ma1, ca1_0, ca1_1, m0_, m1_, m2_, m3_, sub_set, sub_killAll, hsub, ea, ea1]
      · refine (hM _ _).2 ⟨AV.arr (τ.next + 2) 0 a.length 1, AV.arr (τ.next + 3) 0 a1.length 3, ?_, by intro j hj; have hj_ := hK j hj; simp [go_sem, hj_.1, hj_.2, show ¬ j = τ.next by omega, show ¬ j = τ.next + 1 by omega, show ¬ j = τ.next + 2 by omega, show ¬ j = τ.next + 3 by omega, show ¬ j = b2 by omega], by first | omega | (simp [go_sem]; done) | (simp [go_sem]; omega), by simp (disch := omega) [get_alloc_ne, get_set_ne, get_kill_ne, go_sem, f1, f2, gb1, gb2, nb1_0, nb1_1, nb1_2, nb1_3, nb2_0, nb2_1, nb2_2, nb2_3, nb1_b2, nb2_b1, ca_0, ca_1, La1, Ma1, ca1_0, ca1_1, m0_, m1_, m2_, m3_, sub_set, sub_killAll, hsub, ea, ea1], by first | omega | (simp [go_sem]; done) | (simp [go_sem]; omega), .inr ⟨(τ.next + 2), rfl, by simp (disch := omega) [get_alloc_ne, get_set_ne, get_kill_ne, go_sem, f1, f2, gb1, gb2, nb1_0, nb1_1, nb1_2, nb1_3, nb2_0, nb2_1, nb2_2, nb2_3, nb1_b2, nb2_b1, ca_0, ca_1, La1, Ma1, ca1_0, ca1_1, m0_, m1_, m2_, m3_, sub_set, sub_killAll, hsub, ea, ea1], by simp [go_sem, f1, f2, gb1, gb2, nb1_0, nb1_1, nb1_2, nb1_3, nb2_0, nb2_1, nb2_2, nb2_3, nb1_b2, nb2_b1, ca_0, ca_1, La1, Ma1, ca1_0, ca1_1, m0_, m1_, m2_, m3_, sub_set, sub_killAll, hsub, ea, ea1], by omega, by first | (simp [go_sem]; done) | (simp [go_sem]; omega)⟩, .inr ⟨(τ.next + 3), rfl, by simp (disch := omega) [get_alloc_ne, get_set_ne, get_kill_ne, go_sem, f1, f2, gb1, gb2, nb1_0, nb1_1, nb1_2, nb1_3, nb2_0, nb2_1, nb2_2, nb2_3, nb1_b2, nb2_b1, ca_0, ca_1, La1, Ma1, ca1_0, ca1_1, m0_, m1_, m2_, m3_, sub_set, sub_killAll, hsub, ea, ea1, e3C], by simp [go_sem, f1, f2, gb1, gb2, nb1_0, nb1_1, nb1_2, nb1_3, nb2_0, nb2_1, nb2_2, nb2_3, nb1_b2, nb2_b1, ca_0, ca_1, La1, Ma1, ca1_0, ca1_1, m0_, m1_, m2_, m3_, sub_set, sub_killAll, hsub, ea, ea1], by omega, by first | (simp [go_sem]; done) | (simp [go_sem]; omega)⟩, by intro i hi; first | (simp [idOf] at hi; done) | (simp [idOf] at hi; omega), by intro i hi; first | (simp [idOf] at hi; done) | (simp [idOf] at hi; omega), by first | exact evv1 | exact apart_symm ev1v | (intro i h1 h2; simp [idOf] at h1; done) | (intro i h1 h2; simp [idOf] at h2; done) | (intro i h1 h2; simp [idOf] at h1; simp [idOf] at h2; omega)⟩ <;> simp [go_sem, f1, f2, gb1, gb2, nb1_0, nb1_1, nb1_2, nb1_3, nb2_0, nb2_1, nb2_2, nb2_3, nb1_b2, nb2_b1, ca_0, ca_1, La1, Ma1, ca1_0, ca1_1, m0_, m1_, m2_, m3_, sub_set, sub_killAll, hsub, ea, ea1]
    · refine (hM _ _).2 ⟨AV.arr (τ.next + 2) 0 a.length 1, AV.arr (τ.next + 3) 0 a1.length 3, ?_, by intro j hj; have hj_ := hK j hj; simp [go_sem, hj_.1, hj_.2, show ¬ j = τ.next by omega, show ¬ j = τ.next + 1 by omega, show ¬ j = τ.next + 2 by omega, show ¬ j = τ.next + 3 by omega, show ¬ j = b2 by omega], by first | omega | (simp [go_sem]; done) | (simp [go_sem]; omega), by simp (disch := omega) [get_alloc_ne, get_set_ne, get_kill_ne, go_sem, f1, f2, gb1, gb2, nb1_0, nb1_1, nb1_2, nb1_3, nb2_0, nb2_1, nb2_2, nb2_3, nb1_b2, nb2_b1, ca_0, ca_1, La1, Ma1, ca1_0, ca1_1, m0_, m1_, m2_, m3_, sub_set, sub_killAll, hsub, ea, ea1], by first | omega | (simp [go_sem]; done) | (simp [go_sem]; omega), .inr ⟨(τ.next + 2), rfl, by simp (disch := omega) [get_alloc_ne, get_set_ne, get_kill_ne, go_sem, f1, f2, gb1, gb2, nb1_0, nb1_1, nb1_2, nb1_3, nb2_0, nb2_1, nb2_2, nb2_3, nb1_b2, nb2_b1, ca_0, ca_1, La1, Ma1, ca1_0, ca1_1, m0_, m1_, m2_, m3_, sub_set, sub_killAll, hsub, ea, ea1], by simp [go_sem, f1, f2, gb1, gb2, nb1_0, nb1_1, nb1_2, nb1_3, nb2_0, nb2_1, nb2_2, nb2_3, nb1_b2, nb2_b1, ca_0, ca_1, La1, Ma1, ca1_0, ca1_1, m0_, m1_, m2_, m3_, sub_set, sub_killAll, hsub, ea, ea1], by omega, by first | (simp [go_sem]; done) | (simp [go_sem]; omega)⟩, .inr ⟨(τ.next + 3), rfl, by simp (disch := omega) [get_alloc_ne, get_set_ne, get_kill_ne, go_sem, f1, f2, gb1, gb2, nb1_0, nb1_1, nb1_2, nb1_3, nb2_0, nb2_1, nb2_2, nb2_3, nb1_b2, nb2_b1, ca_0, ca_1, La1, Ma1, ca1_0, ca1_1, m0_, m1_, m2_, m3_, sub_set, sub_killAll, hsub, ea, ea1, e3C], by simp [go_sem, f1, f2, gb1, gb2, nb1_0, nb1_1, nb1_2, nb1_3, nb2_0, nb2_1, nb2_2, nb2_3, nb1_b2, nb2_b1, ca_0, ca_1, La1, Ma1, ca1_0, ca1_1, m0_, m1_, m2_, m3_, sub_set, sub_killAll, hsub, ea, ea1], by omega, by first | (simp [go_sem]; done) | (simp [go_sem]; omega)⟩, by intro i hi; first | (simp [idOf] at hi; done) | (simp [idOf] at hi; omega), by intro i hi; first | (simp [idOf] at hi; done) | (simp [idOf] at hi; omega), by first | exact evv1 | exact apart_symm ev1v | (intro i h1 h2; simp [idOf] at h1; done) | (intro i h1 h2; simp [idOf] at h2; done) | (intro i h1 h2; simp [idOf] at h1; simp [idOf] at h2; omega)⟩ <;> simp [go_sem, f1, f2, gb1, gb2, nb1_0, nb1_1, nb1_2, nb1_3, nb2_0, nb2_1, nb2_2, nb2_3, nb1_b2, nb2_b1, ca_0, ca_1, La1, Ma1, ca1_0, ca1_1, m0_, m1_, m2_, m3_, sub_set, sub_killAll, hsub, ea, ea1]
  clear f1 f2 hK hN gb1 ub1 gb2 ub2
  obtain ⟨v, v1, f2, hK, hN, gb2, ub2, av, av1, evb2, ev1b2, evv1⟩ := hm
  obtain rfl := Option.some.inj h
  exact SW.ret ⟨AV.agg [v, v1], by simp [go_sem, f2, gb2], ⟨v, v1, rfl, av, av1, (by first | exact evv1 | exact fun i h h' => ev1v i h' h)⟩, hK, hN⟩
def O_ref17_Instance (r : (Graph × Int)) (n : Nat) (x : AV) (τ : Mem) : Prop := ∃ v0_ v1_ : AV, x = AV.tup [AV.agg [v0_, v1_], AV.int (r.2)] ∧ ArrAt n τ v0_ 3 (r.1.nodes.map AV.int) r.1.nodes.length 1 ∧ ArrAt n τ v1_ 77 (r.1.edges.flatMap e3C) r.1.edges.length 3 ∧ Apart v0_ v1_
set_option maxHeartbeats 4000000 in
theorem o_ref17_Instance (F : Nat) (t : Types) (p : Graph) (g : Graph) (m : Morph) (r : (Graph × Int)) (h : s_ref17_Instance F t p g m = some r) (σ0 : Mem) : CallA Tryz.prog 12 [AV.agg [nodesA (t.nodes), edgesA (t.edges)], AV.agg [intsA (p.nodes), e3sA (p.edges)], AV.agg [intsA (g.nodes), e3sA (g.edges)], AV.agg [intsA (m.nodes), intsA (m.edges)]] σ0 (fun x τ => O_ref17_Instance r σ0.next x τ ∧ Kept σ0 τ ∧ σ0.next ≤ τ.next) := by
  refine callA_of_SW (N := 45) Tryz.func12 (by kernel_rfl) rfl (by rw [Tryz.ntmps12]; rfl) ?_
  rw [Tryz.results12]
  obtain ⟨fr0, hfr⟩ : ∃ fr, fr = initFr [AV.agg [nodesA (t.nodes), edgesA (t.edges)], AV.agg [intsA (p.nodes), e3sA (p.edges)], AV.agg [intsA (g.nodes), e3sA (g.edges)], AV.agg [intsA (m.nodes), intsA (m.edges)]] := ⟨_, rfl⟩
  rw [← hfr]
  have f0 : fr0 0 = AV.agg [nodesA (t.nodes), edgesA (t.edges)] := by rw [hfr]; rfl
  have f1 : fr0 1 = AV.agg [intsA (p.nodes), e3sA (p.edges)] := by rw [hfr]; rfl
  have f2 : fr0 2 = AV.agg [intsA (g.nodes), e3sA (g.edges)] := by rw [hfr]; rfl
  have f3 : fr0 3 = AV.agg [intsA (m.nodes), intsA (m.edges)] := by rw [hfr]; rfl
  clear hfr
  simp only [s_ref17_Instance] at h
  refine SW.seq ?_
  -- region 0
  refine SW.regX (fun f_ t_ => ∃ b4 : Nat, ∃ b5 : Nat, ∃ b6 : Nat, ∃ b7 : Nat, ∃ b8 : Nat, f_ 4 = AV.ptr b4 0 ∧ f_ 5 = AV.ptr b5 0 ∧ f_ 6 = AV.ptr b6 0 ∧ f_ 7 = AV.ptr b7 0 ∧ f_ 8 = AV.ptr b8 0 ∧ Kept σ0 t_ ∧ σ0.next ≤ t_.next ∧ t_.get b4 = some [nodesA (t.nodes), edgesA (t.edges)] ∧ b4 < t_.next ∧ t_.get b5 = some [intsA (p.nodes), e3sA (p.edges)] ∧ b5 < t_.next ∧ t_.get b6 = some [intsA (g.nodes), e3sA (g.edges)] ∧ b6 < t_.next ∧ t_.get b7 = some [intsA (m.nodes), intsA (m.edges)] ∧ b7 < t_.next ∧ t_.get b8 = some [AV.nils, AV.nils] ∧ b8 < t_.next ∧ σ0.next ≤ b4 ∧ σ0.next ≤ b5 ∧ ¬ b4 = b5 ∧ σ0.next ≤ b6 ∧ ¬ b4 = b6 ∧ ¬ b5 = b6 ∧ σ0.next ≤ b7 ∧ ¬ b4 = b7 ∧ ¬ b5 = b7 ∧ ¬ b6 = b7 ∧ σ0.next ≤ b8 ∧ ¬ b4 = b8 ∧ ¬ b5 = b8 ∧ ¬ b6 = b8 ∧ ¬ b7 = b8) (fun M hM => ?_) (fun fr1 τ hm => ?_)
  · simp [go_sem, f0, f1, f2, f3]
    refine (hM _ _).2 ⟨σ0.next, (σ0.next + 1), (σ0.next + 2), (σ0.next + 3), (σ0.next + 4), ?_, ?_, ?_, ?_, ?_, by intro j hj; simp [go_sem, show ¬ j = σ0.next by omega, show ¬ j = σ0.next + 1 by omega, show ¬ j = σ0.next + 2 by omega, show ¬ j = σ0.next + 3 by omega, show ¬ j = σ0.next + 4 by omega], by first | omega | (simp [go_sem]; done) | (simp [go_sem]; omega), by simp (disch := omega) [get_alloc_ne, get_set_ne, get_kill_ne, go_sem, f0, f1, f2, f3], by first | omega | (simp [go_sem]; done) | (simp [go_sem]; omega), by simp (disch := omega) [get_alloc_ne, get_set_ne, get_kill_ne, go_sem, f0, f1, f2, f3], by first | omega | (simp [go_sem]; done) | (simp [go_sem]; omega), by simp (disch := omega) [get_alloc_ne, get_set_ne, get_kill_ne, go_sem, f0, f1, f2, f3], by first | omega | (simp [go_sem]; done) | (simp [go_sem]; omega), by simp (disch := omega) [get_alloc_ne, get_set_ne, get_kill_ne, go_sem, f0, f1, f2, f3], by first | omega | (simp [go_sem]; done) | (simp [go_sem]; omega), by simp (disch := omega) [get_alloc_ne, get_set_ne, get_kill_ne, go_sem, f0, f1, f2, f3], by first | omega | (simp [go_sem]; done) | (simp [go_sem]; omega), by omega, by omega, by omega, by omega, by omega, by omega, by omega, by omega, by omega, by omega, by omega, by omega, by omega, by omega, by omega⟩ <;> simp [go_sem, f0, f1, f2, f3]
  clear f0 f1 f2 f3
  obtain ⟨b4, b5, b6, b7, b8, f4, f5, f6, f7, f8, hK, hN, gb4, ub4, gb5, ub5, gb6, ub6, gb7, ub7, gb8, ub8, wb4, wb5, eb4b5, wb6, eb4b6, eb5b6, wb7, eb4b7, eb5b7, eb6b7, wb8, eb4b8, eb5b8, eb6b8, eb7b8⟩ := hm
  refine SW.seq ?_
  refine SW.seq ?_
  -- region 1
  obtain ⟨n, hn, h⟩ := obind h
  refine SW.regX (fun f_ t_ => τ = t_ ∧ f_ 5 = AV.ptr b5 0 ∧ f_ 6 = AV.ptr b6 0 ∧ f_ 7 = AV.ptr b7 0 ∧ f_ 8 = AV.ptr b8 0 ∧ f_ 10 = AV.int (n)) (fun M hM => ?_) (fun fr2 τz hm => ?_)
  · simp [go_sem, f4, f5, f6, f7, f8, gb4, gb5, gb6, gb7, gb8]
    refine EWcall_pure (w_ref17_Check F t p g m false _ hn) ?_
    simp [go_sem, f4, f5, f6, f7, f8, gb4, gb5, gb6, gb7, gb8]
    refine (hM _ _).2 ⟨rfl, ?_, ?_, ?_, ?_, ?_⟩ <;> simp [go_sem, f4, f5, f6, f7, f8, gb4, gb5, gb6, gb7, gb8]
  clear f4 f5 f6 f7 f8
  obtain ⟨rfl, f5, f6, f7, f8, f10⟩ := hm
  refine SW.seq ?_
  -- region 2
  refine SW.regX (fun f_ t_ => τ = t_ ∧ f_ 5 = AV.ptr b5 0 ∧ f_ 6 = AV.ptr b6 0 ∧ f_ 7 = AV.ptr b7 0 ∧ f_ 8 = AV.ptr b8 0 ∧ f_ 10 = AV.int (n) ∧ f_ 19 = AV.bool ((!decide (n = 0)))) (fun M hM => ?_) (fun fr3 τz1 hm => ?_)
  · simp [go_sem, f10, f5, f6, f7, f8, gb5, gb6, gb7, gb8]
    refine (hM _ _).2 ⟨rfl, ?_, ?_, ?_, ?_, ?_, ?_⟩ <;> simp [go_sem, f10, f5, f6, f7, f8, gb5, gb6, gb7, gb8]
  clear f10 f5 f6 f7 f8
  obtain ⟨rfl, f5, f6, f7, f8, f10, f19⟩ := hm
  refine SW.cond _ f19 (fun hx => ?_) (fun hx => ?_)
  · have h := condT h hx
    refine SW.seq ?_
    -- region 3
    refine SW.regX (fun f_ t_ => f_ 8 = AV.ptr b8 0 ∧ f_ 9 = AV.int (n) ∧ Kept σ0 t_ ∧ σ0.next ≤ t_.next ∧ t_.get b8 = some [AV.nils, AV.nils] ∧ b8 < t_.next) (fun M hM => ?_) (fun fr4 τ1 hm => ?_)
    · have nb5_b8 : ¬ b5 = b8 := by omega
      have nb6_b8 : ¬ b6 = b8 := by omega
      have nb7_b8 : ¬ b7 = b8 := by omega
      simp [go_sem, f10, f19, f5, f6, f7, f8, gb5, gb6, gb7, gb8, nb5_b8, nb6_b8, nb7_b8]
      refine (hM _ _).2 ⟨?_, ?_, by intro j hj; have hj_ := hK j hj; simp [go_sem, hj_.1, hj_.2, show ¬ j = b8 by omega], by first | omega | (simp [go_sem]; done) | (simp [go_sem]; omega), by simp (disch := omega) [get_alloc_ne, get_set_ne, get_kill_ne, go_sem, f10, f19, f5, f6, f7, f8, gb5, gb6, gb7, gb8, nb5_b8, nb6_b8, nb7_b8], by first | omega | (simp [go_sem]; done) | (simp [go_sem]; omega)⟩ <;> simp [go_sem, f10, f19, f5, f6, f7, f8, gb5, gb6, gb7, gb8, nb5_b8, nb6_b8, nb7_b8]
    clear f10 f19 f5 f6 f7 f8 hK hN gb5 ub5 gb6 ub6 gb7 ub7 gb8 ub8
    obtain ⟨f8, f9, hK, hN, gb8, ub8⟩ := hm
    obtain rfl := Option.some.inj h
    exact SW.ret ⟨AV.tup [AV.agg [AV.nils, AV.nils], AV.int (n)], by simp [go_sem, f8, f9, gb8], ⟨AV.nils, AV.nils, rfl, .inl ⟨rfl, rfl, rfl⟩, .inl ⟨rfl, rfl, rfl⟩, (fun i h => by cases h)⟩, hK, hN⟩
  have h := condF h hx
  refine SW.skip ?_
  refine SW.seq ?_
  -- region 4
  obtain ⟨rx, hrx, h⟩ := obind h
  refine SW.regX (fun f_ t_ => ∃ b11 : Nat, ∃ v2 : AV, ∃ v3 : AV, f_ 6 = AV.ptr b6 0 ∧ f_ 7 = AV.ptr b7 0 ∧ f_ 8 = AV.ptr b8 0 ∧ f_ 11 = AV.ptr b11 0 ∧ Kept σ0 t_ ∧ σ0.next ≤ t_.next ∧ t_.get b6 = some [intsA (g.nodes), e3sA (g.edges)] ∧ b6 < t_.next ∧ t_.get b7 = some [intsA (m.nodes), intsA (m.edges)] ∧ b7 < t_.next ∧ t_.get b8 = some [AV.nils, AV.nils] ∧ b8 < t_.next ∧ t_.get b11 = some [v2, v3] ∧ b11 < t_.next ∧ ArrAt σ0.next t_ v2 3 (rx.nodes.map AV.int) rx.nodes.length 1 ∧ ArrAt σ0.next t_ v3 77 (rx.edges.flatMap e3C) rx.edges.length 3 ∧ (∀ i, idOf v2 = some i → ¬ i = b6) ∧ (∀ i, idOf v3 = some i → ¬ i = b6) ∧ (∀ i, idOf v2 = some i → ¬ i = b7) ∧ (∀ i, idOf v3 = some i → ¬ i = b7) ∧ (∀ i, idOf v2 = some i → ¬ i = b8) ∧ (∀ i, idOf v3 = some i → ¬ i = b8) ∧ σ0.next ≤ b11 ∧ ¬ b6 = b11 ∧ ¬ b7 = b11 ∧ ¬ b8 = b11 ∧ (∀ i, idOf v2 = some i → ¬ i = b11) ∧ (∀ i, idOf v3 = some i → ¬ i = b11) ∧ Apart v2 v3) (fun M hM => ?_) (fun fr5 τ2 hm => ?_)
  · simp [go_sem, f10, f19, f5, f6, f7, f8, gb5, gb6, gb7, gb8]
    refine EWcall_of (o_ref05_Copied p _ hrx _) ?_
    rintro xq τc ⟨⟨v, v1, hxq, av, av1, evv1⟩, kc, nc⟩
    obtain rfl := hxq.symm
    have hK := hK.trans kc hN
    have hN := Nat.le_trans hN nc
    have evb5 : ∀ i, idOf v = some i → ¬ i = b5 := fun i hi => by have := arrAt_lt av i hi; omega
    have evb6 : ∀ i, idOf v = some i → ¬ i = b6 := fun i hi => by have := arrAt_lt av i hi; omega
    have evb7 : ∀ i, idOf v = some i → ¬ i = b7 := fun i hi => by have := arrAt_lt av i hi; omega
    have evb8 : ∀ i, idOf v = some i → ¬ i = b8 := fun i hi => by have := arrAt_lt av i hi; omega
    have ev1b5 : ∀ i, idOf v1 = some i → ¬ i = b5 := fun i hi => by have := arrAt_lt av1 i hi; omega
    have ev1b6 : ∀ i, idOf v1 = some i → ¬ i = b6 := fun i hi => by have := arrAt_lt av1 i hi; omega
    have ev1b7 : ∀ i, idOf v1 = some i → ¬ i = b7 := fun i hi => by have := arrAt_lt av1 i hi; omega
    have ev1b8 : ∀ i, idOf v1 = some i → ¬ i = b8 := fun i hi => by have := arrAt_lt av1 i hi; omega
    have av := av.lo (n1 := σ0.next) (by omega)
    have av1 := av1.lo (n1 := σ0.next) (by omega)
    have gb5 := (kc b5 ub5).1.trans gb5
    have ub5 := Nat.lt_of_lt_of_le ub5 nc
    have gb6 := (kc b6 ub6).1.trans gb6
    have ub6 := Nat.lt_of_lt_of_le ub6 nc
    have gb7 := (kc b7 ub7).1.trans gb7
    have ub7 := Nat.lt_of_lt_of_le ub7 nc
    have gb8 := (kc b8 ub8).1.trans gb8
    have ub8 := Nat.lt_of_lt_of_le ub8 nc
    have nb5_0 : ¬ b5 = τc.next := by omega
    have nb6_0 : ¬ b6 = τc.next := by omega
    have nb7_0 : ¬ b7 = τc.next := by omega
    have nb8_0 : ¬ b8 = τc.next := by omega
    simp [go_sem, f10, f19, f5, f6, f7, f8, gb5, gb6, gb7, gb8]
    refine (hM _ _).2 ⟨τc.next, v, v1, ?_, ?_, ?_, ?_, by intro j hj; have hj_ := hK j hj; simp [go_sem, hj_.1, hj_.2, show ¬ j = τc.next by omega], by first | omega | (simp [go_sem]; done) | (simp [go_sem]; omega), by simp (disch := omega) [get_alloc_ne, get_set_ne, get_kill_ne, go_sem, f10, f19, f5, f6, f7, f8, gb5, gb6, gb7, gb8], by first | omega | (simp [go_sem]; done) | (simp [go_sem]; omega), by simp (disch := omega) [get_alloc_ne, get_set_ne, get_kill_ne, go_sem, f10, f19, f5, f6, f7, f8, gb5, gb6, gb7, gb8], by first | omega | (simp [go_sem]; done) | (simp [go_sem]; omega), by simp (disch := omega) [get_alloc_ne, get_set_ne, get_kill_ne, go_sem, f10, f19, f5, f6, f7, f8, gb5, gb6, gb7, gb8], by first | omega | (simp [go_sem]; done) | (simp [go_sem]; omega), by simp (disch := omega) [get_alloc_ne, get_set_ne, get_kill_ne, go_sem, f10, f19, f5, f6, f7, f8, gb5, gb6, gb7, gb8], by first | omega | (simp [go_sem]; done) | (simp [go_sem]; omega), av.same' (by simp [go_sem]; try omega) (fun i hi => by have zl := arrAt_lt av i hi; have zi0 : ¬ i = τc.next := (by omega); constructor <;> simp [go_sem, zi0]), av1.same' (by simp [go_sem]; try omega) (fun i hi => by have zl := arrAt_lt av1 i hi; have zi0 : ¬ i = τc.next := (by omega); constructor <;> simp [go_sem, zi0]), by first | exact evb6 | (intro i hi; have := arrAt_lt av i hi; omega), by first | exact ev1b6 | (intro i hi; have := arrAt_lt av1 i hi; omega), by first | exact evb7 | (intro i hi; have := arrAt_lt av i hi; omega), by first | exact ev1b7 | (intro i hi; have := arrAt_lt av1 i hi; omega), by first | exact evb8 | (intro i hi; have := arrAt_lt av i hi; omega), by first | exact ev1b8 | (intro i hi; have := arrAt_lt av1 i hi; omega), by omega, by omega, by omega, by omega, by first | exact evb11 | (intro i hi; have := arrAt_lt av i hi; omega), by first | exact ev1b11 | (intro i hi; have := arrAt_lt av1 i hi; omega), by first | exact evv1 | exact apart_symm ev1v | (intro i h1 h2; simp [idOf] at h1; done) | (intro i h1 h2; simp [idOf] at h2; done) | (intro i h1 h2; have := arrAt_lt av i h1; have := arrAt_lt av1 i h2; omega)⟩ <;> simp [go_sem, f10, f19, f5, f6, f7, f8, gb5, gb6, gb7, gb8]
  clear f10 f19 f5 f6 f7 f8 hK hN gb5 ub5 gb6 ub6 gb7 ub7 gb8 ub8
  obtain ⟨b11, v2, v3, f6, f7, f8, f11, hK, hN, gb6, ub6, gb7, ub7, gb8, ub8, gb11, ub11, av2, av3, ev2b6, ev3b6, ev2b7, ev3b7, ev2b8, ev3b8, wb11, eb6b11, eb7b11, eb8b11, ev2b11, ev3b11, ev2v3⟩ := hm
  refine SW.seq ?_
  refine SW.seq ?_
  -- region 5
  refine SW.regX (fun f_ t_ => τ2 = t_ ∧ f_ 6 = AV.ptr b6 0 ∧ f_ 7 = AV.ptr b7 0 ∧ f_ 8 = AV.ptr b8 0 ∧ f_ 11 = AV.ptr b11 0 ∧ f_ 12 = AV.int (0)) (fun M hM => ?_) (fun fr6 τz2 hm => ?_)
  · simp [go_sem, f11, f6, f7, f8, gb6, gb7, gb8, gb11]
    refine (hM _ _).2 ⟨rfl, ?_, ?_, ?_, ?_, ?_⟩ <;> simp [go_sem, f11, f6, f7, f8, gb6, gb7, gb8, gb11]
  clear f11 f6 f7 f8
  obtain ⟨rfl, f6, f7, f8, f11, f12⟩ := hm
  obtain ⟨oi1, hruni1, hoi1⟩ := obind h
  refine SW.lenBA b11 0 gb11 rfl av2 (fun hbigi1 => ?_)
  obtain ⟨KL, hKL⟩ : ∃ KL : Fr → Mem → Prop, ∀ fr' τ', KL fr' τ' ↔ (∃ x : List Int, ∃ v4 : AV, oi1 = .done x ∧ fr' 8 = AV.ptr b8 0 ∧ fr' 11 = AV.ptr b11 0 ∧ Kept σ0 τ' ∧ σ0.next ≤ τ'.next ∧ τ'.get b8 = some [AV.nils, AV.nils] ∧ b8 < τ'.next ∧ τ'.get b11 = some [v4, v3] ∧ b11 < τ'.next ∧ ArrAt σ0.next τ' v4 3 (x.map AV.int) x.length 1 ∧ x.length = rx.nodes.length ∧ ArrAt σ0.next τ' v3 77 (rx.edges.flatMap e3C) rx.edges.length 3 ∧ (∀ i, idOf v4 = some i → ¬ i = b8) ∧ (∀ i, idOf v4 = some i → ¬ i = b11) ∧ Apart v4 v3) := ⟨_, fun _ _ => Iff.rfl⟩
  refine SW.cut KL ?_ ?_
  · refine SW.block ?_
    obtain ⟨J, hJ⟩ : ∃ J : Nat → Fr → Mem → Prop, ∀ m_ fr' τ', J m_ fr' τ' ↔ (∃ i : Nat, ∃ x : List Int, ∃ v4 : AV, m_ = rx.nodes.length - i ∧ forN (b1_ref17_Instance g m) (rx.nodes.length - i) i x = some oi1 ∧ fr' 6 = AV.ptr b6 0 ∧ fr' 7 = AV.ptr b7 0 ∧ fr' 8 = AV.ptr b8 0 ∧ fr' 11 = AV.ptr b11 0 ∧ fr' 12 = AV.int (((i : Nat) : Int)) ∧ Kept σ0 τ' ∧ σ0.next ≤ τ'.next ∧ τ'.get b6 = some [intsA (g.nodes), e3sA (g.edges)] ∧ b6 < τ'.next ∧ τ'.get b7 = some [intsA (m.nodes), intsA (m.edges)] ∧ b7 < τ'.next ∧ τ'.get b8 = some [AV.nils, AV.nils] ∧ b8 < τ'.next ∧ τ'.get b11 = some [v4, v3] ∧ b11 < τ'.next ∧ ArrAt σ0.next τ' v4 3 (x.map AV.int) x.length 1 ∧ x.length = rx.nodes.length ∧ ArrAt σ0.next τ' v3 77 (rx.edges.flatMap e3C) rx.edges.length 3 ∧ (∀ i, idOf v4 = some i → ¬ i = b6) ∧ (∀ i, idOf v4 = some i → ¬ i = b7) ∧ (∀ i, idOf v4 = some i → ¬ i = b8) ∧ (∀ i, idOf v4 = some i → ¬ i = b11) ∧ Apart v4 v3) := ⟨_, fun _ _ _ => Iff.rfl⟩
    refine SW.loop J (rx.nodes.length - 0) ((hJ _ _ _).2 ⟨0, rx.nodes, v2, rfl, hruni1, f6, f7, f8, f11, f12, hK, hN, gb6, ub6, gb7, ub7, gb8, ub8, gb11, ub11, av2, rfl, av3, ev2b6, ev2b7, ev2b8, ev2b11, (by first | exact ev2v3 | exact fun i h h' => ev3v2 i h' h)⟩) ?_
    clear hruni1
    intro m_ fr7 τ3 hm
    rw [hJ] at hm
    clear f11 f12 f6 f7 f8 hK hN gb6 ub6 gb7 ub7 gb8 ub8 gb11 ub11 av2 av3
    obtain ⟨i, x, v4, rfl, hruni1, f6, f7, f8, f11, f12, hK, hN, gb6, ub6, gb7, ub7, gb8, ub8, gb11, ub11, av4, qv4, av3, ev4b6, ev4b7, ev4b8, ev4b11, ev4v3⟩ := hm
    refine SW.seq ?_
    refine SW.seq ?_
    -- region 6
    refine SW.regX (fun f_ t_ => τ3 = t_ ∧ f_ 6 = AV.ptr b6 0 ∧ f_ 7 = AV.ptr b7 0 ∧ f_ 8 = AV.ptr b8 0 ∧ f_ 11 = AV.ptr b11 0 ∧ f_ 12 = AV.int (((i : Nat) : Int)) ∧ f_ 28 = AV.bool ((decide (i < x.length)))) (fun M hM => ?_) (fun fr8 τz3 hm => ?_)
    · have zv4 := av4
      rcases zv4 with ⟨rfl, nv4, mv4⟩ | ⟨ov4, rfl, gov4, tov4, lov4, hiv4⟩
      · simp [go_sem, f11, f12, f6, f7, f8, gb6, gb7, gb8, gb11, nv4, mv4]
        refine (hM _ _).2 ⟨rfl, ?_, ?_, ?_, ?_, ?_, ?_⟩ <;> simp [go_sem, f11, f12, f6, f7, f8, gb6, gb7, gb8, gb11, nv4, mv4]
      · simp [go_sem, f11, f12, f6, f7, f8, gb6, gb7, gb8, gb11, gov4, tov4]
        refine (hM _ _).2 ⟨rfl, ?_, ?_, ?_, ?_, ?_, ?_⟩ <;> simp [go_sem, f11, f12, f6, f7, f8, gb6, gb7, gb8, gb11, gov4, tov4]
    clear f11 f12 f6 f7 f8
    obtain ⟨rfl, f6, f7, f8, f11, f12, f28⟩ := hm
    refine SW.cond _ f28 (fun hx1 => ?_) (fun hx1 => ?_)
    rotate_left
    · have hk : ¬ i < rx.nodes.length := by have := of_decide_eq_false hx1; omega
      refine SW.exit rfl ?_
      exact SW.goal ((hKL _ _).2 ⟨x, v4, forN_end hruni1 hk, f8, f11, hK, hN, gb8, ub8, gb11, ub11, av4, qv4, av3, ev4b8, ev4b11, (by first | exact ev4v3 | exact fun i h h' => ev3v4 i h' h)⟩)
    have hki : i < rx.nodes.length := by have := of_decide_eq_true hx1; omega
    have hwi : IntKind.i64.wrap ((i : Int) + 1) = ((i + 1 : Nat) : Int) := by rw [wrap64_of _ (by omega) (by omega)]; rfl
    obtain ⟨ci1, hbi1, hci1⟩ := forN_step hruni1 hki
    simp only [b1_ref17_Instance] at hbi1
    refine SW.skip ?_
    refine SW.seq ?_
    refine SW.block ?_
    -- region 8
    obtain ⟨n1, hn1, hbi1⟩ := obind hbi1
    have xln1 := getN_lt hn1
    have xdn1 := getN_map AV.int hn1
    obtain ⟨n2, hn2, hbi1⟩ := obind hbi1
    have xpn2 := getI_pos hn2
    have xln2 := getI_lt hn2
    have xin2 := getI_N hn2
    have xdn2 := getN_map AV.int xin2
    obtain ⟨n3, hn3, hbi1⟩ := obind hbi1
    have xln3 := getN_lt hn3
    have xdn3 := getN_map AV.int hn3
    have xon3 : (x.map AV.int).length = x.length * 1 := by simp
    have st13 := set_map AV.int n2 x i xln3
    have sust13 : i + 1 ≤ x.length := by have := xln3; omega
    refine SW.regX (fun f_ t_ => f_ 6 = AV.ptr b6 0 ∧ f_ 7 = AV.ptr b7 0 ∧ f_ 8 = AV.ptr b8 0 ∧ f_ 11 = AV.ptr b11 0 ∧ f_ 12 = AV.int (((i : Nat) : Int)) ∧ Kept σ0 t_ ∧ σ0.next ≤ t_.next ∧ t_.get b6 = some [intsA (g.nodes), e3sA (g.edges)] ∧ b6 < t_.next ∧ t_.get b7 = some [intsA (m.nodes), intsA (m.edges)] ∧ b7 < t_.next ∧ t_.get b8 = some [AV.nils, AV.nils] ∧ b8 < t_.next ∧ t_.get b11 = some [v4, v3] ∧ b11 < t_.next ∧ ArrAt σ0.next t_ v4 3 (((x.set i n2)).map AV.int) ((x.set i n2)).length 1 ∧ ((x.set i n2)).length = rx.nodes.length ∧ ArrAt σ0.next t_ v3 77 (rx.edges.flatMap e3C) rx.edges.length 3) (fun M hM => ?_) (fun fr9 τ4 hm => ?_)
    · have nb6_b7 : ¬ b6 = b7 := by omega
      have nb6_b8 : ¬ b6 = b8 := by omega
      have nb6_b11 : ¬ b6 = b11 := by omega
      have nb7_b6 : ¬ b7 = b6 := by omega
      have nb7_b8 : ¬ b7 = b8 := by omega
      have nb7_b11 : ¬ b7 = b11 := by omega
      have nb8_b6 : ¬ b8 = b6 := by omega
      have nb8_b7 : ¬ b8 = b7 := by omega
      have nb8_b11 : ¬ b8 = b11 := by omega
      have nb11_b6 : ¬ b11 = b6 := by omega
      have nb11_b7 : ¬ b11 = b7 := by omega
      have nb11_b8 : ¬ b11 = b8 := by omega
      have zv4 := av4
      rcases zv4 with ⟨rfl, nv4, mv4⟩ | ⟨ov4, rfl, gov4, tov4, lov4, hiv4⟩
      · exfalso; omega
      · have nv4_b6 : ¬ ov4 = b6 := ev4b6 _ rfl
        have nb6_v4 : ¬ b6 = ov4 := fun e => ev4b6 _ rfl e.symm
        have nv4_b7 : ¬ ov4 = b7 := ev4b7 _ rfl
        have nb7_v4 : ¬ b7 = ov4 := fun e => ev4b7 _ rfl e.symm
        have nv4_b8 : ¬ ov4 = b8 := ev4b8 _ rfl
        have nb8_v4 : ¬ b8 = ov4 := fun e => ev4b8 _ rfl e.symm
        have nv4_b11 : ¬ ov4 = b11 := ev4b11 _ rfl
        have nb11_v4 : ¬ b11 = ov4 := fun e => ev4b11 _ rfl e.symm
        refine EW_regionY (τ3.kill ov4) 14 (.q false 0 (.q false 1 (.q false 2 (.q false 3 (.q false 4 (.q false 5 (.q false 6 (.q false 7 (.q false 8 (.q false 9 (.q false 10 (.q false 11 (.q false 12 (.s 13 .done)))))))))))))) (by kernel_rfl) (by kernel_rfl) (sub_kill ov4 (fun _ _ h => h)) (fun hfin => ?_)
        have hsub : Sub (τ3.kill ov4) τ3 := (sub_kill ov4 (fun _ _ h => h))
        simp (maxDischargeDepth := 12) [go_sem, f11, f12, f28, f6, f7, f8, gb6, gb7, gb8, gb11, xln1, xdn1, xpn2, xln2, xdn2, xln3, xdn3, xon3, sust13, st13, nb6_b7, nb6_b8, nb6_b11, nb7_b6, nb7_b8, nb7_b11, nb8_b6, nb8_b7, nb8_b11, nb11_b6, nb11_b7, nb11_b8, gov4, tov4, nv4_b6, nb6_v4, nv4_b7, nb7_v4, nv4_b8, nb8_v4, nv4_b11, nb11_v4, sub_set, sub_killAll, hsub]
        refine (hM _ _).2 ⟨?_, ?_, ?_, ?_, ?_, by intro j hj; have hj_ := hK j hj; simp [go_sem, hj_.1, hj_.2, show ¬ j = ov4 by omega], by first | omega | (simp [go_sem]; done) | (simp [go_sem]; omega), by simp (disch := omega) [get_alloc_ne, get_set_ne, get_kill_ne, go_sem, f11, f12, f28, f6, f7, f8, gb6, gb7, gb8, gb11, xln1, xdn1, xpn2, xln2, xdn2, xln3, xdn3, xon3, sust13, st13, nb6_b7, nb6_b8, nb6_b11, nb7_b6, nb7_b8, nb7_b11, nb8_b6, nb8_b7, nb8_b11, nb11_b6, nb11_b7, nb11_b8, gov4, tov4, nv4_b6, nb6_v4, nv4_b7, nb7_v4, nv4_b8, nb8_v4, nv4_b11, nb11_v4, sub_set, sub_killAll, hsub], by first | omega | (simp [go_sem]; done) | (simp [go_sem]; omega), by simp (disch := omega) [get_alloc_ne, get_set_ne, get_kill_ne, go_sem, f11, f12, f28, f6, f7, f8, gb6, gb7, gb8, gb11, xln1, xdn1, xpn2, xln2, xdn2, xln3, xdn3, xon3, sust13, st13, nb6_b7, nb6_b8, nb6_b11, nb7_b6, nb7_b8, nb7_b11, nb8_b6, nb8_b7, nb8_b11, nb11_b6, nb11_b7, nb11_b8, gov4, tov4, nv4_b6, nb6_v4, nv4_b7, nb7_v4, nv4_b8, nb8_v4, nv4_b11, nb11_v4, sub_set, sub_killAll, hsub], by first | omega | (simp [go_sem]; done) | (simp [go_sem]; omega), by simp (disch := omega) [get_alloc_ne, get_set_ne, get_kill_ne, go_sem, f11, f12, f28, f6, f7, f8, gb6, gb7, gb8, gb11, xln1, xdn1, xpn2, xln2, xdn2, xln3, xdn3, xon3, sust13, st13, nb6_b7, nb6_b8, nb6_b11, nb7_b6, nb7_b8, nb7_b11, nb8_b6, nb8_b7, nb8_b11, nb11_b6, nb11_b7, nb11_b8, gov4, tov4, nv4_b6, nb6_v4, nv4_b7, nb7_v4, nv4_b8, nb8_v4, nv4_b11, nb11_v4, sub_set, sub_killAll, hsub], by first | omega | (simp [go_sem]; done) | (simp [go_sem]; omega), by simp (disch := omega) [get_alloc_ne, get_set_ne, get_kill_ne, go_sem, f11, f12, f28, f6, f7, f8, gb6, gb7, gb8, gb11, xln1, xdn1, xpn2, xln2, xdn2, xln3, xdn3, xon3, sust13, st13, nb6_b7, nb6_b8, nb6_b11, nb7_b6, nb7_b8, nb7_b11, nb8_b6, nb8_b7, nb8_b11, nb11_b6, nb11_b7, nb11_b8, gov4, tov4, nv4_b6, nb6_v4, nv4_b7, nb7_v4, nv4_b8, nb8_v4, nv4_b11, nb11_v4, sub_set, sub_killAll, hsub], by first | omega | (simp [go_sem]; done) | (simp [go_sem]; omega), .inr ⟨ov4, by simp, by simp (disch := omega) [get_alloc_ne, get_set_ne, get_kill_ne, go_sem, f11, f12, f28, f6, f7, f8, gb6, gb7, gb8, gb11, xln1, xdn1, xpn2, xln2, xdn2, xln3, xdn3, xon3, sust13, st13, nb6_b7, nb6_b8, nb6_b11, nb7_b6, nb7_b8, nb7_b11, nb8_b6, nb8_b7, nb8_b11, nb11_b6, nb11_b7, nb11_b8, gov4, tov4, nv4_b6, nb6_v4, nv4_b7, nb7_v4, nv4_b8, nb8_v4, nv4_b11, nb11_v4, sub_set, sub_killAll, hsub], by simp (disch := omega) [go_sem, f11, f12, f28, f6, f7, f8, gb6, gb7, gb8, gb11, xln1, xdn1, xpn2, xln2, xdn2, xln3, xdn3, xon3, sust13, st13, nb6_b7, nb6_b8, nb6_b11, nb7_b6, nb7_b8, nb7_b11, nb8_b6, nb8_b7, nb8_b11, nb11_b6, nb11_b7, nb11_b8, gov4, tov4, nv4_b6, nb6_v4, nv4_b7, nb7_v4, nv4_b8, nb8_v4, nv4_b11, nb11_v4, sub_set, sub_killAll, hsub], lov4, by first | omega | (simp [go_sem]; done) | (simp [go_sem]; omega)⟩, by first | exact qv4 | (simp; done) | (simp [qv4]; done) | (simp [go_sem, f11, f12, f28, f6, f7, f8, gb6, gb7, gb8, gb11, xln1, xdn1, xpn2, xln2, xdn2, xln3, xdn3, xon3, sust13, st13, nb6_b7, nb6_b8, nb6_b11, nb7_b6, nb7_b8, nb7_b11, nb8_b6, nb8_b7, nb8_b11, nb11_b6, nb11_b7, nb11_b8, gov4, tov4, nv4_b6, nb6_v4, nv4_b7, nb7_v4, nv4_b8, nb8_v4, nv4_b11, nb11_v4, sub_set, sub_killAll, hsub]; done), av3.same' (by simp [go_sem]; try omega) (fun i hi => by have zl := arrAt_lt av3 i hi; have ze0 := apart_ne (by first | exact ev4v3 | exact apart_symm ev3v4) hi; constructor <;> simp [go_sem, ze0])⟩ <;> simp [go_sem, f11, f12, f28, f6, f7, f8, gb6, gb7, gb8, gb11, xln1, xdn1, xpn2, xln2, xdn2, xln3, xdn3, xon3, sust13, st13, nb6_b7, nb6_b8, nb6_b11, nb7_b6, nb7_b8, nb7_b11, nb8_b6, nb8_b7, nb8_b11, nb11_b6, nb11_b7, nb11_b8, gov4, tov4, nv4_b6, nb6_v4, nv4_b7, nb7_v4, nv4_b8, nb8_v4, nv4_b11, nb11_v4, sub_set, sub_killAll, hsub]
    clear f11 f12 f28 f6 f7 f8 hK hN gb6 ub6 gb7 ub7 gb8 ub8 gb11 ub11 av4 qv4 av3
    obtain ⟨f6, f7, f8, f11, f12, hK, hN, gb6, ub6, gb7, ub7, gb8, ub8, gb11, ub11, av4, qv4, av3⟩ := hm
    refine SW.blk ?_
    -- region 7
    refine SW.regX (fun f_ t_ => τ4 = t_ ∧ f_ 6 = AV.ptr b6 0 ∧ f_ 7 = AV.ptr b7 0 ∧ f_ 8 = AV.ptr b8 0 ∧ f_ 11 = AV.ptr b11 0 ∧ f_ 12 = AV.int (((i + 1 : Nat) : Int))) (fun M hM => ?_) (fun fr10 τz4 hm => ?_)
    · simp [go_sem, f11, f12, f6, f7, f8, gb6, gb7, gb8, gb11, hwi]
      refine (hM _ _).2 ⟨rfl, ?_, ?_, ?_, ?_, ?_⟩ <;> simp [go_sem, f11, f12, f6, f7, f8, gb6, gb7, gb8, gb11, hwi]
    clear f11 f12 f6 f7 f8
    obtain ⟨rfl, f6, f7, f8, f11, f12⟩ := hm
    obtain rfl := Option.some.inj hbi1
    exact SW.goal ⟨rx.nodes.length - (i + 1), by omega, (hJ _ _ _).2 ⟨i + 1, (x.set i n2), v4, rfl, hci1, f6, f7, f8, f11, f12, hK, hN, gb6, ub6, gb7, ub7, gb8, ub8, gb11, ub11, av4, qv4, av3, ev4b6, ev4b7, ev4b8, ev4b11, (by first | exact ev4v3 | exact fun i h h' => ev3v4 i h' h)⟩⟩
  intro fr11 τ5 hm
  rw [hKL] at hm
  clear hKL hruni1
  clear f11 f12 f6 f7 f8 hK hN gb6 ub6 gb7 ub7 gb8 ub8 gb11 ub11 av2 av3
  obtain ⟨x, v4, rfl, f8, f11, hK, hN, gb8, ub8, gb11, ub11, av4, qv4, av3, ev4b8, ev4b11, ev4v3⟩ := hm
  simp only [Out.on] at hoi1
  refine SW.seq ?_
  -- region 9
  refine SW.regX (fun f_ t_ => f_ 8 = AV.ptr b8 0 ∧ f_ 9 = AV.int (0) ∧ Kept σ0 t_ ∧ σ0.next ≤ t_.next ∧ t_.get b8 = some [v4, v3] ∧ b8 < t_.next ∧ ArrAt σ0.next t_ v4 3 (x.map AV.int) x.length 1 ∧ x.length = rx.nodes.length ∧ ArrAt σ0.next t_ v3 77 (rx.edges.flatMap e3C) rx.edges.length 3) (fun M hM => ?_) (fun fr12 τ6 hm => ?_)
  · have nb11_b8 : ¬ b11 = b8 := by omega
    have zv4 := av4
    rcases zv4 with ⟨rfl, nv4, mv4⟩ | ⟨ov4, rfl, gov4, tov4, lov4, hiv4⟩
    · have zv3 := av3
      rcases zv3 with ⟨rfl, nv3, mv3⟩ | ⟨ov3, rfl, gov3, tov3, lov3, hiv3⟩
      · simp [go_sem, f11, f8, gb8, gb11, nb11_b8, nv4, mv4, nv3, mv3]
        refine (hM _ _).2 ⟨?_, ?_, by intro j hj; have hj_ := hK j hj; simp [go_sem, hj_.1, hj_.2, show ¬ j = b8 by omega], by first | omega | (simp [go_sem]; done) | (simp [go_sem]; omega), by simp (disch := omega) [get_alloc_ne, get_set_ne, get_kill_ne, go_sem, f11, f8, gb8, gb11, nb11_b8, nv4, mv4, nv3, mv3], by first | omega | (simp [go_sem]; done) | (simp [go_sem]; omega), av4.same' (by simp [go_sem]; try omega) (fun i hi => by have zl := arrAt_lt av4 i hi; have zs0 := ev4b8 i hi; constructor <;> simp [go_sem, zs0]), by first | exact qv4 | (simp; done) | (simp [qv4]; done) | (simp [go_sem, f11, f8, gb8, gb11, nb11_b8, nv4, mv4, nv3, mv3]; done), av3.same' (by simp [go_sem]; try omega) (fun i hi => by have zl := arrAt_lt av3 i hi; have zs0 := ev3b8 i hi; constructor <;> simp [go_sem, zs0])⟩ <;> simp [go_sem, f11, f8, gb8, gb11, nb11_b8, nv4, mv4, nv3, mv3]
      · have Lv3 : (rx.edges.flatMap e3C).length = rx.edges.length * 3 := length_flatMap (f := e3C) (sz := 3) (fun _ => rfl) _
        have nv3_b8 : ¬ ov3 = b8 := ev3b8 _ rfl
        have nb8_v3 : ¬ b8 = ov3 := fun e => ev3b8 _ rfl e.symm
        have nv3_b11 : ¬ ov3 = b11 := ev3b11 _ rfl
        have nb11_v3 : ¬ b11 = ov3 := fun e => ev3b11 _ rfl e.symm
        simp [go_sem, f11, f8, gb8, gb11, nb11_b8, nv4, mv4, gov3, tov3, Lv3, nv3_b8, nb8_v3, nv3_b11, nb11_v3]
        refine (hM _ _).2 ⟨?_, ?_, by intro j hj; have hj_ := hK j hj; simp [go_sem, hj_.1, hj_.2, show ¬ j = b8 by omega], by first | omega | (simp [go_sem]; done) | (simp [go_sem]; omega), by simp (disch := omega) [get_alloc_ne, get_set_ne, get_kill_ne, go_sem, f11, f8, gb8, gb11, nb11_b8, nv4, mv4, gov3, tov3, Lv3, nv3_b8, nb8_v3, nv3_b11, nb11_v3], by first | omega | (simp [go_sem]; done) | (simp [go_sem]; omega), av4.same' (by simp [go_sem]; try omega) (fun i hi => by have zl := arrAt_lt av4 i hi; have zs0 := ev4b8 i hi; constructor <;> simp [go_sem, zs0]), by first | exact qv4 | (simp; done) | (simp [qv4]; done) | (simp [go_sem, f11, f8, gb8, gb11, nb11_b8, nv4, mv4, gov3, tov3, Lv3, nv3_b8, nb8_v3, nv3_b11, nb11_v3]; done), av3.same' (by simp [go_sem]; try omega) (fun i hi => by have zl := arrAt_lt av3 i hi; have zs0 := ev3b8 i hi; constructor <;> simp [go_sem, zs0])⟩ <;> simp [go_sem, f11, f8, gb8, gb11, nb11_b8, nv4, mv4, gov3, tov3, Lv3, nv3_b8, nb8_v3, nv3_b11, nb11_v3]
    · have nv4_b8 : ¬ ov4 = b8 := ev4b8 _ rfl
      have nb8_v4 : ¬ b8 = ov4 := fun e => ev4b8 _ rfl e.symm
      have nv4_b11 : ¬ ov4 = b11 := ev4b11 _ rfl
      have nb11_v4 : ¬ b11 = ov4 := fun e => ev4b11 _ rfl e.symm
      have zv3 := av3
      rcases zv3 with ⟨rfl, nv3, mv3⟩ | ⟨ov3, rfl, gov3, tov3, lov3, hiv3⟩
      · simp [go_sem, f11, f8, gb8, gb11, nb11_b8, gov4, tov4, nv4_b8, nb8_v4, nv4_b11, nb11_v4, nv3, mv3]
        refine (hM _ _).2 ⟨?_, ?_, by intro j hj; have hj_ := hK j hj; simp [go_sem, hj_.1, hj_.2, show ¬ j = b8 by omega], by first | omega | (simp [go_sem]; done) | (simp [go_sem]; omega), by simp (disch := omega) [get_alloc_ne, get_set_ne, get_kill_ne, go_sem, f11, f8, gb8, gb11, nb11_b8, gov4, tov4, nv4_b8, nb8_v4, nv4_b11, nb11_v4, nv3, mv3], by first | omega | (simp [go_sem]; done) | (simp [go_sem]; omega), av4.same' (by simp [go_sem]; try omega) (fun i hi => by have zl := arrAt_lt av4 i hi; have zs0 := ev4b8 i hi; constructor <;> simp [go_sem, zs0]), by first | exact qv4 | (simp; done) | (simp [qv4]; done) | (simp [go_sem, f11, f8, gb8, gb11, nb11_b8, gov4, tov4, nv4_b8, nb8_v4, nv4_b11, nb11_v4, nv3, mv3]; done), av3.same' (by simp [go_sem]; try omega) (fun i hi => by have zl := arrAt_lt av3 i hi; have zs0 := ev3b8 i hi; constructor <;> simp [go_sem, zs0])⟩ <;> simp [go_sem, f11, f8, gb8, gb11, nb11_b8, gov4, tov4, nv4_b8, nb8_v4, nv4_b11, nb11_v4, nv3, mv3]
      · have Lv3 : (rx.edges.flatMap e3C).length = rx.edges.length * 3 := length_flatMap (f := e3C) (sz := 3) (fun _ => rfl) _
        have nv3_v4 : ¬ ov3 = ov4 := by first | exact apart_ne ev4v3 rfl | exact apart_ne (apart_symm ev3v4) rfl
        have nv4_v3 := fun e => nv3_v4 (Eq.symm e)
        have nv3_b8 : ¬ ov3 = b8 := ev3b8 _ rfl
        have nb8_v3 : ¬ b8 = ov3 := fun e => ev3b8 _ rfl e.symm
        have nv3_b11 : ¬ ov3 = b11 := ev3b11 _ rfl
        have nb11_v3 : ¬ b11 = ov3 := fun e => ev3b11 _ rfl e.symm
        simp [go_sem, f11, f8, gb8, gb11, nb11_b8, gov4, tov4, nv4_b8, nb8_v4, nv4_b11, nb11_v4, gov3, tov3, Lv3, nv3_v4, nv4_v3, nv3_b8, nb8_v3, nv3_b11, nb11_v3]
        refine (hM _ _).2 ⟨?_, ?_, by intro j hj; have hj_ := hK j hj; simp [go_sem, hj_.1, hj_.2, show ¬ j = b8 by omega], by first | omega | (simp [go_sem]; done) | (simp [go_sem]; omega), by simp (disch := omega) [get_alloc_ne, get_set_ne, get_kill_ne, go_sem, f11, f8, gb8, gb11, nb11_b8, gov4, tov4, nv4_b8, nb8_v4, nv4_b11, nb11_v4, gov3, tov3, Lv3, nv3_v4, nv4_v3, nv3_b8, nb8_v3, nv3_b11, nb11_v3], by first | omega | (simp [go_sem]; done) | (simp [go_sem]; omega), av4.same' (by simp [go_sem]; try omega) (fun i hi => by have zl := arrAt_lt av4 i hi; have zs0 := ev4b8 i hi; constructor <;> simp [go_sem, zs0]), by first | exact qv4 | (simp; done) | (simp [qv4]; done) | (simp [go_sem, f11, f8, gb8, gb11, nb11_b8, gov4, tov4, nv4_b8, nb8_v4, nv4_b11, nb11_v4, gov3, tov3, Lv3, nv3_v4, nv4_v3, nv3_b8, nb8_v3, nv3_b11, nb11_v3]; done), av3.same' (by simp [go_sem]; try omega) (fun i hi => by have zl := arrAt_lt av3 i hi; have zs0 := ev3b8 i hi; constructor <;> simp [go_sem, zs0])⟩ <;> simp [go_sem, f11, f8, gb8, gb11, nb11_b8, gov4, tov4, nv4_b8, nb8_v4, nv4_b11, nb11_v4, gov3, tov3, Lv3, nv3_v4, nv4_v3, nv3_b8, nb8_v3, nv3_b11, nb11_v3]
  clear f11 f8 hK hN gb8 ub8 gb11 ub11 av4 qv4 av3
  obtain ⟨f8, f9, hK, hN, gb8, ub8, av4, qv4, av3⟩ := hm
  obtain rfl := Option.some.inj hoi1
  exact SW.ret ⟨AV.tup [AV.agg [v4, v3], AV.int (0)], by simp [go_sem, f8, f9, gb8], ⟨v4, v3, rfl, av4, av3, (by first | exact ev4v3 | exact fun i h h' => ev3v4 i h' h)⟩, hK, hN⟩
theorem w_ref17_Instance (F : Nat) (t : Types) (p : Graph) (g : Graph) (m : Morph) (r : (Graph × Int)) (h : s_ref17_Instance F t p g m = some r) : PureA Tryz.prog 12 [AV.agg [nodesA (t.nodes), edgesA (t.edges)], AV.agg [intsA (p.nodes), e3sA (p.edges)], AV.agg [intsA (g.nodes), e3sA (g.edges)], AV.agg [intsA (m.nodes), intsA (m.edges)]] (AV.tup [AV.agg [intsA (r.1.nodes), e3sA (r.1.edges)], AV.int (r.2)]) := pureA_of_own' (O := O_ref17_Instance r) (fun σ0 => o_ref17_Instance F t p g m r h σ0) (by rintro n x τ ⟨v0_, v1_, hx, av0_, av1_, ev0_v1_⟩; rw [hx]; exact frz_tupL (frzL_c (frz_aggL (frzL_c (av0_.frz (DataL.map (fun _ => .lit _) r.1.nodes)) (frzL_c (av1_.frz (DataL.flatMap gd_e3C r.1.edges)) (frzL_n)))) (frzL_c (.lit _) (frzL_n))))
set_option maxHeartbeats 4000000 in
theorem w_ref05_Same (a : Graph) (b : Graph) (r : (Bool)) (h : s_ref05_Same a b = some r) : PureA Tryz.prog 13 [AV.agg [intsA (a.nodes), e3sA (a.edges)], AV.agg [intsA (b.nodes), e3sA (b.edges)]] (AV.bool (r)) := by
  refine pureA_of_SW (N := 39) Tryz.func13 (by kernel_rfl) rfl (by rw [Tryz.ntmps13]; rfl) (fun σ0 => ?_)
  rw [Tryz.results13]
  obtain ⟨fr0, hfr⟩ : ∃ fr, fr = initFr [AV.agg [intsA (a.nodes), e3sA (a.edges)], AV.agg [intsA (b.nodes), e3sA (b.edges)]] := ⟨_, rfl⟩
  rw [← hfr]
  have f0 : fr0 0 = AV.agg [intsA (a.nodes), e3sA (a.edges)] := by rw [hfr]; rfl
  have f1 : fr0 1 = AV.agg [intsA (b.nodes), e3sA (b.edges)] := by rw [hfr]; rfl
  clear hfr
  simp only [s_ref05_Same] at h
  refine SW.seq ?_
  -- region 0
  refine SW.regX (fun f_ t_ => ∃ b2 : Nat, ∃ b3 : Nat, f_ 2 = AV.ptr b2 0 ∧ f_ 3 = AV.ptr b3 0 ∧ Kept σ0 t_ ∧ σ0.next ≤ t_.next ∧ t_.get b2 = some [intsA (a.nodes), e3sA (a.edges)] ∧ b2 < t_.next ∧ t_.get b3 = some [intsA (b.nodes), e3sA (b.edges)] ∧ b3 < t_.next ∧ σ0.next ≤ b2 ∧ σ0.next ≤ b3 ∧ ¬ b2 = b3) (fun M hM => ?_) (fun fr1 τ hm => ?_)
  · simp [go_sem, f0, f1]
    refine (hM _ _).2 ⟨σ0.next, (σ0.next + 1), ?_, ?_, by intro j hj; simp [go_sem, show ¬ j = σ0.next by omega, show ¬ j = σ0.next + 1 by omega], by first | omega | (simp [go_sem]; done) | (simp [go_sem]; omega), by simp (disch := omega) [get_alloc_ne, get_set_ne, get_kill_ne, go_sem, f0, f1], by first | omega | (simp [go_sem]; done) | (simp [go_sem]; omega), by simp (disch := omega) [get_alloc_ne, get_set_ne, get_kill_ne, go_sem, f0, f1], by first | omega | (simp [go_sem]; done) | (simp [go_sem]; omega), by omega, by omega, by omega⟩ <;> simp [go_sem, f0, f1]
  clear f0 f1
  obtain ⟨b2, b3, f2, f3, hK, hN, gb2, ub2, gb3, ub3, wb2, wb3, eb2b3⟩ := hm
  refine SW.seq ?_
  refine SW.seq ?_
  -- region 1
  obtain ⟨q, hq, h⟩ := obind h
  refine SW.regX (fun f_ t_ => τ = t_ ∧ f_ 2 = AV.ptr b2 0 ∧ f_ 3 = AV.ptr b3 0 ∧ f_ 20 = AV.bool ((((!q)) || ((!decide (a.edges.length = b.edges.length)))))) (fun M hM => ?_) (fun fr2 τz hm => ?_)
  · rcases Bool.eq_false_or_eq_true ((!q)) with y0 | y0
    · have y0' := y0
      try simp at y0'
      simp [go_sem, f2, f3, gb2, gb3, y0, y0']
      refine EWcall_pure (w_ref05_SameInts a.nodes b.nodes _ hq) ?_
      simp [go_sem, f2, f3, gb2, gb3, y0, y0']
      refine (hM _ _).2 ⟨rfl, ?_, ?_, ?_⟩ <;> simp [go_sem, f2, f3, gb2, gb3, y0, y0']
    · have y0' := y0
      try simp at y0'
      simp [go_sem, f2, f3, gb2, gb3, y0, y0']
      refine EWcall_pure (w_ref05_SameInts a.nodes b.nodes _ hq) ?_
      simp [go_sem, f2, f3, gb2, gb3, y0, y0']
      refine (hM _ _).2 ⟨rfl, ?_, ?_, ?_⟩ <;> simp [go_sem, f2, f3, gb2, gb3, y0, y0']
  clear f2 f3
  obtain ⟨rfl, f2, f3, f20⟩ := hm
  refine SW.cond _ f20 (fun hx => ?_) (fun hx => ?_)
  · have h := condT h hx
    refine SW.seq ?_
    -- region 2
    refine SW.regX (fun f_ t_ => τ = t_ ∧ f_ 4 = AV.bool (false)) (fun M hM => ?_) (fun fr3 τz1 hm => ?_)
    · simp [go_sem, f2, f20, f3, gb2, gb3]
      refine (hM _ _).2 ⟨rfl, ?_⟩ <;> simp [go_sem, f2, f20, f3, gb2, gb3]
    clear f2 f20 f3
    obtain ⟨rfl, f4⟩ := hm
    obtain rfl := Option.some.inj h
    exact SW.ret ⟨AV.bool (false), by simp [go_sem, f4], .lit _, hK.keeps⟩
  have h := condF h hx
  refine SW.skip ?_
  refine SW.seq ?_
  refine SW.seq ?_
  -- region 3
  refine SW.regX (fun f_ t_ => τ = t_ ∧ f_ 2 = AV.ptr b2 0 ∧ f_ 3 = AV.ptr b3 0 ∧ f_ 5 = AV.int (0)) (fun M hM => ?_) (fun fr4 τz2 hm => ?_)
  · simp [go_sem, f2, f20, f3, gb2, gb3]
    refine (hM _ _).2 ⟨rfl, ?_, ?_, ?_⟩ <;> simp [go_sem, f2, f20, f3, gb2, gb3]
  clear f2 f20 f3
  obtain ⟨rfl, f2, f3, f5⟩ := hm
  obtain ⟨oi1, hruni1, hoi1⟩ := obind h
  refine SW.lenB b2 1 gb2 rfl (fun hbigi1 => ?_)
  obtain ⟨KL, hKL⟩ : ∃ KL : Fr → Mem → Prop, ∀ fr' τ', KL fr' τ' ↔ (oi1 = .done () ∧ τ = τ') := ⟨_, fun _ _ => Iff.rfl⟩
  refine SW.cut KL ?_ ?_
  · refine SW.block ?_
    obtain ⟨J, hJ⟩ : ∃ J : Nat → Fr → Mem → Prop, ∀ m_ fr' τ', J m_ fr' τ' ↔ (∃ i : Nat, m_ = a.edges.length - i ∧ forN (b1_ref05_Same a b) (a.edges.length - i) i () = some oi1 ∧ τ = τ' ∧ fr' 2 = AV.ptr b2 0 ∧ fr' 3 = AV.ptr b3 0 ∧ fr' 5 = AV.int (((i : Nat) : Int))) := ⟨_, fun _ _ _ => Iff.rfl⟩
    refine SW.loop J (a.edges.length - 0) ((hJ _ _ _).2 ⟨0, rfl, hruni1, rfl, f2, f3, f5⟩) ?_
    clear hruni1
    intro m_ fr5 τ1 hm
    rw [hJ] at hm
    clear f2 f3 f5
    obtain ⟨i, rfl, hruni1, rfl, f2, f3, f5⟩ := hm
    refine SW.seq ?_
    refine SW.seq ?_
    -- region 4
    refine SW.regX (fun f_ t_ => τ = t_ ∧ f_ 2 = AV.ptr b2 0 ∧ f_ 3 = AV.ptr b3 0 ∧ f_ 5 = AV.int (((i : Nat) : Int)) ∧ f_ 25 = AV.bool ((decide (i < a.edges.length)))) (fun M hM => ?_) (fun fr6 τz3 hm => ?_)
    · simp [go_sem, f2, f3, f5, gb2, gb3]
      refine (hM _ _).2 ⟨rfl, ?_, ?_, ?_, ?_⟩ <;> simp [go_sem, f2, f3, f5, gb2, gb3]
    clear f2 f3 f5
    obtain ⟨rfl, f2, f3, f5, f25⟩ := hm
    refine SW.cond _ f25 (fun hx1 => ?_) (fun hx1 => ?_)
    rotate_left
    · have hk : ¬ i < a.edges.length := by have := of_decide_eq_false hx1; omega
      refine SW.exit rfl ?_
      exact SW.goal ((hKL _ _).2 ⟨forN_end hruni1 hk, rfl⟩)
    have hki : i < a.edges.length := by have := of_decide_eq_true hx1; omega
    have hwi : IntKind.i64.wrap ((i : Int) + 1) = ((i + 1 : Nat) : Int) := by rw [wrap64_of _ (by omega) (by omega)]; rfl
    obtain ⟨ci1, hbi1, hci1⟩ := forN_step hruni1 hki
    simp only [b1_ref05_Same] at hbi1
    refine SW.skip ?_
    refine SW.seq ?_
    refine SW.block ?_
    refine SW.seq ?_
    -- region 6
    obtain ⟨x, hx, hbi1⟩ := obind hbi1
    have xlx := getN_lt hx
    have xdx := getN_flat e3C 3 (fun _ => rfl) hx
    obtain ⟨x1, hx1, hbi1⟩ := obind hbi1
    have xlx1 := getN_lt hx1
    have xdx1 := getN_flat e3C 3 (fun _ => rfl) hx1
    refine SW.regX (fun f_ t_ => τ = t_ ∧ f_ 2 = AV.ptr b2 0 ∧ f_ 3 = AV.ptr b3 0 ∧ f_ 5 = AV.int (((i : Nat) : Int)) ∧ f_ 38 = AV.bool ((!((decide (x.kind = x1.kind) && (decide (x.src = x1.src) && decide (x.tgt = x1.tgt))))))) (fun M hM => ?_) (fun fr7 τz4 hm => ?_)
    · refine EW_regionD (by kernel_rfl) (by kernel_rfl) ?_
      simp [go_sem, f2, f25, f3, f5, gb2, gb3, xlx, xdx, e3C, xlx1, xdx1, e3C, eqCells]
      refine (hM _ _).2 ⟨rfl, ?_, ?_, ?_, ?_⟩ <;> simp [go_sem, f2, f25, f3, f5, gb2, gb3, xlx, xdx, e3C, xlx1, xdx1, e3C, eqCells]
    clear f2 f25 f3 f5
    obtain ⟨rfl, f2, f3, f5, f38⟩ := hm
    refine SW.cond _ f38 (fun hx2 => ?_) (fun hx2 => ?_)
    · have hbi1 := condT hbi1 hx2
      refine SW.seq ?_
      -- region 7
      refine SW.regX (fun f_ t_ => τ = t_ ∧ f_ 4 = AV.bool (false)) (fun M hM => ?_) (fun fr8 τz5 hm => ?_)
      · simp [go_sem, f2, f3, f38, f5, gb2, gb3]
        refine (hM _ _).2 ⟨rfl, ?_⟩ <;> simp [go_sem, f2, f3, f38, f5, gb2, gb3]
      clear f2 f3 f38 f5
      obtain ⟨rfl, f4⟩ := hm
      obtain rfl := Option.some.inj hbi1
      obtain rfl := Option.some.inj hci1
      obtain rfl := Option.some.inj hoi1
      exact SW.ret ⟨AV.bool (false), by simp [go_sem, f4], .lit _, hK.keeps⟩
    have hbi1 := condF hbi1 hx2
    refine SW.skip ?_
    refine SW.blk ?_
    -- region 5
    refine SW.regX (fun f_ t_ => τ = t_ ∧ f_ 2 = AV.ptr b2 0 ∧ f_ 3 = AV.ptr b3 0 ∧ f_ 5 = AV.int (((i + 1 : Nat) : Int))) (fun M hM => ?_) (fun fr9 τz6 hm => ?_)
    · simp [go_sem, f2, f3, f38, f5, gb2, gb3, hwi]
      refine (hM _ _).2 ⟨rfl, ?_, ?_, ?_⟩ <;> simp [go_sem, f2, f3, f38, f5, gb2, gb3, hwi]
    clear f2 f3 f38 f5
    obtain ⟨rfl, f2, f3, f5⟩ := hm
    obtain rfl := Option.some.inj hbi1
    exact SW.goal ⟨a.edges.length - (i + 1), by omega, (hJ _ _ _).2 ⟨i + 1, rfl, hci1, rfl, f2, f3, f5⟩⟩
  intro fr10 τ2 hm
  rw [hKL] at hm
  clear hKL hruni1
  clear f2 f3 f5
  obtain ⟨rfl, rfl⟩ := hm
  simp only [Out.on] at hoi1
  refine SW.seq ?_
  -- region 8
  refine SW.regX (fun f_ t_ => τ = t_ ∧ f_ 4 = AV.bool (true)) (fun M hM => ?_) (fun fr11 τz7 hm => ?_)
  · simp [go_sem]
    refine (hM _ _).2 ⟨rfl, ?_⟩ <;> simp [go_sem]
  obtain ⟨rfl, f4⟩ := hm
  obtain rfl := Option.some.inj hoi1
  exact SW.ret ⟨AV.bool (true), by simp [go_sem, f4], .lit _, hK.keeps⟩
end Go.Proofs.YtdacgjleiloooaaGreat
