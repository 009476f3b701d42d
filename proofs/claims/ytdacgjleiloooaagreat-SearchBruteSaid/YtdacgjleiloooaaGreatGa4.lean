/-
  Plain functions and the walks that lead to them, by a program of ours (gen.py): scarfjoint/search.Instance, scarfjoint/scarfjointref05.SameInts, scarfjoint/scarfjointref17.SameAll, slices.Equal___int_int_.
-/
import Derived.Test.YtdacgjleiloooaaGreatGd
import Derived.Test.YtdacgjleiloooaaGreatGT
import Derived.Test.YtdacgjleiloooaaGreatB3
import Derived.Test.YtdacgjleiloooaaGreatGS
import Derived.Test.YtdacgjleiloooaaGreatGa3
set_option linter.unusedSimpArgs false
set_option linter.unusedVariables false
namespace Go.Proofs.YtdacgjleiloooaaGreat
open Go Go.Ew Go.Proofs Go.RowKit
set_option maxRecDepth 100000
set_option maxHeartbeats 4000000 in
theorem w_search_Instance (t : Types) (p : Graph) (g : Graph) (m : Morph) (r : (Graph × Int)) (h : s_search_Instance t p g m = some r) : PureA Tryz.prog 11 [AV.agg [nodesA (t.nodes), edgesA (t.edges)], AV.agg [intsA (p.nodes), e3sA (p.edges)], AV.agg [intsA (g.nodes), e3sA (g.edges)], AV.agg [intsA (m.nodes), intsA (m.edges)]] (AV.tup [AV.agg [intsA (r.1.nodes), e3sA (r.1.edges)], AV.int (r.2)]) := by
 refine pureA_of_SW (N := 55) Tryz.func11 (by kernel_rfl) rfl (by rw [Tryz.ntmps11]; rfl) (fun σ0 => ?_)
 rw [Tryz.results11]
 obtain ⟨fr0, hfr⟩ : ∃ fr, fr = initFr [AV.agg [nodesA (t.nodes), edgesA (t.edges)], AV.agg [intsA (p.nodes), e3sA (p.edges)], AV.agg [intsA (g.nodes), e3sA (g.edges)], AV.agg [intsA (m.nodes), intsA (m.edges)]] := ⟨_, rfl⟩
 rw [← hfr]
 have f0 : fr0 0 = AV.agg [nodesA (t.nodes), edgesA (t.edges)] := by rw [hfr]; rfl
 have f1 : fr0 1 = AV.agg [intsA (p.nodes), e3sA (p.edges)] := by rw [hfr]; rfl
 have f2 : fr0 2 = AV.agg [intsA (g.nodes), e3sA (g.edges)] := by rw [hfr]; rfl
 have f3 : fr0 3 = AV.agg [intsA (m.nodes), intsA (m.edges)] := by rw [hfr]; rfl
 clear hfr
 simp only [s_search_Instance] at h
 refine SW.seq ?_
 refine SW.regX (fun f_ t_ => ∃ b4 : Nat, ∃ b5 : Nat, ∃ b6 : Nat, ∃ b7 : Nat, ∃ b8 : Nat, f_ 4 = AV.ptr b4 0 ∧ f_ 5 = AV.ptr b5 0 ∧ f_ 6 = AV.ptr b6 0 ∧ f_ 7 = AV.ptr b7 0 ∧ f_ 8 = AV.ptr b8 0 ∧ Kept σ0 t_ ∧ σ0.next ≤ t_.next ∧ t_.get b4 = some [nodesA (t.nodes), edgesA (t.edges)] ∧ b4 < t_.next ∧ t_.get b5 = some [intsA (p.nodes), e3sA (p.edges)] ∧ b5 < t_.next ∧ t_.get b6 = some [intsA (g.nodes), e3sA (g.edges)] ∧ b6 < t_.next ∧ t_.get b7 = some [intsA (m.nodes), intsA (m.edges)] ∧ b7 < t_.next ∧ t_.get b8 = some [AV.nils, AV.nils] ∧ b8 < t_.next ∧ σ0.next ≤ b4 ∧ σ0.next ≤ b5 ∧ ¬ b4 = b5 ∧ σ0.next ≤ b6 ∧ ¬ b4 = b6 ∧ ¬ b5 = b6 ∧ σ0.next ≤ b7 ∧ ¬ b4 = b7 ∧ ¬ b5 = b7 ∧ ¬ b6 = b7 ∧ σ0.next ≤ b8 ∧ ¬ b4 = b8 ∧ ¬ b5 = b8 ∧ ¬ b6 = b8 ∧ ¬ b7 = b8) (fun M hM => ?_) (fun fr1 τ hm => ?_)
 ·simp [go_sem, f0, f1, f2, f3]
  refine (hM _ _).2 ⟨σ0.next, (σ0.next + 1), (σ0.next + 2), (σ0.next + 3), (σ0.next + 4), ?_, ?_, ?_, ?_, ?_, by intro j hj; simp [go_sem, show ¬ j = σ0.next by omega, show ¬ j = σ0.next + 1 by omega, show ¬ j = σ0.next + 2 by omega, show ¬ j = σ0.next + 3 by omega, show ¬ j = σ0.next + 4 by omega], by first | omega | (simp [go_sem]; done) | (simp [go_sem]; omega), by simp (disch := omega) [get_alloc_ne, get_set_ne, get_kill_ne, go_sem, f0, f1, f2, f3], by first | omega | (simp [go_sem]; done) | (simp [go_sem]; omega), by simp (disch := omega) [get_alloc_ne, get_set_ne, get_kill_ne, go_sem, f0, f1, f2, f3], by first | omega | (simp [go_sem]; done) | (simp [go_sem]; omega), by simp (disch := omega) [get_alloc_ne, get_set_ne, get_kill_ne, go_sem, f0, f1, f2, f3], by first | omega | (simp [go_sem]; done) | (simp [go_sem]; omega), by simp (disch := omega) [get_alloc_ne, get_set_ne, get_kill_ne, go_sem, f0, f1, f2, f3], by first | omega | (simp [go_sem]; done) | (simp [go_sem]; omega), by simp (disch := omega) [get_alloc_ne, get_set_ne, get_kill_ne, go_sem, f0, f1, f2, f3], by first | omega | (simp [go_sem]; done) | (simp [go_sem]; omega), by omega, by omega, by omega, by omega, by omega, by omega, by omega, by omega, by omega, by omega, by omega, by omega, by omega, by omega, by omega⟩ <;> simp [go_sem, f0, f1, f2, f3]
 clear f0 f1 f2 f3
 obtain ⟨b4, b5, b6, b7, b8, f4, f5, f6, f7, f8, hK, hN, gb4, ub4, gb5, ub5, gb6, ub6, gb7, ub7, gb8, ub8, wb4, wb5, eb4b5, wb6, eb4b6, eb5b6, wb7, eb4b7, eb5b7, eb6b7, wb8, eb4b8, eb5b8, eb6b8, eb7b8⟩ := hm
 refine SW.seq ?_
 refine SW.seq ?_
 obtain ⟨n, hn, h⟩ := obind h
 refine SW.regX (fun f_ t_ => τ = t_ ∧ f_ 4 = AV.ptr b4 0 ∧ f_ 5 = AV.ptr b5 0 ∧ f_ 6 = AV.ptr b6 0 ∧ f_ 7 = AV.ptr b7 0 ∧ f_ 8 = AV.ptr b8 0 ∧ f_ 10 = AV.int (n)) (fun M hM => ?_) (fun fr2 τz hm => ?_)
 ·simp [go_sem, f4, f5, f6, f7, f8, gb4, gb5, gb6, gb7, gb8]
  refine EWcall_pure (w_search_valid t p g _ hn) ?_
  simp [go_sem, f4, f5, f6, f7, f8, gb4, gb5, gb6, gb7, gb8]
  refine (hM _ _).2 ⟨rfl, ?_, ?_, ?_, ?_, ?_, ?_⟩ <;> simp [go_sem, f4, f5, f6, f7, f8, gb4, gb5, gb6, gb7, gb8]
 clear f4 f5 f6 f7 f8
 obtain ⟨rfl, f4, f5, f6, f7, f8, f10⟩ := hm
 refine SW.seq ?_
 refine SW.regX (fun f_ t_ => τ = t_ ∧ f_ 4 = AV.ptr b4 0 ∧ f_ 5 = AV.ptr b5 0 ∧ f_ 6 = AV.ptr b6 0 ∧ f_ 7 = AV.ptr b7 0 ∧ f_ 8 = AV.ptr b8 0 ∧ f_ 10 = AV.int (n) ∧ f_ 20 = AV.bool ((!decide (n = 0)))) (fun M hM => ?_) (fun fr3 τz1 hm => ?_)
 ·simp [go_sem, f10, f4, f5, f6, f7, f8, gb4, gb5, gb6, gb7, gb8]
  refine (hM _ _).2 ⟨rfl, ?_, ?_, ?_, ?_, ?_, ?_, ?_⟩ <;> simp [go_sem, f10, f4, f5, f6, f7, f8, gb4, gb5, gb6, gb7, gb8]
 clear f10 f4 f5 f6 f7 f8
 obtain ⟨rfl, f4, f5, f6, f7, f8, f10, f20⟩ := hm
 refine SW.cond _ f20 (fun hx => ?_) (fun hx => ?_)
 ·have h := condT h hx
  refine SW.seq ?_
  refine SW.regX (fun f_ t_ => f_ 8 = AV.ptr b8 0 ∧ f_ 9 = AV.int (n) ∧ Kept σ0 t_ ∧ σ0.next ≤ t_.next ∧ t_.get b8 = some [AV.nils, AV.nils] ∧ b8 < t_.next) (fun M hM => ?_) (fun fr4 τ1 hm => ?_)
  ·have nb4_b8 : ¬ b4 = b8 := by omega
   have nb5_b8 : ¬ b5 = b8 := by omega
   have nb6_b8 : ¬ b6 = b8 := by omega
   have nb7_b8 : ¬ b7 = b8 := by omega
   simp [go_sem, f10, f20, f4, f5, f6, f7, f8, gb4, gb5, gb6, gb7, gb8, nb4_b8, nb5_b8, nb6_b8, nb7_b8]
   refine (hM _ _).2 ⟨?_, ?_, by intro j hj; have hj_ := hK j hj; simp [go_sem, hj_.1, hj_.2, show ¬ j = b8 by omega], by first | omega | (simp [go_sem]; done) | (simp [go_sem]; omega), by simp (disch := omega) [get_alloc_ne, get_set_ne, get_kill_ne, go_sem, f10, f20, f4, f5, f6, f7, f8, gb4, gb5, gb6, gb7, gb8, nb4_b8, nb5_b8, nb6_b8, nb7_b8], by first | omega | (simp [go_sem]; done) | (simp [go_sem]; omega)⟩ <;> simp [go_sem, f10, f20, f4, f5, f6, f7, f8, gb4, gb5, gb6, gb7, gb8, nb4_b8, nb5_b8, nb6_b8, nb7_b8]
  clear f10 f20 f4 f5 f6 f7 f8 hK hN gb4 ub4 gb5 ub5 gb6 ub6 gb7 ub7 gb8 ub8
  obtain ⟨f8, f9, hK, hN, gb8, ub8⟩ := hm
  obtain rfl := Option.some.inj h
  exact SW.ret ⟨AV.tup [AV.agg [AV.nils, AV.nils], AV.int (n)], by simp [go_sem, f8, f9, gb8], frz_tupL (frzL_c (frz_aggL (frzL_c (.nils) (frzL_c (.nils) (frzL_n)))) (frzL_c (.lit _) (frzL_n))), hK.keeps⟩
 have h := condF h hx
 refine SW.skip ?_
 refine SW.seq ?_
 refine SW.seq ?_
 obtain ⟨n1, hn1, h⟩ := obind h
 refine SW.regX (fun f_ t_ => τ = t_ ∧ f_ 5 = AV.ptr b5 0 ∧ f_ 6 = AV.ptr b6 0 ∧ f_ 7 = AV.ptr b7 0 ∧ f_ 8 = AV.ptr b8 0 ∧ f_ 11 = AV.int (n1)) (fun M hM => ?_) (fun fr5 τz2 hm => ?_)
 ·simp [go_sem, f10, f20, f4, f5, f6, f7, f8, gb4, gb5, gb6, gb7, gb8]
  refine EWcall_pure (w_search_shape t p g m _ hn1) ?_
  simp [go_sem, f10, f20, f4, f5, f6, f7, f8, gb4, gb5, gb6, gb7, gb8]
  refine (hM _ _).2 ⟨rfl, ?_, ?_, ?_, ?_, ?_⟩ <;> simp [go_sem, f10, f20, f4, f5, f6, f7, f8, gb4, gb5, gb6, gb7, gb8]
 clear f10 f20 f4 f5 f6 f7 f8
 obtain ⟨rfl, f5, f6, f7, f8, f11⟩ := hm
 refine SW.seq ?_
 refine SW.regX (fun f_ t_ => τ = t_ ∧ f_ 5 = AV.ptr b5 0 ∧ f_ 6 = AV.ptr b6 0 ∧ f_ 7 = AV.ptr b7 0 ∧ f_ 8 = AV.ptr b8 0 ∧ f_ 11 = AV.int (n1) ∧ f_ 29 = AV.bool ((!decide (n1 = 0)))) (fun M hM => ?_) (fun fr6 τz3 hm => ?_)
 ·simp [go_sem, f11, f5, f6, f7, f8, gb5, gb6, gb7, gb8]
  refine (hM _ _).2 ⟨rfl, ?_, ?_, ?_, ?_, ?_, ?_⟩ <;> simp [go_sem, f11, f5, f6, f7, f8, gb5, gb6, gb7, gb8]
 clear f11 f5 f6 f7 f8
 obtain ⟨rfl, f5, f6, f7, f8, f11, f29⟩ := hm
 refine SW.cond _ f29 (fun hx1 => ?_) (fun hx1 => ?_)
 ·have h := condT h hx1
  refine SW.seq ?_
  refine SW.regX (fun f_ t_ => f_ 8 = AV.ptr b8 0 ∧ f_ 9 = AV.int (n1) ∧ Kept σ0 t_ ∧ σ0.next ≤ t_.next ∧ t_.get b8 = some [AV.nils, AV.nils] ∧ b8 < t_.next) (fun M hM => ?_) (fun fr7 τ2 hm => ?_)
  ·have nb5_b8 : ¬ b5 = b8 := by omega
   have nb6_b8 : ¬ b6 = b8 := by omega
   have nb7_b8 : ¬ b7 = b8 := by omega
   simp [go_sem, f11, f29, f5, f6, f7, f8, gb5, gb6, gb7, gb8, nb5_b8, nb6_b8, nb7_b8]
   refine (hM _ _).2 ⟨?_, ?_, by intro j hj; have hj_ := hK j hj; simp [go_sem, hj_.1, hj_.2, show ¬ j = b8 by omega], by first | omega | (simp [go_sem]; done) | (simp [go_sem]; omega), by simp (disch := omega) [get_alloc_ne, get_set_ne, get_kill_ne, go_sem, f11, f29, f5, f6, f7, f8, gb5, gb6, gb7, gb8, nb5_b8, nb6_b8, nb7_b8], by first | omega | (simp [go_sem]; done) | (simp [go_sem]; omega)⟩ <;> simp [go_sem, f11, f29, f5, f6, f7, f8, gb5, gb6, gb7, gb8, nb5_b8, nb6_b8, nb7_b8]
  clear f11 f29 f5 f6 f7 f8 hK hN gb5 ub5 gb6 ub6 gb7 ub7 gb8 ub8
  obtain ⟨f8, f9, hK, hN, gb8, ub8⟩ := hm
  obtain rfl := Option.some.inj h
  exact SW.ret ⟨AV.tup [AV.agg [AV.nils, AV.nils], AV.int (n1)], by simp [go_sem, f8, f9, gb8], frz_tupL (frzL_c (frz_aggL (frzL_c (.nils) (frzL_c (.nils) (frzL_n)))) (frzL_c (.lit _) (frzL_n))), hK.keeps⟩
 have h := condF h hx1
 refine SW.skip ?_
 refine SW.seq ?_
 obtain ⟨rx, hrx, h⟩ := obind h
 refine SW.regX (fun f_ t_ => ∃ b12 : Nat, f_ 6 = AV.ptr b6 0 ∧ f_ 7 = AV.ptr b7 0 ∧ f_ 8 = AV.ptr b8 0 ∧ f_ 12 = AV.ptr b12 0 ∧ Kept σ0 t_ ∧ σ0.next ≤ t_.next ∧ t_.get b6 = some [intsA (g.nodes), e3sA (g.edges)] ∧ b6 < t_.next ∧ t_.get b7 = some [intsA (m.nodes), intsA (m.edges)] ∧ b7 < t_.next ∧ t_.get b8 = some [AV.nils, AV.nils] ∧ b8 < t_.next ∧ t_.get b12 = some [AV.nils, e3sA (rx)] ∧ b12 < t_.next ∧ σ0.next ≤ b12 ∧ ¬ b6 = b12 ∧ ¬ b7 = b12 ∧ ¬ b8 = b12) (fun M hM => ?_) (fun fr8 τ3 hm => ?_)
 ·have nb5_0 : ¬ b5 = τ.next := by omega
  have nb6_0 : ¬ b6 = τ.next := by omega
  have nb7_0 : ¬ b7 = τ.next := by omega
  have nb8_0 : ¬ b8 = τ.next := by omega
  simp [go_sem, f11, f29, f5, f6, f7, f8, gb5, gb6, gb7, gb8, nb5_0, nb6_0, nb7_0, nb8_0]
  refine EWcall_pure (w_slices_Clone_Edge p.edges _ hrx) ?_
  simp [go_sem, f11, f29, f5, f6, f7, f8, gb5, gb6, gb7, gb8, nb5_0, nb6_0, nb7_0, nb8_0]
  refine (hM _ _).2 ⟨τ.next, ?_, ?_, ?_, ?_, by intro j hj; have hj_ := hK j hj; simp [go_sem, hj_.1, hj_.2, show ¬ j = τ.next by omega], by first | omega | (simp [go_sem]; done) | (simp [go_sem]; omega), by simp (disch := omega) [get_alloc_ne, get_set_ne, get_kill_ne, go_sem, f11, f29, f5, f6, f7, f8, gb5, gb6, gb7, gb8, nb5_0, nb6_0, nb7_0, nb8_0], by first | omega | (simp [go_sem]; done) | (simp [go_sem]; omega), by simp (disch := omega) [get_alloc_ne, get_set_ne, get_kill_ne, go_sem, f11, f29, f5, f6, f7, f8, gb5, gb6, gb7, gb8, nb5_0, nb6_0, nb7_0, nb8_0], by first | omega | (simp [go_sem]; done) | (simp [go_sem]; omega), by simp (disch := omega) [get_alloc_ne, get_set_ne, get_kill_ne, go_sem, f11, f29, f5, f6, f7, f8, gb5, gb6, gb7, gb8, nb5_0, nb6_0, nb7_0, nb8_0], by first | omega | (simp [go_sem]; done) | (simp [go_sem]; omega), by simp (disch := omega) [get_alloc_ne, get_set_ne, get_kill_ne, go_sem, f11, f29, f5, f6, f7, f8, gb5, gb6, gb7, gb8, nb5_0, nb6_0, nb7_0, nb8_0], by first | omega | (simp [go_sem]; done) | (simp [go_sem]; omega), by omega, by omega, by omega, by omega⟩ <;> simp [go_sem, f11, f29, f5, f6, f7, f8, gb5, gb6, gb7, gb8, nb5_0, nb6_0, nb7_0, nb8_0]
 clear f11 f29 f5 f6 f7 f8 hK hN gb5 ub5 gb6 ub6 gb7 ub7 gb8 ub8
 obtain ⟨b12, f6, f7, f8, f12, hK, hN, gb6, ub6, gb7, ub7, gb8, ub8, gb12, ub12, wb12, eb6b12, eb7b12, eb8b12⟩ := hm
 refine SW.seq ?_
 refine SW.seq ?_
 refine SW.regX (fun f_ t_ => τ3 = t_ ∧ f_ 6 = AV.ptr b6 0 ∧ f_ 8 = AV.ptr b8 0 ∧ f_ 12 = AV.ptr b12 0 ∧ f_ 37 = intsA (m.nodes) ∧ f_ 38 = AV.int (((m.nodes.length : Nat) : Int)) ∧ f_ 39 = AV.int (0)) (fun M hM => ?_) (fun fr9 τz4 hm => ?_)
 ·simp [go_sem, f12, f6, f7, f8, gb6, gb7, gb8, gb12]
  refine (hM _ _).2 ⟨rfl, ?_, ?_, ?_, ?_, ?_, ?_⟩ <;> simp [go_sem, f12, f6, f7, f8, gb6, gb7, gb8, gb12]
 clear f12 f6 f7 f8
 obtain ⟨rfl, f6, f8, f12, f37, f38, f39⟩ := hm
 obtain ⟨oi, hruni, hoi⟩ := obind h
 refine SW.len 37 f37 (fun hbigi => ?_)
 obtain ⟨KL, hKL⟩ : ∃ KL : Fr → Mem → Prop, ∀ fr' τ', KL fr' τ' ↔ (∃ x : List Int, ∃ v : AV, oi = .done x ∧ fr' 8 = AV.ptr b8 0 ∧ fr' 12 = AV.ptr b12 0 ∧ Kept σ0 τ' ∧ σ0.next ≤ τ'.next ∧ τ'.get b8 = some [AV.nils, AV.nils] ∧ b8 < τ'.next ∧ τ'.get b12 = some [v, e3sA (rx)] ∧ b12 < τ'.next ∧ ArrAt σ0.next τ' v 3 (x.map AV.int) x.length 1 ∧ (∀ i, idOf v = some i → ¬ i = b8) ∧ (∀ i, idOf v = some i → ¬ i = b12)) := ⟨_, fun _ _ => Iff.rfl⟩
 refine SW.cut KL ?_ ?_
 ·refine SW.block ?_
  obtain ⟨J, hJ⟩ : ∃ J : Nat → Fr → Mem → Prop, ∀ m_ fr' τ', J m_ fr' τ' ↔ (∃ k : Nat, ∃ x : List Int, ∃ v : AV, m_ = m.nodes.length - k ∧ forN (b1_search_Instance g m) (m.nodes.length - k) k x = some oi ∧ fr' 6 = AV.ptr b6 0 ∧ fr' 8 = AV.ptr b8 0 ∧ fr' 12 = AV.ptr b12 0 ∧ fr' 37 = intsA (m.nodes) ∧ fr' 38 = AV.int (((m.nodes.length : Nat) : Int)) ∧ fr' 39 = AV.int (((k : Nat) : Int)) ∧ Kept σ0 τ' ∧ σ0.next ≤ τ'.next ∧ τ'.get b6 = some [intsA (g.nodes), e3sA (g.edges)] ∧ b6 < τ'.next ∧ τ'.get b8 = some [AV.nils, AV.nils] ∧ b8 < τ'.next ∧ τ'.get b12 = some [v, e3sA (rx)] ∧ b12 < τ'.next ∧ ArrAt σ0.next τ' v 3 (x.map AV.int) x.length 1 ∧ (∀ i, idOf v = some i → ¬ i = b6) ∧ (∀ i, idOf v = some i → ¬ i = b8) ∧ (∀ i, idOf v = some i → ¬ i = b12)) := ⟨_, fun _ _ _ => Iff.rfl⟩
  refine SW.loop J (m.nodes.length - 0) ((hJ _ _ _).2 ⟨0, ([] : List Int), AV.nils, rfl, hruni, f6, f8, f12, f37, f38, f39, hK, hN, gb6, ub6, gb8, ub8, gb12, ub12, .inl ⟨rfl, rfl, rfl⟩, (fun i h => by cases h), (fun i h => by cases h), (fun i h => by cases h)⟩) ?_
  clear hruni
  intro m_ fr10 τ4 hm
  rw [hJ] at hm
  clear f12 f37 f38 f39 f6 f8 hK hN gb6 ub6 gb8 ub8 gb12 ub12
  obtain ⟨k, x, v, rfl, hruni, f6, f8, f12, f37, f38, f39, hK, hN, gb6, ub6, gb8, ub8, gb12, ub12, av, evb6, evb8, evb12⟩ := hm
  refine SW.seq ?_
  refine SW.regX (fun f_ t_ => τ4 = t_ ∧ f_ 6 = AV.ptr b6 0 ∧ f_ 8 = AV.ptr b8 0 ∧ f_ 12 = AV.ptr b12 0 ∧ f_ 37 = intsA (m.nodes) ∧ f_ 38 = AV.int (((m.nodes.length : Nat) : Int)) ∧ f_ 39 = AV.int (((k : Nat) : Int)) ∧ f_ 40 = AV.bool ((decide (k < m.nodes.length)))) (fun M hM => ?_) (fun fr11 τz5 hm => ?_)
  ·simp [go_sem, f12, f37, f38, f39, f6, f8, gb6, gb8, gb12]
   refine (hM _ _).2 ⟨rfl, ?_, ?_, ?_, ?_, ?_, ?_, ?_⟩ <;> simp [go_sem, f12, f37, f38, f39, f6, f8, gb6, gb8, gb12]
  clear f12 f37 f38 f39 f6 f8
  obtain ⟨rfl, f6, f8, f12, f37, f38, f39, f40⟩ := hm
  refine SW.seq ?_
  refine SW.cond _ f40 (fun hx2 => ?_) (fun hx2 => ?_)
  rotate_left
  ·have hk : ¬ k < m.nodes.length := by have := of_decide_eq_false hx2; omega
   refine SW.exit rfl ?_
   exact SW.goal ((hKL _ _).2 ⟨x, v, forN_end hruni hk, f8, f12, hK, hN, gb8, ub8, gb12, ub12, av, evb8, evb12⟩)
  have hkk : k < m.nodes.length := by have := of_decide_eq_true hx2; omega
  have hwk : IntKind.i64.wrap ((k : Int) + 1) = ((k + 1 : Nat) : Int) := by rw [wrap64_of _ (by omega) (by omega)]; rfl
  obtain ⟨ci, hbi, hci⟩ := forN_step hruni hkk
  simp only [b1_search_Instance] at hbi
  refine SW.skip ?_
  refine SW.seq ?_
  refine SW.block ?_
  refine SW.seq ?_
  obtain ⟨n2, hn2, hbi⟩ := obind hbi
  have xln2 := getN_lt hn2
  have xdn2 := getN_map AV.int hn2
  refine SW.regX (fun f_ t_ => τ4 = t_ ∧ f_ 6 = AV.ptr b6 0 ∧ f_ 8 = AV.ptr b8 0 ∧ f_ 12 = AV.ptr b12 0 ∧ f_ 14 = AV.int (n2) ∧ f_ 37 = intsA (m.nodes) ∧ f_ 38 = AV.int (((m.nodes.length : Nat) : Int)) ∧ f_ 39 = AV.int (((k : Nat) : Int))) (fun M hM => ?_) (fun fr12 τz6 hm => ?_)
  ·simp [go_sem, f12, f37, f38, f39, f40, f6, f8, gb6, gb8, gb12, xln2, xdn2]
   refine (hM _ _).2 ⟨rfl, ?_, ?_, ?_, ?_, ?_, ?_, ?_⟩ <;> simp [go_sem, f12, f37, f38, f39, f40, f6, f8, gb6, gb8, gb12, xln2, xdn2]
  clear f12 f37 f38 f39 f40 f6 f8
  obtain ⟨rfl, f6, f8, f12, f14, f37, f38, f39⟩ := hm
  obtain ⟨n3, hn3, hbi⟩ := obind hbi
  have xpn3 := getI_pos hn3
  have xln3 := getI_lt hn3
  have xin3 := getI_N hn3
  have xdn3 := getN_map AV.int xin3
  obtain ⟨a, ha, hbi⟩ := obind hbi
  obtain ⟨la, ea⟩ := catL_spec ha
  refine SW.regX (fun f_ t_ => ∃ v1 : AV, f_ 6 = AV.ptr b6 0 ∧ f_ 8 = AV.ptr b8 0 ∧ f_ 12 = AV.ptr b12 0 ∧ f_ 37 = intsA (m.nodes) ∧ f_ 38 = AV.int (((m.nodes.length : Nat) : Int)) ∧ f_ 39 = AV.int (((k : Nat) : Int)) ∧ Kept σ0 t_ ∧ σ0.next ≤ t_.next ∧ t_.get b6 = some [intsA (g.nodes), e3sA (g.edges)] ∧ b6 < t_.next ∧ t_.get b8 = some [AV.nils, AV.nils] ∧ b8 < t_.next ∧ t_.get b12 = some [v1, e3sA (rx)] ∧ b12 < t_.next ∧ ArrAt σ0.next t_ v1 3 (a.map AV.int) a.length 1 ∧ (∀ i, idOf v1 = some i → ¬ i = b6) ∧ (∀ i, idOf v1 = some i → ¬ i = b8) ∧ (∀ i, idOf v1 = some i → ¬ i = b12)) (fun M hM => ?_) (fun fr13 τ5 hm => ?_)
  ·have nb6_0 : ¬ b6 = τ4.next := by omega
   have nb6_1 : ¬ b6 = τ4.next + 1 := by omega
   have nb8_0 : ¬ b8 = τ4.next := by omega
   have nb8_1 : ¬ b8 = τ4.next + 1 := by omega
   have nb12_0 : ¬ b12 = τ4.next := by omega
   have nb12_1 : ¬ b12 = τ4.next + 1 := by omega
   have nb6_b8 : ¬ b6 = b8 := by omega
   have nb6_b12 : ¬ b6 = b12 := by omega
   have nb8_b6 : ¬ b8 = b6 := by omega
   have nb8_b12 : ¬ b8 = b12 := by omega
   have nb12_b6 : ¬ b12 = b6 := by omega
   have nb12_b8 : ¬ b12 = b8 := by omega
   have zv := av
   rcases zv with ⟨rfl, nv, mv⟩ | ⟨ov, rfl, gov, tov, lov, hiv⟩
   ·refine EW_regionY τ4 9 (.q false 0 (.q false 1 (.q false 2 (.q false 3 (.q false 4 (.q false 5 (.q false 6 (.s 7 (.s 8 .done))))))))) (by kernel_rfl) (by kernel_rfl) (fun _ _ h => h) (fun hfin => ?_)
    have m0_ : τ4.get (τ4.next) = none := hfin _ (by omega)
    have m1_ : τ4.get (τ4.next + 1) = none := hfin _ (by omega)
    have hsub : Sub τ4 τ4 := (fun _ _ h => h)
    simp (maxDischargeDepth := 12) [go_sem, f12, f14, f37, f38, f39, f6, f8, gb6, gb8, gb12, xpn3, xln3, xdn3, nb6_0, nb6_1, nb8_0, nb8_1, nb12_0, nb12_1, nb6_b8, nb6_b12, nb8_b6, nb8_b12, nb12_b6, nb12_b8, nv, mv, m0_, m1_, sub_set, sub_killAll, hsub]
    refine (hM _ _).2 ⟨AV.arr (τ4.next + 1) 0 a.length 1, ?_, ?_, ?_, ?_, ?_, ?_, by intro j hj; have hj_ := hK j hj; simp [go_sem, hj_.1, hj_.2, show ¬ j = τ4.next by omega, show ¬ j = τ4.next + 1 by omega, show ¬ j = b12 by omega], by first | omega | (simp [go_sem]; done) | (simp [go_sem]; omega), by simp (disch := omega) [get_alloc_ne, get_set_ne, get_kill_ne, go_sem, f12, f14, f37, f38, f39, f6, f8, gb6, gb8, gb12, xpn3, xln3, xdn3, nb6_0, nb6_1, nb8_0, nb8_1, nb12_0, nb12_1, nb6_b8, nb6_b12, nb8_b6, nb8_b12, nb12_b6, nb12_b8, nv, mv, m0_, m1_, sub_set, sub_killAll, hsub, ea], by first | omega | (simp [go_sem]; done) | (simp [go_sem]; omega), by simp (disch := omega) [get_alloc_ne, get_set_ne, get_kill_ne, go_sem, f12, f14, f37, f38, f39, f6, f8, gb6, gb8, gb12, xpn3, xln3, xdn3, nb6_0, nb6_1, nb8_0, nb8_1, nb12_0, nb12_1, nb6_b8, nb6_b12, nb8_b6, nb8_b12, nb12_b6, nb12_b8, nv, mv, m0_, m1_, sub_set, sub_killAll, hsub, ea], by first | omega | (simp [go_sem]; done) | (simp [go_sem]; omega), by simp (disch := omega) [get_alloc_ne, get_set_ne, get_kill_ne, go_sem, f12, f14, f37, f38, f39, f6, f8, gb6, gb8, gb12, xpn3, xln3, xdn3, nb6_0, nb6_1, nb8_0, nb8_1, nb12_0, nb12_1, nb6_b8, nb6_b12, nb8_b6, nb8_b12, nb12_b6, nb12_b8, nv, mv, m0_, m1_, sub_set, sub_killAll, hsub, ea], by first | omega | (simp [go_sem]; done) | (simp [go_sem]; omega), .inr ⟨(τ4.next + 1), rfl, by simp (disch := omega) [get_alloc_ne, get_set_ne, get_kill_ne, go_sem, f12, f14, f37, f38, f39, f6, f8, gb6, gb8, gb12, xpn3, xln3, xdn3, nb6_0, nb6_1, nb8_0, nb8_1, nb12_0, nb12_1, nb6_b8, nb6_b12, nb8_b6, nb8_b12, nb12_b6, nb12_b8, nv, mv, m0_, m1_, sub_set, sub_killAll, hsub, ea], by simp [go_sem, f12, f14, f37, f38, f39, f6, f8, gb6, gb8, gb12, xpn3, xln3, xdn3, nb6_0, nb6_1, nb8_0, nb8_1, nb12_0, nb12_1, nb6_b8, nb6_b12, nb8_b6, nb8_b12, nb12_b6, nb12_b8, nv, mv, m0_, m1_, sub_set, sub_killAll, hsub, ea], by omega, by first | (simp [go_sem]; done) | (simp [go_sem]; omega)⟩, by intro i hi; first | (simp [idOf] at hi; done) | (simp [idOf] at hi; omega), by intro i hi; first | (simp [idOf] at hi; done) | (simp [idOf] at hi; omega), by intro i hi; first | (simp [idOf] at hi; done) | (simp [idOf] at hi; omega)⟩ <;> simp [go_sem, f12, f14, f37, f38, f39, f6, f8, gb6, gb8, gb12, xpn3, xln3, xdn3, nb6_0, nb6_1, nb8_0, nb8_1, nb12_0, nb12_1, nb6_b8, nb6_b12, nb8_b6, nb8_b12, nb12_b6, nb12_b8, nv, mv, m0_, m1_, sub_set, sub_killAll, hsub, ea]
   ·have nv_0 : ¬ ov = τ4.next := by omega
    have nv_1 : ¬ ov = τ4.next + 1 := by omega
    have nv_b6 : ¬ ov = b6 := evb6 _ rfl
    have nb6_v : ¬ b6 = ov := fun e => evb6 _ rfl e.symm
    have nv_b8 : ¬ ov = b8 := evb8 _ rfl
    have nb8_v : ¬ b8 = ov := fun e => evb8 _ rfl e.symm
    have nv_b12 : ¬ ov = b12 := evb12 _ rfl
    have nb12_v : ¬ b12 = ov := fun e => evb12 _ rfl e.symm
    have ca_0 : x.length ≤ 9223372036854775806 := by have c_ := la; (try simp at c_); omega
    have ca_1 : (x.length + 1) * 8 ≤ 140737488355328 := by have c_ := la; (try simp at c_); omega
    refine EW_regionY (τ4.kill ov) 9 (.q false 0 (.q false 1 (.q false 2 (.q false 3 (.q false 4 (.q false 5 (.q false 6 (.s 7 (.s 8 .done))))))))) (by kernel_rfl) (by kernel_rfl) (sub_kill ov (fun _ _ h => h)) (fun hfin => ?_)
    have m0_ : τ4.get (τ4.next) = none := hfin _ (by omega)
    have m1_ : τ4.get (τ4.next + 1) = none := hfin _ (by omega)
    have hsub : Sub (τ4.kill ov) τ4 := (sub_kill ov (fun _ _ h => h))
    simp (maxDischargeDepth := 12) [go_sem, f12, f14, f37, f38, f39, f6, f8, gb6, gb8, gb12, xpn3, xln3, xdn3, nb6_0, nb6_1, nb8_0, nb8_1, nb12_0, nb12_1, nb6_b8, nb6_b12, nb8_b6, nb8_b12, nb12_b6, nb12_b8, gov, tov, nv_0, nv_1, nv_b6, nb6_v, nv_b8, nb8_v, nv_b12, nb12_v, ca_0, ca_1, m0_, m1_, sub_set, sub_killAll, hsub]
    refine (hM _ _).2 ⟨AV.arr (τ4.next + 1) 0 a.length 1, ?_, ?_, ?_, ?_, ?_, ?_, by intro j hj; have hj_ := hK j hj; simp [go_sem, hj_.1, hj_.2, show ¬ j = τ4.next by omega, show ¬ j = τ4.next + 1 by omega, show ¬ j = b12 by omega, show ¬ j = ov by omega], by first | omega | (simp [go_sem]; done) | (simp [go_sem]; omega), by simp (disch := omega) [get_alloc_ne, get_set_ne, get_kill_ne, go_sem, f12, f14, f37, f38, f39, f6, f8, gb6, gb8, gb12, xpn3, xln3, xdn3, nb6_0, nb6_1, nb8_0, nb8_1, nb12_0, nb12_1, nb6_b8, nb6_b12, nb8_b6, nb8_b12, nb12_b6, nb12_b8, gov, tov, nv_0, nv_1, nv_b6, nb6_v, nv_b8, nb8_v, nv_b12, nb12_v, ca_0, ca_1, m0_, m1_, sub_set, sub_killAll, hsub, ea], by first | omega | (simp [go_sem]; done) | (simp [go_sem]; omega), by simp (disch := omega) [get_alloc_ne, get_set_ne, get_kill_ne, go_sem, f12, f14, f37, f38, f39, f6, f8, gb6, gb8, gb12, xpn3, xln3, xdn3, nb6_0, nb6_1, nb8_0, nb8_1, nb12_0, nb12_1, nb6_b8, nb6_b12, nb8_b6, nb8_b12, nb12_b6, nb12_b8, gov, tov, nv_0, nv_1, nv_b6, nb6_v, nv_b8, nb8_v, nv_b12, nb12_v, ca_0, ca_1, m0_, m1_, sub_set, sub_killAll, hsub, ea], by first | omega | (simp [go_sem]; done) | (simp [go_sem]; omega), by simp (disch := omega) [get_alloc_ne, get_set_ne, get_kill_ne, go_sem, f12, f14, f37, f38, f39, f6, f8, gb6, gb8, gb12, xpn3, xln3, xdn3, nb6_0, nb6_1, nb8_0, nb8_1, nb12_0, nb12_1, nb6_b8, nb6_b12, nb8_b6, nb8_b12, nb12_b6, nb12_b8, gov, tov, nv_0, nv_1, nv_b6, nb6_v, nv_b8, nb8_v, nv_b12, nb12_v, ca_0, ca_1, m0_, m1_, sub_set, sub_killAll, hsub, ea], by first | omega | (simp [go_sem]; done) | (simp [go_sem]; omega), .inr ⟨(τ4.next + 1), rfl, by simp (disch := omega) [get_alloc_ne, get_set_ne, get_kill_ne, go_sem, f12, f14, f37, f38, f39, f6, f8, gb6, gb8, gb12, xpn3, xln3, xdn3, nb6_0, nb6_1, nb8_0, nb8_1, nb12_0, nb12_1, nb6_b8, nb6_b12, nb8_b6, nb8_b12, nb12_b6, nb12_b8, gov, tov, nv_0, nv_1, nv_b6, nb6_v, nv_b8, nb8_v, nv_b12, nb12_v, ca_0, ca_1, m0_, m1_, sub_set, sub_killAll, hsub, ea], by simp [go_sem, f12, f14, f37, f38, f39, f6, f8, gb6, gb8, gb12, xpn3, xln3, xdn3, nb6_0, nb6_1, nb8_0, nb8_1, nb12_0, nb12_1, nb6_b8, nb6_b12, nb8_b6, nb8_b12, nb12_b6, nb12_b8, gov, tov, nv_0, nv_1, nv_b6, nb6_v, nv_b8, nb8_v, nv_b12, nb12_v, ca_0, ca_1, m0_, m1_, sub_set, sub_killAll, hsub, ea], by omega, by first | (simp [go_sem]; done) | (simp [go_sem]; omega)⟩, by intro i hi; first | (simp [idOf] at hi; done) | (simp [idOf] at hi; omega), by intro i hi; first | (simp [idOf] at hi; done) | (simp [idOf] at hi; omega), by intro i hi; first | (simp [idOf] at hi; done) | (simp [idOf] at hi; omega)⟩ <;> simp [go_sem, f12, f14, f37, f38, f39, f6, f8, gb6, gb8, gb12, xpn3, xln3, xdn3, nb6_0, nb6_1, nb8_0, nb8_1, nb12_0, nb12_1, nb6_b8, nb6_b12, nb8_b6, nb8_b12, nb12_b6, nb12_b8, gov, tov, nv_0, nv_1, nv_b6, nb6_v, nv_b8, nb8_v, nv_b12, nb12_v, ca_0, ca_1, m0_, m1_, sub_set, sub_killAll, hsub, ea]
  clear f12 f14 f37 f38 f39 f6 f8 hK hN gb6 ub6 gb8 ub8 gb12 ub12 av
  obtain ⟨v1, f6, f8, f12, f37, f38, f39, hK, hN, gb6, ub6, gb8, ub8, gb12, ub12, av1, ev1b6, ev1b8, ev1b12⟩ := hm
  refine SW.blk ?_
  refine SW.regX (fun f_ t_ => τ5 = t_ ∧ f_ 6 = AV.ptr b6 0 ∧ f_ 8 = AV.ptr b8 0 ∧ f_ 12 = AV.ptr b12 0 ∧ f_ 37 = intsA (m.nodes) ∧ f_ 38 = AV.int (((m.nodes.length : Nat) : Int)) ∧ f_ 39 = AV.int (((k + 1 : Nat) : Int))) (fun M hM => ?_) (fun fr14 τz7 hm => ?_)
  ·simp [go_sem, f12, f37, f38, f39, f6, f8, gb6, gb8, gb12, hwk]
   refine (hM _ _).2 ⟨rfl, ?_, ?_, ?_, ?_, ?_, ?_⟩ <;> simp [go_sem, f12, f37, f38, f39, f6, f8, gb6, gb8, gb12, hwk]
  clear f12 f37 f38 f39 f6 f8
  obtain ⟨rfl, f6, f8, f12, f37, f38, f39⟩ := hm
  obtain rfl := Option.some.inj hbi
  exact SW.goal ⟨m.nodes.length - (k + 1), by omega, (hJ _ _ _).2 ⟨k + 1, a, v1, rfl, hci, f6, f8, f12, f37, f38, f39, hK, hN, gb6, ub6, gb8, ub8, gb12, ub12, av1, ev1b6, ev1b8, ev1b12⟩⟩
 intro fr15 τ6 hm
 rw [hKL] at hm
 clear hKL hruni
 clear f12 f37 f38 f39 f6 f8 hK hN gb6 ub6 gb8 ub8 gb12 ub12
 obtain ⟨x, v, rfl, f8, f12, hK, hN, gb8, ub8, gb12, ub12, av, evb8, evb12⟩ := hm
 simp only [Out.on] at hoi
 refine SW.seq ?_
 refine SW.regX (fun f_ t_ => f_ 8 = AV.ptr b8 0 ∧ f_ 9 = AV.int (0) ∧ Kept σ0 t_ ∧ σ0.next ≤ t_.next ∧ t_.get b8 = some [v, e3sA (rx)] ∧ b8 < t_.next ∧ ArrAt σ0.next t_ v 3 (x.map AV.int) x.length 1) (fun M hM => ?_) (fun fr16 τ7 hm => ?_)
 ·have nb12_b8 : ¬ b12 = b8 := by omega
  have zv := av
  rcases zv with ⟨rfl, nv, mv⟩ | ⟨ov, rfl, gov, tov, lov, hiv⟩
  ·simp [go_sem, f12, f8, gb8, gb12, nb12_b8, nv, mv]
   refine (hM _ _).2 ⟨?_, ?_, by intro j hj; have hj_ := hK j hj; simp [go_sem, hj_.1, hj_.2, show ¬ j = b8 by omega], by first | omega | (simp [go_sem]; done) | (simp [go_sem]; omega), by simp (disch := omega) [get_alloc_ne, get_set_ne, get_kill_ne, go_sem, f12, f8, gb8, gb12, nb12_b8, nv, mv], by first | omega | (simp [go_sem]; done) | (simp [go_sem]; omega), av.same' (by simp [go_sem]; try omega) (fun i hi => by have zl := arrAt_lt av i hi; have zs0 := evb8 i hi; constructor <;> simp [go_sem, zs0])⟩ <;> simp [go_sem, f12, f8, gb8, gb12, nb12_b8, nv, mv]
  ·have nv_b8 : ¬ ov = b8 := evb8 _ rfl
   have nb8_v : ¬ b8 = ov := fun e => evb8 _ rfl e.symm
   have nv_b12 : ¬ ov = b12 := evb12 _ rfl
   have nb12_v : ¬ b12 = ov := fun e => evb12 _ rfl e.symm
   simp [go_sem, f12, f8, gb8, gb12, nb12_b8, gov, tov, nv_b8, nb8_v, nv_b12, nb12_v]
   refine (hM _ _).2 ⟨?_, ?_, by intro j hj; have hj_ := hK j hj; simp [go_sem, hj_.1, hj_.2, show ¬ j = b8 by omega], by first | omega | (simp [go_sem]; done) | (simp [go_sem]; omega), by simp (disch := omega) [get_alloc_ne, get_set_ne, get_kill_ne, go_sem, f12, f8, gb8, gb12, nb12_b8, gov, tov, nv_b8, nb8_v, nv_b12, nb12_v], by first | omega | (simp [go_sem]; done) | (simp [go_sem]; omega), av.same' (by simp [go_sem]; try omega) (fun i hi => by have zl := arrAt_lt av i hi; have zs0 := evb8 i hi; constructor <;> simp [go_sem, zs0])⟩ <;> simp [go_sem, f12, f8, gb8, gb12, nb12_b8, gov, tov, nv_b8, nb8_v, nv_b12, nb12_v]
 clear f12 f8 hK hN gb8 ub8 gb12 ub12 av
 obtain ⟨f8, f9, hK, hN, gb8, ub8, av⟩ := hm
 obtain rfl := Option.some.inj hoi
 exact SW.ret ⟨AV.tup [AV.agg [v, e3sA (rx)], AV.int (0)], by simp [go_sem, f8, f9, gb8], frz_tupL (frzL_c (frz_aggL (frzL_c (av.frz (DataL.map (fun _ => .lit _) x)) (frzL_c ((DataA.imm (DataL.flatMap gd_e3C rx)) _ _) (frzL_n)))) (frzL_c (.lit _) (frzL_n))), hK.keeps⟩
set_option maxHeartbeats 4000000 in
theorem w_ref05_SameInts (a : List Int) (b : List Int) (r : (Bool)) (h : s_ref05_SameInts a b = some r) : PureA Tryz.prog 40 [intsA (a), intsA (b)] (AV.bool (r)) := by
 refine pureA_of_SW (N := 26) Tryz.func40 (by kernel_rfl) rfl (by rw [Tryz.ntmps40]; rfl) (fun σ0 => ?_)
 rw [Tryz.results40]
 obtain ⟨fr0, hfr⟩ : ∃ fr, fr = initFr [intsA (a), intsA (b)] := ⟨_, rfl⟩
 rw [← hfr]
 have f0 : fr0 0 = intsA (a) := by rw [hfr]; rfl
 have f1 : fr0 1 = intsA (b) := by rw [hfr]; rfl
 clear hfr
 simp only [s_ref05_SameInts] at h
 refine SW.seq ?_
 refine SW.regX (fun f_ t_ => σ0 = t_ ∧ f_ 0 = intsA (a) ∧ f_ 1 = intsA (b)) (fun M hM => ?_) (fun fr1 τz hm => ?_)
 ·simp [go_sem, f0, f1]
  refine (hM _ _).2 ⟨rfl, ?_, ?_⟩ <;> simp [go_sem, f0, f1]
 clear f0 f1
 obtain ⟨rfl, f0, f1⟩ := hm
 refine SW.seq ?_
 refine SW.seq ?_
 refine SW.regX (fun f_ t_ => σ0 = t_ ∧ f_ 0 = intsA (a) ∧ f_ 1 = intsA (b) ∧ f_ 10 = AV.bool ((!decide (a.length = b.length)))) (fun M hM => ?_) (fun fr2 τz1 hm => ?_)
 ·simp [go_sem, f0, f1]
  refine (hM _ _).2 ⟨rfl, ?_, ?_, ?_⟩ <;> simp [go_sem, f0, f1]
 clear f0 f1
 obtain ⟨rfl, f0, f1, f10⟩ := hm
 refine SW.cond _ f10 (fun hx => ?_) (fun hx => ?_)
 ·have h := condT h hx
  refine SW.seq ?_
  refine SW.regX (fun f_ t_ => σ0 = t_ ∧ f_ 4 = AV.bool (false)) (fun M hM => ?_) (fun fr3 τz2 hm => ?_)
  ·simp [go_sem, f0, f1, f10]
   refine (hM _ _).2 ⟨rfl, ?_⟩ <;> simp [go_sem, f0, f1, f10]
  clear f0 f1 f10
  obtain ⟨rfl, f4⟩ := hm
  obtain rfl := Option.some.inj h
  exact SW.ret ⟨AV.bool (false), by simp [go_sem, f4], .lit _, Keeps.refl _⟩
 have h := condF h hx
 refine SW.skip ?_
 refine SW.seq ?_
 refine SW.seq ?_
 refine SW.regX (fun f_ t_ => σ0 = t_ ∧ f_ 0 = intsA (a) ∧ f_ 1 = intsA (b) ∧ f_ 5 = AV.int (0)) (fun M hM => ?_) (fun fr4 τz3 hm => ?_)
 ·simp [go_sem, f0, f1, f10]
  refine (hM _ _).2 ⟨rfl, ?_, ?_, ?_⟩ <;> simp [go_sem, f0, f1, f10]
 clear f0 f1 f10
 obtain ⟨rfl, f0, f1, f5⟩ := hm
 obtain ⟨oi1, hruni1, hoi1⟩ := obind h
 refine SW.len 0 f0 (fun hbigi1 => ?_)
 obtain ⟨KL, hKL⟩ : ∃ KL : Fr → Mem → Prop, ∀ fr' τ', KL fr' τ' ↔ (oi1 = .done () ∧ σ0 = τ') := ⟨_, fun _ _ => Iff.rfl⟩
 refine SW.cut KL ?_ ?_
 ·refine SW.block ?_
  obtain ⟨J, hJ⟩ : ∃ J : Nat → Fr → Mem → Prop, ∀ m_ fr' τ', J m_ fr' τ' ↔ (∃ i : Nat, m_ = a.length - i ∧ forN (b1_ref05_SameInts a b) (a.length - i) i () = some oi1 ∧ σ0 = τ' ∧ fr' 0 = intsA (a) ∧ fr' 1 = intsA (b) ∧ fr' 5 = AV.int (((i : Nat) : Int))) := ⟨_, fun _ _ _ => Iff.rfl⟩
  refine SW.loop J (a.length - 0) ((hJ _ _ _).2 ⟨0, rfl, hruni1, rfl, f0, f1, f5⟩) ?_
  clear hruni1
  intro m_ fr5 τ hm
  rw [hJ] at hm
  clear f0 f1 f5
  obtain ⟨i, rfl, hruni1, rfl, f0, f1, f5⟩ := hm
  refine SW.seq ?_
  refine SW.seq ?_
  refine SW.regX (fun f_ t_ => σ0 = t_ ∧ f_ 0 = intsA (a) ∧ f_ 1 = intsA (b) ∧ f_ 5 = AV.int (((i : Nat) : Int)) ∧ f_ 14 = AV.bool ((decide (i < a.length)))) (fun M hM => ?_) (fun fr6 τz4 hm => ?_)
  ·simp [go_sem, f0, f1, f5]
   refine (hM _ _).2 ⟨rfl, ?_, ?_, ?_, ?_⟩ <;> simp [go_sem, f0, f1, f5]
  clear f0 f1 f5
  obtain ⟨rfl, f0, f1, f5, f14⟩ := hm
  refine SW.cond _ f14 (fun hx1 => ?_) (fun hx1 => ?_)
  rotate_left
  ·have hk : ¬ i < a.length := by have := of_decide_eq_false hx1; omega
   refine SW.exit rfl ?_
   exact SW.goal ((hKL _ _).2 ⟨forN_end hruni1 hk, rfl⟩)
  have hki : i < a.length := by have := of_decide_eq_true hx1; omega
  have hwi : IntKind.i64.wrap ((i : Int) + 1) = ((i + 1 : Nat) : Int) := by rw [wrap64_of _ (by omega) (by omega)]; rfl
  obtain ⟨ci1, hbi1, hci1⟩ := forN_step hruni1 hki
  simp only [b1_ref05_SameInts] at hbi1
  refine SW.skip ?_
  refine SW.seq ?_
  refine SW.block ?_
  refine SW.seq ?_
  obtain ⟨n, hn, hbi1⟩ := obind hbi1
  have xln := getN_lt hn
  have xdn := getN_map AV.int hn
  obtain ⟨n1, hn1, hbi1⟩ := obind hbi1
  have xln1 := getN_lt hn1
  have xdn1 := getN_map AV.int hn1
  refine SW.regX (fun f_ t_ => σ0 = t_ ∧ f_ 0 = intsA (a) ∧ f_ 1 = intsA (b) ∧ f_ 5 = AV.int (((i : Nat) : Int)) ∧ f_ 25 = AV.bool ((!decide (n = n1)))) (fun M hM => ?_) (fun fr7 τz5 hm => ?_)
  ·refine EW_regionD (by kernel_rfl) (by kernel_rfl) ?_
   simp [go_sem, f0, f1, f14, f5, xln, xdn, xln1, xdn1]
   refine (hM _ _).2 ⟨rfl, ?_, ?_, ?_, ?_⟩ <;> simp [go_sem, f0, f1, f14, f5, xln, xdn, xln1, xdn1]
  clear f0 f1 f14 f5
  obtain ⟨rfl, f0, f1, f5, f25⟩ := hm
  refine SW.cond _ f25 (fun hx2 => ?_) (fun hx2 => ?_)
  ·have hbi1 := condT hbi1 hx2
   refine SW.seq ?_
   refine SW.regX (fun f_ t_ => σ0 = t_ ∧ f_ 4 = AV.bool (false)) (fun M hM => ?_) (fun fr8 τz6 hm => ?_)
   ·simp [go_sem, f0, f1, f25, f5]
    refine (hM _ _).2 ⟨rfl, ?_⟩ <;> simp [go_sem, f0, f1, f25, f5]
   clear f0 f1 f25 f5
   obtain ⟨rfl, f4⟩ := hm
   obtain rfl := Option.some.inj hbi1
   obtain rfl := Option.some.inj hci1
   obtain rfl := Option.some.inj hoi1
   exact SW.ret ⟨AV.bool (false), by simp [go_sem, f4], .lit _, Keeps.refl _⟩
  have hbi1 := condF hbi1 hx2
  refine SW.skip ?_
  refine SW.blk ?_
  refine SW.regX (fun f_ t_ => σ0 = t_ ∧ f_ 0 = intsA (a) ∧ f_ 1 = intsA (b) ∧ f_ 5 = AV.int (((i + 1 : Nat) : Int))) (fun M hM => ?_) (fun fr9 τz7 hm => ?_)
  ·simp [go_sem, f0, f1, f25, f5, hwi]
   refine (hM _ _).2 ⟨rfl, ?_, ?_, ?_⟩ <;> simp [go_sem, f0, f1, f25, f5, hwi]
  clear f0 f1 f25 f5
  obtain ⟨rfl, f0, f1, f5⟩ := hm
  obtain rfl := Option.some.inj hbi1
  exact SW.goal ⟨a.length - (i + 1), by omega, (hJ _ _ _).2 ⟨i + 1, rfl, hci1, rfl, f0, f1, f5⟩⟩
 intro fr10 τ1 hm
 rw [hKL] at hm
 clear hKL hruni1
 clear f0 f1 f5
 obtain ⟨rfl, rfl⟩ := hm
 simp only [Out.on] at hoi1
 refine SW.seq ?_
 refine SW.regX (fun f_ t_ => σ0 = t_ ∧ f_ 4 = AV.bool (true)) (fun M hM => ?_) (fun fr11 τz8 hm => ?_)
 ·simp [go_sem]
  refine (hM _ _).2 ⟨rfl, ?_⟩ <;> simp [go_sem]
 obtain ⟨rfl, f4⟩ := hm
 obtain rfl := Option.some.inj hoi1
 exact SW.ret ⟨AV.bool (true), by simp [go_sem, f4], .lit _, Keeps.refl _⟩
set_option maxHeartbeats 4000000 in
theorem w_ref17_SameAll (a : List Morph) (b : List Morph) (r : (Bool)) (h : s_ref17_SameAll a b = some r) : PureA Tryz.prog 20 [morphsA (a), morphsA (b)] (AV.bool (r)) := by
 refine pureA_of_SW (N := 43) Tryz.func20 (by kernel_rfl) rfl (by rw [Tryz.ntmps20]; rfl) (fun σ0 => ?_)
 rw [Tryz.results20]
 obtain ⟨fr0, hfr⟩ : ∃ fr, fr = initFr [morphsA (a), morphsA (b)] := ⟨_, rfl⟩
 rw [← hfr]
 have f0 : fr0 0 = morphsA (a) := by rw [hfr]; rfl
 have f1 : fr0 1 = morphsA (b) := by rw [hfr]; rfl
 clear hfr
 simp only [s_ref17_SameAll] at h
 refine SW.seq ?_
 refine SW.regX (fun f_ t_ => σ0 = t_ ∧ f_ 0 = morphsA (a) ∧ f_ 1 = morphsA (b)) (fun M hM => ?_) (fun fr1 τz hm => ?_)
 ·simp [go_sem, f0, f1]
  refine (hM _ _).2 ⟨rfl, ?_, ?_⟩ <;> simp [go_sem, f0, f1]
 clear f0 f1
 obtain ⟨rfl, f0, f1⟩ := hm
 refine SW.seq ?_
 refine SW.seq ?_
 refine SW.regX (fun f_ t_ => σ0 = t_ ∧ f_ 0 = morphsA (a) ∧ f_ 1 = morphsA (b) ∧ f_ 10 = AV.bool ((!decide (a.length = b.length)))) (fun M hM => ?_) (fun fr2 τz1 hm => ?_)
 ·simp [go_sem, f0, f1]
  refine (hM _ _).2 ⟨rfl, ?_, ?_, ?_⟩ <;> simp [go_sem, f0, f1]
 clear f0 f1
 obtain ⟨rfl, f0, f1, f10⟩ := hm
 refine SW.cond _ f10 (fun hx => ?_) (fun hx => ?_)
 ·have h := condT h hx
  refine SW.seq ?_
  refine SW.regX (fun f_ t_ => σ0 = t_ ∧ f_ 4 = AV.bool (false)) (fun M hM => ?_) (fun fr3 τz2 hm => ?_)
  ·simp [go_sem, f0, f1, f10]
   refine (hM _ _).2 ⟨rfl, ?_⟩ <;> simp [go_sem, f0, f1, f10]
  clear f0 f1 f10
  obtain ⟨rfl, f4⟩ := hm
  obtain rfl := Option.some.inj h
  exact SW.ret ⟨AV.bool (false), by simp [go_sem, f4], .lit _, Keeps.refl _⟩
 have h := condF h hx
 refine SW.skip ?_
 refine SW.seq ?_
 refine SW.seq ?_
 refine SW.regX (fun f_ t_ => σ0 = t_ ∧ f_ 0 = morphsA (a) ∧ f_ 1 = morphsA (b) ∧ f_ 5 = AV.int (0)) (fun M hM => ?_) (fun fr4 τz3 hm => ?_)
 ·simp [go_sem, f0, f1, f10]
  refine (hM _ _).2 ⟨rfl, ?_, ?_, ?_⟩ <;> simp [go_sem, f0, f1, f10]
 clear f0 f1 f10
 obtain ⟨rfl, f0, f1, f5⟩ := hm
 obtain ⟨oi1, hruni1, hoi1⟩ := obind h
 refine SW.len 0 f0 (fun hbigi1 => ?_)
 obtain ⟨KL, hKL⟩ : ∃ KL : Fr → Mem → Prop, ∀ fr' τ', KL fr' τ' ↔ (oi1 = .done () ∧ σ0 = τ') := ⟨_, fun _ _ => Iff.rfl⟩
 refine SW.cut KL ?_ ?_
 ·refine SW.block ?_
  obtain ⟨J, hJ⟩ : ∃ J : Nat → Fr → Mem → Prop, ∀ m_ fr' τ', J m_ fr' τ' ↔ (∃ i : Nat, m_ = a.length - i ∧ forN (b1_ref17_SameAll a b) (a.length - i) i () = some oi1 ∧ σ0 = τ' ∧ fr' 0 = morphsA (a) ∧ fr' 1 = morphsA (b) ∧ fr' 5 = AV.int (((i : Nat) : Int))) := ⟨_, fun _ _ _ => Iff.rfl⟩
  refine SW.loop J (a.length - 0) ((hJ _ _ _).2 ⟨0, rfl, hruni1, rfl, f0, f1, f5⟩) ?_
  clear hruni1
  intro m_ fr5 τ hm
  rw [hJ] at hm
  clear f0 f1 f5
  obtain ⟨i, rfl, hruni1, rfl, f0, f1, f5⟩ := hm
  refine SW.seq ?_
  refine SW.seq ?_
  refine SW.regX (fun f_ t_ => σ0 = t_ ∧ f_ 0 = morphsA (a) ∧ f_ 1 = morphsA (b) ∧ f_ 5 = AV.int (((i : Nat) : Int)) ∧ f_ 14 = AV.bool ((decide (i < a.length)))) (fun M hM => ?_) (fun fr6 τz4 hm => ?_)
  ·simp [go_sem, f0, f1, f5]
   refine (hM _ _).2 ⟨rfl, ?_, ?_, ?_, ?_⟩ <;> simp [go_sem, f0, f1, f5]
  clear f0 f1 f5
  obtain ⟨rfl, f0, f1, f5, f14⟩ := hm
  refine SW.cond _ f14 (fun hx1 => ?_) (fun hx1 => ?_)
  rotate_left
  ·have hk : ¬ i < a.length := by have := of_decide_eq_false hx1; omega
   refine SW.exit rfl ?_
   exact SW.goal ((hKL _ _).2 ⟨forN_end hruni1 hk, rfl⟩)
  have hki : i < a.length := by have := of_decide_eq_true hx1; omega
  have hwi : IntKind.i64.wrap ((i : Int) + 1) = ((i + 1 : Nat) : Int) := by rw [wrap64_of _ (by omega) (by omega)]; rfl
  obtain ⟨ci1, hbi1, hci1⟩ := forN_step hruni1 hki
  simp only [b1_ref17_SameAll] at hbi1
  refine SW.skip ?_
  refine SW.seq ?_
  refine SW.block ?_
  refine SW.seq ?_
  obtain ⟨x, hx, hbi1⟩ := obind hbi1
  have xlx := getN_lt hx
  have xdx := getN_flat morphC 2 (fun _ => rfl) hx
  obtain ⟨x1, hx1, hbi1⟩ := obind hbi1
  have xlx1 := getN_lt hx1
  have xdx1 := getN_flat morphC 2 (fun _ => rfl) hx1
  obtain ⟨q, hq, hbi1⟩ := obind hbi1
  obtain ⟨c, hc, hbi1⟩ := obind hbi1
  refine SW.regX (fun f_ t_ => σ0 = t_ ∧ f_ 0 = morphsA (a) ∧ f_ 1 = morphsA (b) ∧ f_ 5 = AV.int (((i : Nat) : Int)) ∧ f_ 42 = AV.bool (c)) (fun M hM => ?_) (fun fr7 τz5 hm => ?_)
  ·refine EW_regionD (by kernel_rfl) (by kernel_rfl) ?_
   rcases Bool.eq_false_or_eq_true ((!q)) with y0 | y0
   ·have y0' := y0
    try simp at y0'
    have ky0 := condT hc y0
    have ec := Option.some.inj ky0
    simp [go_sem, f0, f1, f14, f5, xlx, xdx, morphC, xlx1, xdx1, morphC, y0, y0']
    refine EWqcall_pure (w_ref05_SameInts x.nodes x1.nodes _ hq) rfl ?_
    simp [go_sem, f0, f1, f14, f5, xlx, xdx, morphC, xlx1, xdx1, morphC, y0, y0']
    refine (hM _ _).2 ⟨rfl, ?_, ?_, ?_, ?_⟩ <;> simp [go_sem, f0, f1, f14, f5, xlx, xdx, morphC, xlx1, xdx1, morphC, y0, y0', ← ec]
   ·have y0' := y0
    try simp at y0'
    have ky0 := condF hc y0
    obtain ⟨q1, hq1, ky0⟩ := obind ky0
    have ec := Option.some.inj ky0
    simp [go_sem, f0, f1, f14, f5, xlx, xdx, morphC, xlx1, xdx1, morphC, y0, y0', xlx, xdx, morphC, xlx1, xdx1]
    refine EWqcall_pure (w_ref05_SameInts x.nodes x1.nodes _ hq) rfl ?_
    simp [go_sem, f0, f1, f14, f5, xlx, xdx, morphC, xlx1, xdx1, morphC, y0, y0', xlx, xdx, morphC, xlx1, xdx1]
    refine EWqcall_pure (w_ref05_SameInts x.edges x1.edges _ hq1) rfl ?_
    simp [go_sem, f0, f1, f14, f5, xlx, xdx, morphC, xlx1, xdx1, morphC, y0, y0', xlx, xdx, morphC, xlx1, xdx1]
    refine (hM _ _).2 ⟨rfl, ?_, ?_, ?_, ?_⟩ <;> simp [go_sem, f0, f1, f14, f5, xlx, xdx, morphC, xlx1, xdx1, morphC, y0, y0', xlx, xdx, morphC, xlx1, xdx1, ← ec]
  clear f0 f1 f14 f5
  obtain ⟨rfl, f0, f1, f5, f42⟩ := hm
  refine SW.cond _ f42 (fun hx2 => ?_) (fun hx2 => ?_)
  ·have hbi1 := condT hbi1 hx2
   refine SW.seq ?_
   refine SW.regX (fun f_ t_ => σ0 = t_ ∧ f_ 4 = AV.bool (false)) (fun M hM => ?_) (fun fr8 τz6 hm => ?_)
   ·simp [go_sem, f0, f1, f42, f5]
    refine (hM _ _).2 ⟨rfl, ?_⟩ <;> simp [go_sem, f0, f1, f42, f5]
   clear f0 f1 f42 f5
   obtain ⟨rfl, f4⟩ := hm
   obtain rfl := Option.some.inj hbi1
   obtain rfl := Option.some.inj hci1
   obtain rfl := Option.some.inj hoi1
   exact SW.ret ⟨AV.bool (false), by simp [go_sem, f4], .lit _, Keeps.refl _⟩
  have hbi1 := condF hbi1 hx2
  refine SW.skip ?_
  refine SW.blk ?_
  refine SW.regX (fun f_ t_ => σ0 = t_ ∧ f_ 0 = morphsA (a) ∧ f_ 1 = morphsA (b) ∧ f_ 5 = AV.int (((i + 1 : Nat) : Int))) (fun M hM => ?_) (fun fr9 τz7 hm => ?_)
  ·simp [go_sem, f0, f1, f42, f5, hwi]
   refine (hM _ _).2 ⟨rfl, ?_, ?_, ?_⟩ <;> simp [go_sem, f0, f1, f42, f5, hwi]
  clear f0 f1 f42 f5
  obtain ⟨rfl, f0, f1, f5⟩ := hm
  obtain rfl := Option.some.inj hbi1
  exact SW.goal ⟨a.length - (i + 1), by omega, (hJ _ _ _).2 ⟨i + 1, rfl, hci1, rfl, f0, f1, f5⟩⟩
 intro fr10 τ1 hm
 rw [hKL] at hm
 clear hKL hruni1
 clear f0 f1 f5
 obtain ⟨rfl, rfl⟩ := hm
 simp only [Out.on] at hoi1
 refine SW.seq ?_
 refine SW.regX (fun f_ t_ => σ0 = t_ ∧ f_ 4 = AV.bool (true)) (fun M hM => ?_) (fun fr11 τz8 hm => ?_)
 ·simp [go_sem]
  refine (hM _ _).2 ⟨rfl, ?_⟩ <;> simp [go_sem]
 obtain ⟨rfl, f4⟩ := hm
 obtain rfl := Option.some.inj hoi1
 exact SW.ret ⟨AV.bool (true), by simp [go_sem, f4], .lit _, Keeps.refl _⟩
set_option maxHeartbeats 4000000 in
theorem w_slices_Equal_int (s1 : List Int) (s2 : List Int) (r : (Bool)) (h : s_slices_Equal_int s1 s2 = some r) : PureA Tryz.prog 32 [intsA (s1), intsA (s2)] (AV.bool (r)) := by
 refine pureA_of_SW (N := 26) Tryz.func32 (by kernel_rfl) rfl (by rw [Tryz.ntmps32]; rfl) (fun σ0 => ?_)
 rw [Tryz.results32]
 obtain ⟨fr0, hfr⟩ : ∃ fr, fr = initFr [intsA (s1), intsA (s2)] := ⟨_, rfl⟩
 rw [← hfr]
 have f0 : fr0 0 = intsA (s1) := by rw [hfr]; rfl
 have f1 : fr0 1 = intsA (s2) := by rw [hfr]; rfl
 clear hfr
 simp only [s_slices_Equal_int] at h
 refine SW.seq ?_
 refine SW.regX (fun f_ t_ => σ0 = t_ ∧ f_ 0 = intsA (s1) ∧ f_ 1 = intsA (s2)) (fun M hM => ?_) (fun fr1 τz hm => ?_)
 ·simp [go_sem, f0, f1]
  refine (hM _ _).2 ⟨rfl, ?_, ?_⟩ <;> simp [go_sem, f0, f1]
 clear f0 f1
 obtain ⟨rfl, f0, f1⟩ := hm
 refine SW.seq ?_
 refine SW.seq ?_
 refine SW.regX (fun f_ t_ => σ0 = t_ ∧ f_ 0 = intsA (s1) ∧ f_ 1 = intsA (s2) ∧ f_ 10 = AV.bool ((!decide (s1.length = s2.length)))) (fun M hM => ?_) (fun fr2 τz1 hm => ?_)
 ·simp [go_sem, f0, f1]
  refine (hM _ _).2 ⟨rfl, ?_, ?_, ?_⟩ <;> simp [go_sem, f0, f1]
 clear f0 f1
 obtain ⟨rfl, f0, f1, f10⟩ := hm
 refine SW.cond _ f10 (fun hx => ?_) (fun hx => ?_)
 ·have h := condT h hx
  refine SW.seq ?_
  refine SW.regX (fun f_ t_ => σ0 = t_ ∧ f_ 4 = AV.bool (false)) (fun M hM => ?_) (fun fr3 τz2 hm => ?_)
  ·simp [go_sem, f0, f1, f10]
   refine (hM _ _).2 ⟨rfl, ?_⟩ <;> simp [go_sem, f0, f1, f10]
  clear f0 f1 f10
  obtain ⟨rfl, f4⟩ := hm
  obtain rfl := Option.some.inj h
  exact SW.ret ⟨AV.bool (false), by simp [go_sem, f4], .lit _, Keeps.refl _⟩
 have h := condF h hx
 refine SW.skip ?_
 refine SW.seq ?_
 refine SW.seq ?_
 refine SW.regX (fun f_ t_ => σ0 = t_ ∧ f_ 0 = intsA (s1) ∧ f_ 1 = intsA (s2) ∧ f_ 12 = AV.int (((s1.length : Nat) : Int)) ∧ f_ 13 = AV.int (0)) (fun M hM => ?_) (fun fr4 τz3 hm => ?_)
 ·simp [go_sem, f0, f1, f10]
  refine (hM _ _).2 ⟨rfl, ?_, ?_, ?_, ?_⟩ <;> simp [go_sem, f0, f1, f10]
 clear f0 f1 f10
 obtain ⟨rfl, f0, f1, f12, f13⟩ := hm
 obtain ⟨oi, hruni, hoi⟩ := obind h
 refine SW.len 0 f0 (fun hbigi => ?_)
 obtain ⟨KL, hKL⟩ : ∃ KL : Fr → Mem → Prop, ∀ fr' τ', KL fr' τ' ↔ (oi = .done () ∧ σ0 = τ') := ⟨_, fun _ _ => Iff.rfl⟩
 refine SW.cut KL ?_ ?_
 ·refine SW.block ?_
  obtain ⟨J, hJ⟩ : ∃ J : Nat → Fr → Mem → Prop, ∀ m_ fr' τ', J m_ fr' τ' ↔ (∃ k : Nat, m_ = s1.length - k ∧ forN (b1_slices_Equal_int s1 s2) (s1.length - k) k () = some oi ∧ σ0 = τ' ∧ fr' 0 = intsA (s1) ∧ fr' 1 = intsA (s2) ∧ fr' 12 = AV.int (((s1.length : Nat) : Int)) ∧ fr' 13 = AV.int (((k : Nat) : Int))) := ⟨_, fun _ _ _ => Iff.rfl⟩
  refine SW.loop J (s1.length - 0) ((hJ _ _ _).2 ⟨0, rfl, hruni, rfl, f0, f1, f12, f13⟩) ?_
  clear hruni
  intro m_ fr5 τ hm
  rw [hJ] at hm
  clear f0 f1 f12 f13
  obtain ⟨k, rfl, hruni, rfl, f0, f1, f12, f13⟩ := hm
  refine SW.seq ?_
  refine SW.regX (fun f_ t_ => σ0 = t_ ∧ f_ 0 = intsA (s1) ∧ f_ 1 = intsA (s2) ∧ f_ 12 = AV.int (((s1.length : Nat) : Int)) ∧ f_ 13 = AV.int (((k : Nat) : Int)) ∧ f_ 14 = AV.bool ((decide (k < s1.length)))) (fun M hM => ?_) (fun fr6 τz4 hm => ?_)
  ·simp [go_sem, f0, f1, f12, f13]
   refine (hM _ _).2 ⟨rfl, ?_, ?_, ?_, ?_, ?_⟩ <;> simp [go_sem, f0, f1, f12, f13]
  clear f0 f1 f12 f13
  obtain ⟨rfl, f0, f1, f12, f13, f14⟩ := hm
  refine SW.seq ?_
  refine SW.cond _ f14 (fun hx1 => ?_) (fun hx1 => ?_)
  rotate_left
  ·have hk : ¬ k < s1.length := by have := of_decide_eq_false hx1; omega
   refine SW.exit rfl ?_
   exact SW.goal ((hKL _ _).2 ⟨forN_end hruni hk, rfl⟩)
  have hkk : k < s1.length := by have := of_decide_eq_true hx1; omega
  have hwk : IntKind.i64.wrap ((k : Int) + 1) = ((k + 1 : Nat) : Int) := by rw [wrap64_of _ (by omega) (by omega)]; rfl
  obtain ⟨ci, hbi, hci⟩ := forN_step hruni hkk
  simp only [b1_slices_Equal_int] at hbi
  refine SW.skip ?_
  refine SW.seq ?_
  refine SW.block ?_
  refine SW.seq ?_
  refine SW.regX (fun f_ t_ => σ0 = t_ ∧ f_ 0 = intsA (s1) ∧ f_ 1 = intsA (s2) ∧ f_ 5 = AV.int (((k : Nat) : Int)) ∧ f_ 12 = AV.int (((s1.length : Nat) : Int)) ∧ f_ 13 = AV.int (((k : Nat) : Int))) (fun M hM => ?_) (fun fr7 τz5 hm => ?_)
  ·simp [go_sem, f0, f1, f12, f13, f14]
   refine (hM _ _).2 ⟨rfl, ?_, ?_, ?_, ?_, ?_⟩ <;> simp [go_sem, f0, f1, f12, f13, f14]
  clear f0 f1 f12 f13 f14
  obtain ⟨rfl, f0, f1, f5, f12, f13⟩ := hm
  refine SW.seq ?_
  obtain ⟨n, hn, hbi⟩ := obind hbi
  have xln := getN_lt hn
  have xdn := getN_map AV.int hn
  obtain ⟨n1, hn1, hbi⟩ := obind hbi
  have xln1 := getN_lt hn1
  have xdn1 := getN_map AV.int hn1
  refine SW.regX (fun f_ t_ => σ0 = t_ ∧ f_ 0 = intsA (s1) ∧ f_ 1 = intsA (s2) ∧ f_ 12 = AV.int (((s1.length : Nat) : Int)) ∧ f_ 13 = AV.int (((k : Nat) : Int)) ∧ f_ 24 = AV.bool ((!decide (n = n1)))) (fun M hM => ?_) (fun fr8 τz6 hm => ?_)
  ·refine EW_regionD (by kernel_rfl) (by kernel_rfl) ?_
   simp [go_sem, f0, f1, f12, f13, f5, xln, xdn, xln1, xdn1]
   refine (hM _ _).2 ⟨rfl, ?_, ?_, ?_, ?_, ?_⟩ <;> simp [go_sem, f0, f1, f12, f13, f5, xln, xdn, xln1, xdn1]
  clear f0 f1 f12 f13 f5
  obtain ⟨rfl, f0, f1, f12, f13, f24⟩ := hm
  refine SW.cond _ f24 (fun hx2 => ?_) (fun hx2 => ?_)
  ·have hbi := condT hbi hx2
   refine SW.seq ?_
   refine SW.regX (fun f_ t_ => σ0 = t_ ∧ f_ 4 = AV.bool (false)) (fun M hM => ?_) (fun fr9 τz7 hm => ?_)
   ·simp [go_sem, f0, f1, f12, f13, f24]
    refine (hM _ _).2 ⟨rfl, ?_⟩ <;> simp [go_sem, f0, f1, f12, f13, f24]
   clear f0 f1 f12 f13 f24
   obtain ⟨rfl, f4⟩ := hm
   obtain rfl := Option.some.inj hbi
   obtain rfl := Option.some.inj hci
   obtain rfl := Option.some.inj hoi
   exact SW.ret ⟨AV.bool (false), by simp [go_sem, f4], .lit _, Keeps.refl _⟩
  have hbi := condF hbi hx2
  refine SW.skip ?_
  refine SW.blk ?_
  refine SW.regX (fun f_ t_ => σ0 = t_ ∧ f_ 0 = intsA (s1) ∧ f_ 1 = intsA (s2) ∧ f_ 12 = AV.int (((s1.length : Nat) : Int)) ∧ f_ 13 = AV.int (((k + 1 : Nat) : Int))) (fun M hM => ?_) (fun fr10 τz8 hm => ?_)
  ·simp [go_sem, f0, f1, f12, f13, f24, hwk]
   refine (hM _ _).2 ⟨rfl, ?_, ?_, ?_, ?_⟩ <;> simp [go_sem, f0, f1, f12, f13, f24, hwk]
  clear f0 f1 f12 f13 f24
  obtain ⟨rfl, f0, f1, f12, f13⟩ := hm
  obtain rfl := Option.some.inj hbi
  exact SW.goal ⟨s1.length - (k + 1), by omega, (hJ _ _ _).2 ⟨k + 1, rfl, hci, rfl, f0, f1, f12, f13⟩⟩
 intro fr11 τ1 hm
 rw [hKL] at hm
 clear hKL hruni
 clear f0 f1 f12 f13
 obtain ⟨rfl, rfl⟩ := hm
 simp only [Out.on] at hoi
 refine SW.seq ?_
 refine SW.regX (fun f_ t_ => σ0 = t_ ∧ f_ 4 = AV.bool (true)) (fun M hM => ?_) (fun fr12 τz9 hm => ?_)
 ·simp [go_sem]
  refine (hM _ _).2 ⟨rfl, ?_⟩ <;> simp [go_sem]
 obtain ⟨rfl, f4⟩ := hm
 obtain rfl := Option.some.inj hoi
 exact SW.ret ⟨AV.bool (true), by simp [go_sem, f4], .lit _, Keeps.refl _⟩
end Go.Proofs.YtdacgjleiloooaaGreat
