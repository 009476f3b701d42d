/-
  Plain functions and the walks that lead to them, by a program of ours (gen.py): slices.IndexFunc___scarfjoint/api.Edge_scarfjoint/api.Edge_, slices.ContainsFunc___scarfjoint/api.Edge_scarfjoint/api.Edge_, slices.Index___int_int_, slices.Contains___int_int_, scarfjoint/search.All, scarfjoint/search.Count.
-/
import Derived.Test.YtdacgjleiloooaaGreatGd
import Derived.Test.YtdacgjleiloooaaGreatGT
import Derived.Test.YtdacgjleiloooaaGreatB3
import Derived.Test.YtdacgjleiloooaaGreatGS
set_option linter.unusedSimpArgs false
set_option linter.unusedVariables false
namespace Go.Proofs.YtdacgjleiloooaaGreat
open Go Go.Ew Go.Proofs Go.RowKit
set_option maxRecDepth 100000
set_option maxHeartbeats 4000000 in
theorem w_search_All (t : Types) (p : Graph) (g : Graph) (injective : Bool) (r : ((List Morph) × Int)) (h : s_search_All t p g injective = some r) : PureA Tryz.prog 24 [AV.agg [nodesA (t.nodes), edgesA (t.edges)], AV.agg [intsA (p.nodes), e3sA (p.edges)], AV.agg [intsA (g.nodes), e3sA (g.edges)], AV.bool (injective)] (AV.tup [morphsA (r.1), AV.int (r.2)]) := by
 refine pureA_of_SW (N := 26) Tryz.func24 (by kernel_rfl) rfl (by rw [Tryz.ntmps24]; rfl) (fun σ0 => ?_)
 rw [Tryz.results24]
 obtain ⟨fr0, hfr⟩ : ∃ fr, fr = initFr [AV.agg [nodesA (t.nodes), edgesA (t.edges)], AV.agg [intsA (p.nodes), e3sA (p.edges)], AV.agg [intsA (g.nodes), e3sA (g.edges)], AV.bool (injective)] := ⟨_, rfl⟩
 rw [← hfr]
 have f0 : fr0 0 = AV.agg [nodesA (t.nodes), edgesA (t.edges)] := by rw [hfr]; rfl
 have f1 : fr0 1 = AV.agg [intsA (p.nodes), e3sA (p.edges)] := by rw [hfr]; rfl
 have f2 : fr0 2 = AV.agg [intsA (g.nodes), e3sA (g.edges)] := by rw [hfr]; rfl
 have f3 : fr0 3 = AV.bool (injective) := by rw [hfr]; rfl
 clear hfr
 simp only [s_search_All] at h
 refine SW.seq ?_
 refine SW.regX (fun f_ t_ => ∃ b4 : Nat, ∃ b5 : Nat, ∃ b6 : Nat, f_ 3 = AV.bool (injective) ∧ f_ 4 = AV.ptr b4 0 ∧ f_ 5 = AV.ptr b5 0 ∧ f_ 6 = AV.ptr b6 0 ∧ Kept σ0 t_ ∧ σ0.next ≤ t_.next ∧ t_.get b4 = some [nodesA (t.nodes), edgesA (t.edges)] ∧ b4 < t_.next ∧ t_.get b5 = some [intsA (p.nodes), e3sA (p.edges)] ∧ b5 < t_.next ∧ t_.get b6 = some [intsA (g.nodes), e3sA (g.edges)] ∧ b6 < t_.next ∧ σ0.next ≤ b4 ∧ σ0.next ≤ b5 ∧ ¬ b4 = b5 ∧ σ0.next ≤ b6 ∧ ¬ b4 = b6 ∧ ¬ b5 = b6) (fun M hM => ?_) (fun fr1 τ hm => ?_)
 ·simp [go_sem, f0, f1, f2, f3]
  refine (hM _ _).2 ⟨σ0.next, (σ0.next + 1), (σ0.next + 2), ?_, ?_, ?_, ?_, by intro j hj; simp [go_sem, show ¬ j = σ0.next by omega, show ¬ j = σ0.next + 1 by omega, show ¬ j = σ0.next + 2 by omega], by first | omega | (simp [go_sem]; done) | (simp [go_sem]; omega), by simp (disch := omega) [get_alloc_ne, get_set_ne, get_kill_ne, go_sem, f0, f1, f2, f3], by first | omega | (simp [go_sem]; done) | (simp [go_sem]; omega), by simp (disch := omega) [get_alloc_ne, get_set_ne, get_kill_ne, go_sem, f0, f1, f2, f3], by first | omega | (simp [go_sem]; done) | (simp [go_sem]; omega), by simp (disch := omega) [get_alloc_ne, get_set_ne, get_kill_ne, go_sem, f0, f1, f2, f3], by first | omega | (simp [go_sem]; done) | (simp [go_sem]; omega), by omega, by omega, by omega, by omega, by omega, by omega⟩ <;> simp [go_sem, f0, f1, f2, f3]
 clear f0 f1 f2 f3
 obtain ⟨b4, b5, b6, f3, f4, f5, f6, hK, hN, gb4, ub4, gb5, ub5, gb6, ub6, wb4, wb5, eb4b5, wb6, eb4b6, eb5b6⟩ := hm
 refine SW.seq ?_
 refine SW.seq ?_
 obtain ⟨n, hn, h⟩ := obind h
 refine SW.regX (fun f_ t_ => τ = t_ ∧ f_ 3 = AV.bool (injective) ∧ f_ 4 = AV.ptr b4 0 ∧ f_ 5 = AV.ptr b5 0 ∧ f_ 6 = AV.ptr b6 0 ∧ f_ 10 = AV.int (n)) (fun M hM => ?_) (fun fr2 τz hm => ?_)
 ·simp [go_sem, f3, f4, f5, f6, gb4, gb5, gb6]
  refine EWcall_pure (w_search_valid t p g _ hn) ?_
  simp [go_sem, f3, f4, f5, f6, gb4, gb5, gb6]
  refine (hM _ _).2 ⟨rfl, ?_, ?_, ?_, ?_, ?_⟩ <;> simp [go_sem, f3, f4, f5, f6, gb4, gb5, gb6]
 clear f3 f4 f5 f6
 obtain ⟨rfl, f3, f4, f5, f6, f10⟩ := hm
 refine SW.seq ?_
 refine SW.regX (fun f_ t_ => τ = t_ ∧ f_ 3 = AV.bool (injective) ∧ f_ 4 = AV.ptr b4 0 ∧ f_ 5 = AV.ptr b5 0 ∧ f_ 6 = AV.ptr b6 0 ∧ f_ 10 = AV.int (n) ∧ f_ 16 = AV.bool ((!decide (n = 0)))) (fun M hM => ?_) (fun fr3 τz1 hm => ?_)
 ·simp [go_sem, f10, f3, f4, f5, f6, gb4, gb5, gb6]
  refine (hM _ _).2 ⟨rfl, ?_, ?_, ?_, ?_, ?_, ?_⟩ <;> simp [go_sem, f10, f3, f4, f5, f6, gb4, gb5, gb6]
 clear f10 f3 f4 f5 f6
 obtain ⟨rfl, f3, f4, f5, f6, f10, f16⟩ := hm
 refine SW.cond _ f16 (fun hx => ?_) (fun hx => ?_)
 ·have h := condT h hx
  refine SW.seq ?_
  refine SW.regX (fun f_ t_ => τ = t_ ∧ f_ 8 = AV.nils ∧ f_ 9 = AV.int (n)) (fun M hM => ?_) (fun fr4 τz2 hm => ?_)
  ·simp [go_sem, f10, f16, f3, f4, f5, f6, gb4, gb5, gb6]
   refine (hM _ _).2 ⟨rfl, ?_, ?_⟩ <;> simp [go_sem, f10, f16, f3, f4, f5, f6, gb4, gb5, gb6]
  clear f10 f16 f3 f4 f5 f6
  obtain ⟨rfl, f8, f9⟩ := hm
  obtain rfl := Option.some.inj h
  exact SW.ret ⟨AV.tup [AV.nils, AV.int (n)], by simp [go_sem, f8, f9], frz_tupL (frzL_c (.nils) (frzL_c (.lit _) (frzL_n))), hK.keeps⟩
 have h := condF h hx
 refine SW.skip ?_
 refine SW.seq ?_
 obtain ⟨rx, hrx, h⟩ := obind h
 refine SW.regX (fun f_ t_ => τ = t_ ∧ f_ 8 = morphsA (rx.1) ∧ f_ 9 = AV.int (rx.2)) (fun M hM => ?_) (fun fr5 τz3 hm => ?_)
 ·simp [go_sem, f10, f16, f3, f4, f5, f6, gb4, gb5, gb6]
  refine EWcall_pure (w_search_all t p g none injective _ hrx) ?_
  simp [go_sem, f10, f16, f3, f4, f5, f6, gb4, gb5, gb6]
  refine (hM _ _).2 ⟨rfl, ?_, ?_⟩ <;> simp [go_sem, f10, f16, f3, f4, f5, f6, gb4, gb5, gb6]
 clear f10 f16 f3 f4 f5 f6
 obtain ⟨rfl, f8, f9⟩ := hm
 obtain rfl := Option.some.inj h
 exact SW.ret ⟨AV.tup [morphsA (rx.1), AV.int (rx.2)], by simp [go_sem, f8, f9], frz_tupL (frzL_c ((DataA.imm (DataL.flatMap gd_morphC rx.1)) _ _) (frzL_c (.lit _) (frzL_n))), hK.keeps⟩
set_option maxHeartbeats 4000000 in
theorem w_search_Count (t : Types) (p : Graph) (g : Graph) (injective : Bool) (r : (Int × Int)) (h : s_search_Count t p g injective = some r) : PureA Tryz.prog 28 [AV.agg [nodesA (t.nodes), edgesA (t.edges)], AV.agg [intsA (p.nodes), e3sA (p.edges)], AV.agg [intsA (g.nodes), e3sA (g.edges)], AV.bool (injective)] (AV.tup [AV.int (r.1), AV.int (r.2)]) := by
 refine pureA_of_SW (N := 23) Tryz.func28 (by kernel_rfl) rfl (by rw [Tryz.ntmps28]; rfl) (fun σ0 => ?_)
 rw [Tryz.results28]
 obtain ⟨fr0, hfr⟩ : ∃ fr, fr = initFr [AV.agg [nodesA (t.nodes), edgesA (t.edges)], AV.agg [intsA (p.nodes), e3sA (p.edges)], AV.agg [intsA (g.nodes), e3sA (g.edges)], AV.bool (injective)] := ⟨_, rfl⟩
 rw [← hfr]
 have f0 : fr0 0 = AV.agg [nodesA (t.nodes), edgesA (t.edges)] := by rw [hfr]; rfl
 have f1 : fr0 1 = AV.agg [intsA (p.nodes), e3sA (p.edges)] := by rw [hfr]; rfl
 have f2 : fr0 2 = AV.agg [intsA (g.nodes), e3sA (g.edges)] := by rw [hfr]; rfl
 have f3 : fr0 3 = AV.bool (injective) := by rw [hfr]; rfl
 clear hfr
 simp only [s_search_Count] at h
 refine SW.seq ?_
 refine SW.regX (fun f_ t_ => ∃ b4 : Nat, ∃ b5 : Nat, ∃ b6 : Nat, f_ 3 = AV.bool (injective) ∧ f_ 4 = AV.ptr b4 0 ∧ f_ 5 = AV.ptr b5 0 ∧ f_ 6 = AV.ptr b6 0 ∧ Kept σ0 t_ ∧ σ0.next ≤ t_.next ∧ t_.get b4 = some [nodesA (t.nodes), edgesA (t.edges)] ∧ b4 < t_.next ∧ t_.get b5 = some [intsA (p.nodes), e3sA (p.edges)] ∧ b5 < t_.next ∧ t_.get b6 = some [intsA (g.nodes), e3sA (g.edges)] ∧ b6 < t_.next ∧ σ0.next ≤ b4 ∧ σ0.next ≤ b5 ∧ ¬ b4 = b5 ∧ σ0.next ≤ b6 ∧ ¬ b4 = b6 ∧ ¬ b5 = b6) (fun M hM => ?_) (fun fr1 τ hm => ?_)
 ·simp [go_sem, f0, f1, f2, f3]
  refine (hM _ _).2 ⟨σ0.next, (σ0.next + 1), (σ0.next + 2), ?_, ?_, ?_, ?_, by intro j hj; simp [go_sem, show ¬ j = σ0.next by omega, show ¬ j = σ0.next + 1 by omega, show ¬ j = σ0.next + 2 by omega], by first | omega | (simp [go_sem]; done) | (simp [go_sem]; omega), by simp (disch := omega) [get_alloc_ne, get_set_ne, get_kill_ne, go_sem, f0, f1, f2, f3], by first | omega | (simp [go_sem]; done) | (simp [go_sem]; omega), by simp (disch := omega) [get_alloc_ne, get_set_ne, get_kill_ne, go_sem, f0, f1, f2, f3], by first | omega | (simp [go_sem]; done) | (simp [go_sem]; omega), by simp (disch := omega) [get_alloc_ne, get_set_ne, get_kill_ne, go_sem, f0, f1, f2, f3], by first | omega | (simp [go_sem]; done) | (simp [go_sem]; omega), by omega, by omega, by omega, by omega, by omega, by omega⟩ <;> simp [go_sem, f0, f1, f2, f3]
 clear f0 f1 f2 f3
 obtain ⟨b4, b5, b6, f3, f4, f5, f6, hK, hN, gb4, ub4, gb5, ub5, gb6, ub6, wb4, wb5, eb4b5, wb6, eb4b6, eb5b6⟩ := hm
 refine SW.seq ?_
 obtain ⟨rx, hrx, h⟩ := obind h
 refine SW.regX (fun f_ t_ => τ = t_ ∧ f_ 10 = morphsA (rx.1) ∧ f_ 11 = AV.int (rx.2)) (fun M hM => ?_) (fun fr2 τz hm => ?_)
 ·simp [go_sem, f3, f4, f5, f6, gb4, gb5, gb6]
  refine EWcall_pure (w_search_All t p g injective _ hrx) ?_
  simp [go_sem, f3, f4, f5, f6, gb4, gb5, gb6]
  refine (hM _ _).2 ⟨rfl, ?_, ?_⟩ <;> simp [go_sem, f3, f4, f5, f6, gb4, gb5, gb6]
 clear f3 f4 f5 f6
 obtain ⟨rfl, f10, f11⟩ := hm
 refine SW.seq ?_
 refine SW.regX (fun f_ t_ => τ = t_ ∧ f_ 8 = AV.int (((rx.1.length : Nat) : Int)) ∧ f_ 9 = AV.int (rx.2)) (fun M hM => ?_) (fun fr3 τz1 hm => ?_)
 ·simp [go_sem, f10, f11]
  refine (hM _ _).2 ⟨rfl, ?_, ?_⟩ <;> simp [go_sem, f10, f11]
 clear f10 f11
 obtain ⟨rfl, f8, f9⟩ := hm
 obtain rfl := Option.some.inj h
 exact SW.ret ⟨AV.tup [AV.int (((rx.1.length : Nat) : Int)), AV.int (rx.2)], by simp [go_sem, f8, f9], frz_tupL (frzL_c (.lit _) (frzL_c (.lit _) (frzL_n))), hK.keeps⟩
end Go.Proofs.YtdacgjleiloooaaGreat
