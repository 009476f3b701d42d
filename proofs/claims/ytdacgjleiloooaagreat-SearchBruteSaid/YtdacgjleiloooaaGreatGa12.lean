/-
  Plain functions and the walks that lead to them, by a program of ours (gen.py): cmp.isNaN_int_, scarfjoint/search.Check.
-/
import Derived.Test.YtdacgjleiloooaaGreatGd
import Derived.Test.YtdacgjleiloooaaGreatGT
import Derived.Test.YtdacgjleiloooaaGreatB3
import Derived.Test.YtdacgjleiloooaaGreatGS
import Derived.Test.YtdacgjleiloooaaGreatGa3
set_option linter.unusedSimpArgs false
set_option linter.unusedVariables false
namespace Go.Proofs.YtdacgjleiloooaaGreat
open Go Go.Ew Go.Proofs Go.RowKit
set_option maxRecDepth 100000
set_option maxHeartbeats 4000000 in
theorem w_cmp_isNaN_int (x : Int) (r : (Bool)) (h : s_cmp_isNaN_int x = some r) : PureA Tryz.prog 73 [AV.int (x)] (AV.bool (r)) := by
 refine pureA_of_SW (N := 6) Tryz.func73 (by kernel_rfl) rfl (by rw [Tryz.ntmps73]; rfl) (fun σ0 => ?_)
 rw [Tryz.results73]
 obtain ⟨fr0, hfr⟩ : ∃ fr, fr = initFr [AV.int (x)] := ⟨_, rfl⟩
 rw [← hfr]
 have f0 : fr0 0 = AV.int (x) := by rw [hfr]; rfl
 clear hfr
 simp only [s_cmp_isNaN_int] at h
 refine SW.seq ?_
 refine SW.regX (fun f_ t_ => σ0 = t_ ∧ f_ 0 = AV.int (x)) (fun M hM => ?_) (fun fr1 τz hm => ?_)
 ·simp [go_sem, f0]
  refine (hM _ _).2 ⟨rfl, ?_⟩ <;> simp [go_sem, f0]
 clear f0
 obtain ⟨rfl, f0⟩ := hm
 refine SW.seq ?_
 refine SW.regX (fun f_ t_ => σ0 = t_ ∧ f_ 2 = AV.bool (false)) (fun M hM => ?_) (fun fr2 τz1 hm => ?_)
 ·simp [go_sem, f0]
  refine (hM _ _).2 ⟨rfl, ?_⟩ <;> simp [go_sem, f0]
 clear f0
 obtain ⟨rfl, f2⟩ := hm
 obtain rfl := Option.some.inj h
 exact SW.ret ⟨AV.bool (false), by simp [go_sem, f2], .lit _, Keeps.refl _⟩
set_option maxHeartbeats 4000000 in
theorem w_search_Check (t : Types) (p : Graph) (g : Graph) (m : Morph) (injective : Bool) (r : (Int)) (h : s_search_Check t p g m injective = some r) : PureA Tryz.prog 21 [AV.agg [nodesA (t.nodes), edgesA (t.edges)], AV.agg [intsA (p.nodes), e3sA (p.edges)], AV.agg [intsA (g.nodes), e3sA (g.edges)], AV.agg [intsA (m.nodes), intsA (m.edges)], AV.bool (injective)] (AV.int (r)) := by
 refine pureA_of_SW (N := 39) Tryz.func21 (by kernel_rfl) rfl (by rw [Tryz.ntmps21]; rfl) (fun σ0 => ?_)
 rw [Tryz.results21]
 obtain ⟨fr0, hfr⟩ : ∃ fr, fr = initFr [AV.agg [nodesA (t.nodes), edgesA (t.edges)], AV.agg [intsA (p.nodes), e3sA (p.edges)], AV.agg [intsA (g.nodes), e3sA (g.edges)], AV.agg [intsA (m.nodes), intsA (m.edges)], AV.bool (injective)] := ⟨_, rfl⟩
 rw [← hfr]
 have f0 : fr0 0 = AV.agg [nodesA (t.nodes), edgesA (t.edges)] := by rw [hfr]; rfl
 have f1 : fr0 1 = AV.agg [intsA (p.nodes), e3sA (p.edges)] := by rw [hfr]; rfl
 have f2 : fr0 2 = AV.agg [intsA (g.nodes), e3sA (g.edges)] := by rw [hfr]; rfl
 have f3 : fr0 3 = AV.agg [intsA (m.nodes), intsA (m.edges)] := by rw [hfr]; rfl
 have f4 : fr0 4 = AV.bool (injective) := by rw [hfr]; rfl
 clear hfr
 simp only [s_search_Check] at h
 refine SW.seq ?_
 refine SW.regX (fun f_ t_ => ∃ b5 : Nat, ∃ b6 : Nat, ∃ b7 : Nat, ∃ b8 : Nat, f_ 4 = AV.bool (injective) ∧ f_ 5 = AV.ptr b5 0 ∧ f_ 6 = AV.ptr b6 0 ∧ f_ 7 = AV.ptr b7 0 ∧ f_ 8 = AV.ptr b8 0 ∧ Kept σ0 t_ ∧ σ0.next ≤ t_.next ∧ t_.get b5 = some [nodesA (t.nodes), edgesA (t.edges)] ∧ b5 < t_.next ∧ t_.get b6 = some [intsA (p.nodes), e3sA (p.edges)] ∧ b6 < t_.next ∧ t_.get b7 = some [intsA (g.nodes), e3sA (g.edges)] ∧ b7 < t_.next ∧ t_.get b8 = some [intsA (m.nodes), intsA (m.edges)] ∧ b8 < t_.next ∧ σ0.next ≤ b5 ∧ σ0.next ≤ b6 ∧ ¬ b5 = b6 ∧ σ0.next ≤ b7 ∧ ¬ b5 = b7 ∧ ¬ b6 = b7 ∧ σ0.next ≤ b8 ∧ ¬ b5 = b8 ∧ ¬ b6 = b8 ∧ ¬ b7 = b8) (fun M hM => ?_) (fun fr1 τ hm => ?_)
 ·simp [go_sem, f0, f1, f2, f3, f4]
  refine (hM _ _).2 ⟨σ0.next, (σ0.next + 1), (σ0.next + 2), (σ0.next + 3), ?_, ?_, ?_, ?_, ?_, by intro j hj; simp [go_sem, show ¬ j = σ0.next by omega, show ¬ j = σ0.next + 1 by omega, show ¬ j = σ0.next + 2 by omega, show ¬ j = σ0.next + 3 by omega], by first | omega | (simp [go_sem]; done) | (simp [go_sem]; omega), by simp (disch := omega) [get_alloc_ne, get_set_ne, get_kill_ne, go_sem, f0, f1, f2, f3, f4], by first | omega | (simp [go_sem]; done) | (simp [go_sem]; omega), by simp (disch := omega) [get_alloc_ne, get_set_ne, get_kill_ne, go_sem, f0, f1, f2, f3, f4], by first | omega | (simp [go_sem]; done) | (simp [go_sem]; omega), by simp (disch := omega) [get_alloc_ne, get_set_ne, get_kill_ne, go_sem, f0, f1, f2, f3, f4], by first | omega | (simp [go_sem]; done) | (simp [go_sem]; omega), by simp (disch := omega) [get_alloc_ne, get_set_ne, get_kill_ne, go_sem, f0, f1, f2, f3, f4], by first | omega | (simp [go_sem]; done) | (simp [go_sem]; omega), by omega, by omega, by omega, by omega, by omega, by omega, by omega, by omega, by omega, by omega⟩ <;> simp [go_sem, f0, f1, f2, f3, f4]
 clear f0 f1 f2 f3 f4
 obtain ⟨b5, b6, b7, b8, f4, f5, f6, f7, f8, hK, hN, gb5, ub5, gb6, ub6, gb7, ub7, gb8, ub8, wb5, wb6, eb5b6, wb7, eb5b7, eb6b7, wb8, eb5b8, eb6b8, eb7b8⟩ := hm
 refine SW.seq ?_
 refine SW.seq ?_
 obtain ⟨n, hn, h⟩ := obind h
 refine SW.regX (fun f_ t_ => τ = t_ ∧ f_ 4 = AV.bool (injective) ∧ f_ 5 = AV.ptr b5 0 ∧ f_ 6 = AV.ptr b6 0 ∧ f_ 7 = AV.ptr b7 0 ∧ f_ 8 = AV.ptr b8 0 ∧ f_ 11 = AV.int (n)) (fun M hM => ?_) (fun fr2 τz hm => ?_)
 ·simp [go_sem, f4, f5, f6, f7, f8, gb5, gb6, gb7, gb8]
  refine EWcall_pure (w_search_valid t p g _ hn) ?_
  simp [go_sem, f4, f5, f6, f7, f8, gb5, gb6, gb7, gb8]
  refine (hM _ _).2 ⟨rfl, ?_, ?_, ?_, ?_, ?_, ?_⟩ <;> simp [go_sem, f4, f5, f6, f7, f8, gb5, gb6, gb7, gb8]
 clear f4 f5 f6 f7 f8
 obtain ⟨rfl, f4, f5, f6, f7, f8, f11⟩ := hm
 refine SW.seq ?_
 refine SW.regX (fun f_ t_ => τ = t_ ∧ f_ 4 = AV.bool (injective) ∧ f_ 5 = AV.ptr b5 0 ∧ f_ 6 = AV.ptr b6 0 ∧ f_ 7 = AV.ptr b7 0 ∧ f_ 8 = AV.ptr b8 0 ∧ f_ 11 = AV.int (n) ∧ f_ 18 = AV.bool ((!decide (n = 0)))) (fun M hM => ?_) (fun fr3 τz1 hm => ?_)
 ·simp [go_sem, f11, f4, f5, f6, f7, f8, gb5, gb6, gb7, gb8]
  refine (hM _ _).2 ⟨rfl, ?_, ?_, ?_, ?_, ?_, ?_, ?_⟩ <;> simp [go_sem, f11, f4, f5, f6, f7, f8, gb5, gb6, gb7, gb8]
 clear f11 f4 f5 f6 f7 f8
 obtain ⟨rfl, f4, f5, f6, f7, f8, f11, f18⟩ := hm
 refine SW.cond _ f18 (fun hx => ?_) (fun hx => ?_)
 ·have h := condT h hx
  refine SW.seq ?_
  refine SW.regX (fun f_ t_ => τ = t_ ∧ f_ 10 = AV.int (n)) (fun M hM => ?_) (fun fr4 τz2 hm => ?_)
  ·simp [go_sem, f11, f18, f4, f5, f6, f7, f8, gb5, gb6, gb7, gb8]
   refine (hM _ _).2 ⟨rfl, ?_⟩ <;> simp [go_sem, f11, f18, f4, f5, f6, f7, f8, gb5, gb6, gb7, gb8]
  clear f11 f18 f4 f5 f6 f7 f8
  obtain ⟨rfl, f10⟩ := hm
  obtain rfl := Option.some.inj h
  exact SW.ret ⟨AV.int (n), by simp [go_sem, f10], .lit _, hK.keeps⟩
 have h := condF h hx
 refine SW.skip ?_
 refine SW.seq ?_
 refine SW.seq ?_
 obtain ⟨n1, hn1, h⟩ := obind h
 refine SW.regX (fun f_ t_ => τ = t_ ∧ f_ 4 = AV.bool (injective) ∧ f_ 8 = AV.ptr b8 0 ∧ f_ 12 = AV.int (n1)) (fun M hM => ?_) (fun fr5 τz3 hm => ?_)
 ·simp [go_sem, f11, f18, f4, f5, f6, f7, f8, gb5, gb6, gb7, gb8]
  refine EWcall_pure (w_search_shape t p g m _ hn1) ?_
  simp [go_sem, f11, f18, f4, f5, f6, f7, f8, gb5, gb6, gb7, gb8]
  refine (hM _ _).2 ⟨rfl, ?_, ?_, ?_⟩ <;> simp [go_sem, f11, f18, f4, f5, f6, f7, f8, gb5, gb6, gb7, gb8]
 clear f11 f18 f4 f5 f6 f7 f8
 obtain ⟨rfl, f4, f8, f12⟩ := hm
 refine SW.seq ?_
 refine SW.regX (fun f_ t_ => τ = t_ ∧ f_ 4 = AV.bool (injective) ∧ f_ 8 = AV.ptr b8 0 ∧ f_ 12 = AV.int (n1) ∧ f_ 26 = AV.bool ((!decide (n1 = 0)))) (fun M hM => ?_) (fun fr6 τz4 hm => ?_)
 ·simp [go_sem, f12, f4, f8, gb8]
  refine (hM _ _).2 ⟨rfl, ?_, ?_, ?_, ?_⟩ <;> simp [go_sem, f12, f4, f8, gb8]
 clear f12 f4 f8
 obtain ⟨rfl, f4, f8, f12, f26⟩ := hm
 refine SW.cond _ f26 (fun hx1 => ?_) (fun hx1 => ?_)
 ·have h := condT h hx1
  refine SW.seq ?_
  refine SW.regX (fun f_ t_ => τ = t_ ∧ f_ 10 = AV.int (n1)) (fun M hM => ?_) (fun fr7 τz5 hm => ?_)
  ·simp [go_sem, f12, f26, f4, f8, gb8]
   refine (hM _ _).2 ⟨rfl, ?_⟩ <;> simp [go_sem, f12, f26, f4, f8, gb8]
  clear f12 f26 f4 f8
  obtain ⟨rfl, f10⟩ := hm
  obtain rfl := Option.some.inj h
  exact SW.ret ⟨AV.int (n1), by simp [go_sem, f10], .lit _, hK.keeps⟩
 have h := condF h hx1
 refine SW.skip ?_
 refine SW.seq ?_
 refine SW.seq ?_
 obtain ⟨c, hc, h⟩ := obind h
 refine SW.regX (fun f_ t_ => τ = t_ ∧ f_ 38 = AV.bool (c)) (fun M hM => ?_) (fun fr8 τz6 hm => ?_)
 ·rcases Bool.eq_false_or_eq_true injective with y0 | y0
  ·have y0' := y0
   try simp at y0'
   have ky0 := condT hc y0
   obtain ⟨q, hq, ky0⟩ := obind ky0
   rcases Bool.eq_false_or_eq_true q with y2 | y2
   ·have y2' := y2
    try simp [y0'] at y2'
    have ky2 := condT ky0 y2
    have ec := Option.some.inj ky2
    simp [go_sem, f12, f26, f4, f8, gb8, y0, y0', y2, y2']
    refine EWcall_pure (w_search_twice m.nodes _ hq) ?_
    simp [go_sem, f12, f26, f4, f8, gb8, y0, y0', y2, y2']
    refine (hM _ _).2 ⟨rfl, ?_⟩ <;> simp [go_sem, f12, f26, f4, f8, gb8, y0, y0', y2, y2', ← ec]
   ·have y2' := y2
    try simp [y0'] at y2'
    have ky2 := condF ky0 y2
    obtain ⟨q1, hq1, ky2⟩ := obind ky2
    have ec := Option.some.inj ky2
    simp [go_sem, f12, f26, f4, f8, gb8, y0, y0', y2, y2']
    refine EWcall_pure (w_search_twice m.nodes _ hq) ?_
    simp [go_sem, f12, f26, f4, f8, gb8, y0, y0', y2, y2']
    refine EWcall_pure (w_search_twice m.edges _ hq1) ?_
    simp [go_sem, f12, f26, f4, f8, gb8, y0, y0', y2, y2']
    refine (hM _ _).2 ⟨rfl, ?_⟩ <;> simp [go_sem, f12, f26, f4, f8, gb8, y0, y0', y2, y2', ← ec]
  ·have y0' := y0
   try simp at y0'
   have ky0 := condF hc y0
   have ec := Option.some.inj ky0
   simp [go_sem, f12, f26, f4, f8, gb8, y0, y0']
   refine (hM _ _).2 ⟨rfl, ?_⟩ <;> simp [go_sem, f12, f26, f4, f8, gb8, y0, y0', ← ec]
 clear f12 f26 f4 f8
 obtain ⟨rfl, f38⟩ := hm
 refine SW.cond _ f38 (fun hx2 => ?_) (fun hx2 => ?_)
 ·have h := condT h hx2
  refine SW.seq ?_
  refine SW.regX (fun f_ t_ => τ = t_ ∧ f_ 10 = AV.int (5)) (fun M hM => ?_) (fun fr9 τz7 hm => ?_)
  ·simp [go_sem, f38]
   refine (hM _ _).2 ⟨rfl, ?_⟩ <;> simp [go_sem, f38]
  clear f38
  obtain ⟨rfl, f10⟩ := hm
  obtain rfl := Option.some.inj h
  exact SW.ret ⟨AV.int (5), by simp [go_sem, f10], .lit _, hK.keeps⟩
 have h := condF h hx2
 refine SW.skip ?_
 refine SW.seq ?_
 refine SW.regX (fun f_ t_ => τ = t_ ∧ f_ 10 = AV.int (0)) (fun M hM => ?_) (fun fr10 τz8 hm => ?_)
 ·simp [go_sem, f38]
  refine (hM _ _).2 ⟨rfl, ?_⟩ <;> simp [go_sem, f38]
 clear f38
 obtain ⟨rfl, f10⟩ := hm
 obtain rfl := Option.some.inj h
 exact SW.ret ⟨AV.int (0), by simp [go_sem, f10], .lit _, hK.keeps⟩
end Go.Proofs.YtdacgjleiloooaaGreat
