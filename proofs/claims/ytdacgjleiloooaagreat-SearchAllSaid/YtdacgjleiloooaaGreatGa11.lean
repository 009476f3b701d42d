/-
  Plain functions and the walks that lead to them, by a program of ours (gen.py): scarfjoint/scarfjointref17.given, scarfjoint/scarfjointref17.Light.
-/
import Derived.Test.YtdacgjleiloooaaGreatGd
import Derived.Test.YtdacgjleiloooaaGreatGT
import Derived.Test.YtdacgjleiloooaaGreatB3
import Derived.Test.YtdacgjleiloooaaGreatGS
import Derived.Test.YtdacgjleiloooaaGreatGa9
import Derived.Test.YtdacgjleiloooaaGreatGa10
import Derived.Test.YtdacgjleiloooaaGreatGa6
set_option linter.unusedSimpArgs false
set_option linter.unusedVariables false
namespace Go.Proofs.YtdacgjleiloooaaGreat
open Go Go.Ew Go.Proofs Go.RowKit
set_option maxRecDepth 100000
set_option maxHeartbeats 4000000 in
theorem w_ref17_given (F : Nat) (t : Types) (p : Graph) (g : Graph) (r : (Int)) (h : s_ref17_given F t p g = some r) : PureA Tryz.prog 35 [AV.agg [nodesA (t.nodes), edgesA (t.edges)], AV.agg [intsA (p.nodes), e3sA (p.edges)], AV.agg [intsA (g.nodes), e3sA (g.edges)]] (AV.int (r)) := by
 refine pureA_of_SW (N := 39) Tryz.func35 (by kernel_rfl) rfl (by rw [Tryz.ntmps35]; rfl) (fun σ0 => ?_)
 rw [Tryz.results35]
 obtain ⟨fr0, hfr⟩ : ∃ fr, fr = initFr [AV.agg [nodesA (t.nodes), edgesA (t.edges)], AV.agg [intsA (p.nodes), e3sA (p.edges)], AV.agg [intsA (g.nodes), e3sA (g.edges)]] := ⟨_, rfl⟩
 rw [← hfr]
 have f0 : fr0 0 = AV.agg [nodesA (t.nodes), edgesA (t.edges)] := by rw [hfr]; rfl
 have f1 : fr0 1 = AV.agg [intsA (p.nodes), e3sA (p.edges)] := by rw [hfr]; rfl
 have f2 : fr0 2 = AV.agg [intsA (g.nodes), e3sA (g.edges)] := by rw [hfr]; rfl
 clear hfr
 simp only [s_ref17_given] at h
 refine SW.seq ?_
 refine SW.regX (fun f_ t_ => ∃ b3 : Nat, ∃ b4 : Nat, ∃ b5 : Nat, f_ 3 = AV.ptr b3 0 ∧ f_ 4 = AV.ptr b4 0 ∧ f_ 5 = AV.ptr b5 0 ∧ Kept σ0 t_ ∧ σ0.next ≤ t_.next ∧ t_.get b3 = some [nodesA (t.nodes), edgesA (t.edges)] ∧ b3 < t_.next ∧ t_.get b4 = some [intsA (p.nodes), e3sA (p.edges)] ∧ b4 < t_.next ∧ t_.get b5 = some [intsA (g.nodes), e3sA (g.edges)] ∧ b5 < t_.next ∧ σ0.next ≤ b3 ∧ σ0.next ≤ b4 ∧ ¬ b3 = b4 ∧ σ0.next ≤ b5 ∧ ¬ b3 = b5 ∧ ¬ b4 = b5) (fun M hM => ?_) (fun fr1 τ hm => ?_)
 ·simp [go_sem, f0, f1, f2]
  refine (hM _ _).2 ⟨σ0.next, (σ0.next + 1), (σ0.next + 2), ?_, ?_, ?_, by intro j hj; simp [go_sem, show ¬ j = σ0.next by omega, show ¬ j = σ0.next + 1 by omega, show ¬ j = σ0.next + 2 by omega], by first | omega | (simp [go_sem]; done) | (simp [go_sem]; omega), by simp (disch := omega) [get_alloc_ne, get_set_ne, get_kill_ne, go_sem, f0, f1, f2], by first | omega | (simp [go_sem]; done) | (simp [go_sem]; omega), by simp (disch := omega) [get_alloc_ne, get_set_ne, get_kill_ne, go_sem, f0, f1, f2], by first | omega | (simp [go_sem]; done) | (simp [go_sem]; omega), by simp (disch := omega) [get_alloc_ne, get_set_ne, get_kill_ne, go_sem, f0, f1, f2], by first | omega | (simp [go_sem]; done) | (simp [go_sem]; omega), by omega, by omega, by omega, by omega, by omega, by omega⟩ <;> simp [go_sem, f0, f1, f2]
 clear f0 f1 f2
 obtain ⟨b3, b4, b5, f3, f4, f5, hK, hN, gb3, ub3, gb4, ub4, gb5, ub5, wb3, wb4, eb3b4, wb5, eb3b5, eb4b5⟩ := hm
 refine SW.seq ?_
 refine SW.seq ?_
 obtain ⟨rx, hrx, h⟩ := obind h
 refine SW.regX (fun f_ t_ => τ = t_ ∧ f_ 3 = AV.ptr b3 0 ∧ f_ 4 = AV.ptr b4 0 ∧ f_ 5 = AV.ptr b5 0 ∧ f_ 8 = AV.int (rx.2)) (fun M hM => ?_) (fun fr2 τz hm => ?_)
 ·simp [go_sem, f3, f4, f5, gb3, gb4, gb5]
  refine EWcall_pure (w_ref04_Valid F t _ hrx) ?_
  simp [go_sem, f3, f4, f5, gb3, gb4, gb5]
  refine (hM _ _).2 ⟨rfl, ?_, ?_, ?_, ?_⟩ <;> simp [go_sem, f3, f4, f5, gb3, gb4, gb5]
 clear f3 f4 f5
 obtain ⟨rfl, f3, f4, f5, f8⟩ := hm
 refine SW.seq ?_
 refine SW.regX (fun f_ t_ => τ = t_ ∧ f_ 3 = AV.ptr b3 0 ∧ f_ 4 = AV.ptr b4 0 ∧ f_ 5 = AV.ptr b5 0 ∧ f_ 8 = AV.int (rx.2) ∧ f_ 17 = AV.bool ((!decide (rx.2 = 0)))) (fun M hM => ?_) (fun fr3 τz1 hm => ?_)
 ·simp [go_sem, f3, f4, f5, f8, gb3, gb4, gb5]
  refine (hM _ _).2 ⟨rfl, ?_, ?_, ?_, ?_, ?_⟩ <;> simp [go_sem, f3, f4, f5, f8, gb3, gb4, gb5]
 clear f3 f4 f5 f8
 obtain ⟨rfl, f3, f4, f5, f8, f17⟩ := hm
 refine SW.cond _ f17 (fun hx => ?_) (fun hx => ?_)
 ·have h := condT h hx
  refine SW.seq ?_
  refine SW.regX (fun f_ t_ => τ = t_ ∧ f_ 6 = AV.int (rx.2)) (fun M hM => ?_) (fun fr4 τz2 hm => ?_)
  ·simp [go_sem, f17, f3, f4, f5, f8, gb3, gb4, gb5]
   refine (hM _ _).2 ⟨rfl, ?_⟩ <;> simp [go_sem, f17, f3, f4, f5, f8, gb3, gb4, gb5]
  clear f17 f3 f4 f5 f8
  obtain ⟨rfl, f6⟩ := hm
  obtain rfl := Option.some.inj h
  exact SW.ret ⟨AV.int (rx.2), by simp [go_sem, f6], .lit _, hK.keeps⟩
 have h := condF h hx
 refine SW.skip ?_
 refine SW.seq ?_
 refine SW.seq ?_
 obtain ⟨n, hn, h⟩ := obind h
 refine SW.regX (fun f_ t_ => τ = t_ ∧ f_ 3 = AV.ptr b3 0 ∧ f_ 4 = AV.ptr b4 0 ∧ f_ 5 = AV.ptr b5 0 ∧ f_ 9 = AV.int (n)) (fun M hM => ?_) (fun fr5 τz3 hm => ?_)
 ·simp [go_sem, f17, f3, f4, f5, f8, gb3, gb4, gb5]
  refine EWcall_pure (w_ref05_Valid p _ hn) ?_
  simp [go_sem, f17, f3, f4, f5, f8, gb3, gb4, gb5]
  refine (hM _ _).2 ⟨rfl, ?_, ?_, ?_, ?_⟩ <;> simp [go_sem, f17, f3, f4, f5, f8, gb3, gb4, gb5]
 clear f17 f3 f4 f5 f8
 obtain ⟨rfl, f3, f4, f5, f9⟩ := hm
 refine SW.seq ?_
 refine SW.regX (fun f_ t_ => τ = t_ ∧ f_ 3 = AV.ptr b3 0 ∧ f_ 4 = AV.ptr b4 0 ∧ f_ 5 = AV.ptr b5 0 ∧ f_ 9 = AV.int (n) ∧ f_ 22 = AV.bool ((!decide (n = 0)))) (fun M hM => ?_) (fun fr6 τz4 hm => ?_)
 ·simp [go_sem, f3, f4, f5, f9, gb3, gb4, gb5]
  refine (hM _ _).2 ⟨rfl, ?_, ?_, ?_, ?_, ?_⟩ <;> simp [go_sem, f3, f4, f5, f9, gb3, gb4, gb5]
 clear f3 f4 f5 f9
 obtain ⟨rfl, f3, f4, f5, f9, f22⟩ := hm
 refine SW.cond _ f22 (fun hx1 => ?_) (fun hx1 => ?_)
 ·have h := condT h hx1
  refine SW.seq ?_
  refine SW.regX (fun f_ t_ => τ = t_ ∧ f_ 6 = AV.int (n)) (fun M hM => ?_) (fun fr7 τz5 hm => ?_)
  ·simp [go_sem, f22, f3, f4, f5, f9, gb3, gb4, gb5]
   refine (hM _ _).2 ⟨rfl, ?_⟩ <;> simp [go_sem, f22, f3, f4, f5, f9, gb3, gb4, gb5]
  clear f22 f3 f4 f5 f9
  obtain ⟨rfl, f6⟩ := hm
  obtain rfl := Option.some.inj h
  exact SW.ret ⟨AV.int (n), by simp [go_sem, f6], .lit _, hK.keeps⟩
 have h := condF h hx1
 refine SW.skip ?_
 refine SW.seq ?_
 refine SW.seq ?_
 obtain ⟨n1, hn1, h⟩ := obind h
 refine SW.regX (fun f_ t_ => τ = t_ ∧ f_ 3 = AV.ptr b3 0 ∧ f_ 4 = AV.ptr b4 0 ∧ f_ 5 = AV.ptr b5 0 ∧ f_ 10 = AV.int (n1)) (fun M hM => ?_) (fun fr8 τz6 hm => ?_)
 ·simp [go_sem, f22, f3, f4, f5, f9, gb3, gb4, gb5]
  refine EWcall_pure (w_ref05_Valid g _ hn1) ?_
  simp [go_sem, f22, f3, f4, f5, f9, gb3, gb4, gb5]
  refine (hM _ _).2 ⟨rfl, ?_, ?_, ?_, ?_⟩ <;> simp [go_sem, f22, f3, f4, f5, f9, gb3, gb4, gb5]
 clear f22 f3 f4 f5 f9
 obtain ⟨rfl, f3, f4, f5, f10⟩ := hm
 refine SW.seq ?_
 refine SW.regX (fun f_ t_ => τ = t_ ∧ f_ 3 = AV.ptr b3 0 ∧ f_ 4 = AV.ptr b4 0 ∧ f_ 5 = AV.ptr b5 0 ∧ f_ 10 = AV.int (n1) ∧ f_ 27 = AV.bool ((!decide (n1 = 0)))) (fun M hM => ?_) (fun fr9 τz7 hm => ?_)
 ·simp [go_sem, f10, f3, f4, f5, gb3, gb4, gb5]
  refine (hM _ _).2 ⟨rfl, ?_, ?_, ?_, ?_, ?_⟩ <;> simp [go_sem, f10, f3, f4, f5, gb3, gb4, gb5]
 clear f10 f3 f4 f5
 obtain ⟨rfl, f3, f4, f5, f10, f27⟩ := hm
 refine SW.cond _ f27 (fun hx2 => ?_) (fun hx2 => ?_)
 ·have h := condT h hx2
  refine SW.seq ?_
  refine SW.regX (fun f_ t_ => τ = t_ ∧ f_ 6 = AV.int (n1)) (fun M hM => ?_) (fun fr10 τz8 hm => ?_)
  ·simp [go_sem, f10, f27, f3, f4, f5, gb3, gb4, gb5]
   refine (hM _ _).2 ⟨rfl, ?_⟩ <;> simp [go_sem, f10, f27, f3, f4, f5, gb3, gb4, gb5]
  clear f10 f27 f3 f4 f5
  obtain ⟨rfl, f6⟩ := hm
  obtain rfl := Option.some.inj h
  exact SW.ret ⟨AV.int (n1), by simp [go_sem, f6], .lit _, hK.keeps⟩
 have h := condF h hx2
 refine SW.skip ?_
 refine SW.seq ?_
 refine SW.seq ?_
 obtain ⟨q, hq, h⟩ := obind h
 obtain ⟨c, hc, h⟩ := obind h
 refine SW.regX (fun f_ t_ => τ = t_ ∧ f_ 38 = AV.bool (c)) (fun M hM => ?_) (fun fr11 τz9 hm => ?_)
 ·rcases Bool.eq_false_or_eq_true ((!q)) with y0 | y0
  ·have y0' := y0
   try simp at y0'
   have ky0 := condT hc y0
   have ec := Option.some.inj ky0
   simp [go_sem, f10, f27, f3, f4, f5, gb3, gb4, gb5, y0, y0']
   refine EWcall_pure (w_ref17_Typed t p _ hq) ?_
   simp [go_sem, f10, f27, f3, f4, f5, gb3, gb4, gb5, y0, y0']
   refine (hM _ _).2 ⟨rfl, ?_⟩ <;> simp [go_sem, f10, f27, f3, f4, f5, gb3, gb4, gb5, y0, y0', ← ec]
  ·have y0' := y0
   try simp at y0'
   have ky0 := condF hc y0
   obtain ⟨q1, hq1, ky0⟩ := obind ky0
   have ec := Option.some.inj ky0
   simp [go_sem, f10, f27, f3, f4, f5, gb3, gb4, gb5, y0, y0']
   refine EWcall_pure (w_ref17_Typed t p _ hq) ?_
   simp [go_sem, f10, f27, f3, f4, f5, gb3, gb4, gb5, y0, y0']
   refine EWcall_pure (w_ref17_Typed t g _ hq1) ?_
   simp [go_sem, f10, f27, f3, f4, f5, gb3, gb4, gb5, y0, y0']
   refine (hM _ _).2 ⟨rfl, ?_⟩ <;> simp [go_sem, f10, f27, f3, f4, f5, gb3, gb4, gb5, y0, y0', ← ec]
 clear f10 f27 f3 f4 f5
 obtain ⟨rfl, f38⟩ := hm
 refine SW.cond _ f38 (fun hx3 => ?_) (fun hx3 => ?_)
 ·have h := condT h hx3
  refine SW.seq ?_
  refine SW.regX (fun f_ t_ => τ = t_ ∧ f_ 6 = AV.int (13)) (fun M hM => ?_) (fun fr12 τz10 hm => ?_)
  ·simp [go_sem, f38]
   refine (hM _ _).2 ⟨rfl, ?_⟩ <;> simp [go_sem, f38]
  clear f38
  obtain ⟨rfl, f6⟩ := hm
  obtain rfl := Option.some.inj h
  exact SW.ret ⟨AV.int (13), by simp [go_sem, f6], .lit _, hK.keeps⟩
 have h := condF h hx3
 refine SW.skip ?_
 refine SW.seq ?_
 refine SW.regX (fun f_ t_ => τ = t_ ∧ f_ 6 = AV.int (0)) (fun M hM => ?_) (fun fr13 τz11 hm => ?_)
 ·simp [go_sem, f38]
  refine (hM _ _).2 ⟨rfl, ?_⟩ <;> simp [go_sem, f38]
 clear f38
 obtain ⟨rfl, f6⟩ := hm
 obtain rfl := Option.some.inj h
 exact SW.ret ⟨AV.int (0), by simp [go_sem, f6], .lit _, hK.keeps⟩
set_option maxHeartbeats 4000000 in
theorem w_ref17_Light (F : Nat) (t : Types) (p : Graph) (g : Graph) (r : (Bool)) (h : s_ref17_Light F t p g = some r) : PureA Tryz.prog 10 [AV.agg [nodesA (t.nodes), edgesA (t.edges)], AV.agg [intsA (p.nodes), e3sA (p.edges)], AV.agg [intsA (g.nodes), e3sA (g.edges)]] (AV.bool (r)) := by
 refine pureA_of_SW (N := 46) Tryz.func10 (by kernel_rfl) rfl (by rw [Tryz.ntmps10]; rfl) (fun σ0 => ?_)
 rw [Tryz.results10]
 obtain ⟨fr0, hfr⟩ : ∃ fr, fr = initFr [AV.agg [nodesA (t.nodes), edgesA (t.edges)], AV.agg [intsA (p.nodes), e3sA (p.edges)], AV.agg [intsA (g.nodes), e3sA (g.edges)]] := ⟨_, rfl⟩
 rw [← hfr]
 have f0 : fr0 0 = AV.agg [nodesA (t.nodes), edgesA (t.edges)] := by rw [hfr]; rfl
 have f1 : fr0 1 = AV.agg [intsA (p.nodes), e3sA (p.edges)] := by rw [hfr]; rfl
 have f2 : fr0 2 = AV.agg [intsA (g.nodes), e3sA (g.edges)] := by rw [hfr]; rfl
 clear hfr
 simp only [s_ref17_Light] at h
 refine SW.seq ?_
 refine SW.regX (fun f_ t_ => ∃ b3 : Nat, ∃ b4 : Nat, ∃ b5 : Nat, f_ 3 = AV.ptr b3 0 ∧ f_ 4 = AV.ptr b4 0 ∧ f_ 5 = AV.ptr b5 0 ∧ Kept σ0 t_ ∧ σ0.next ≤ t_.next ∧ t_.get b3 = some [nodesA (t.nodes), edgesA (t.edges)] ∧ b3 < t_.next ∧ t_.get b4 = some [intsA (p.nodes), e3sA (p.edges)] ∧ b4 < t_.next ∧ t_.get b5 = some [intsA (g.nodes), e3sA (g.edges)] ∧ b5 < t_.next ∧ σ0.next ≤ b3 ∧ σ0.next ≤ b4 ∧ ¬ b3 = b4 ∧ σ0.next ≤ b5 ∧ ¬ b3 = b5 ∧ ¬ b4 = b5) (fun M hM => ?_) (fun fr1 τ hm => ?_)
 ·simp [go_sem, f0, f1, f2]
  refine (hM _ _).2 ⟨σ0.next, (σ0.next + 1), (σ0.next + 2), ?_, ?_, ?_, by intro j hj; simp [go_sem, show ¬ j = σ0.next by omega, show ¬ j = σ0.next + 1 by omega, show ¬ j = σ0.next + 2 by omega], by first | omega | (simp [go_sem]; done) | (simp [go_sem]; omega), by simp (disch := omega) [get_alloc_ne, get_set_ne, get_kill_ne, go_sem, f0, f1, f2], by first | omega | (simp [go_sem]; done) | (simp [go_sem]; omega), by simp (disch := omega) [get_alloc_ne, get_set_ne, get_kill_ne, go_sem, f0, f1, f2], by first | omega | (simp [go_sem]; done) | (simp [go_sem]; omega), by simp (disch := omega) [get_alloc_ne, get_set_ne, get_kill_ne, go_sem, f0, f1, f2], by first | omega | (simp [go_sem]; done) | (simp [go_sem]; omega), by omega, by omega, by omega, by omega, by omega, by omega⟩ <;> simp [go_sem, f0, f1, f2]
 clear f0 f1 f2
 obtain ⟨b3, b4, b5, f3, f4, f5, hK, hN, gb3, ub3, gb4, ub4, gb5, ub5, wb3, wb4, eb3b4, wb5, eb3b5, eb4b5⟩ := hm
 refine SW.seq ?_
 obtain ⟨q, hq, h⟩ := obind h
 obtain ⟨c, hc, h⟩ := obind h
 refine SW.regX (fun f_ t_ => τ = t_ ∧ f_ 6 = AV.bool (c)) (fun M hM => ?_) (fun fr2 τz hm => ?_)
 ·rcases Bool.eq_false_or_eq_true q with y0 | y0
  ·have y0' := y0
   try simp at y0'
   have ky0 := condT hc y0
   obtain ⟨q1, hq1, ky0⟩ := obind ky0
   rcases Bool.eq_false_or_eq_true q1 with y2 | y2
   ·have y2' := y2
    try simp [y0'] at y2'
    have ky2 := condT ky0 y2
    obtain ⟨q2, hq2, ky2⟩ := obind ky2
    rcases Bool.eq_false_or_eq_true q2 with y4 | y4
    ·have y4' := y4
     try simp [y0', y2'] at y4'
     have ky4 := condT ky2 y4
     obtain ⟨n, hn, ky4⟩ := obind ky4
     rcases Bool.eq_false_or_eq_true ((!decide (n = 0))) with y6 | y6
     ·have y6' := y6
      try simp [y0', y2', y4'] at y6'
      have ky6 := condT ky4 y6
      have ec := Option.some.inj ky6
      simp [go_sem, f3, f4, f5, gb3, gb4, gb5, y0, y0', y2, y2', y4, y4', y6, y6']
      refine EWcall_pure (w_ref04_Few t _ hq) ?_
      simp [go_sem, f3, f4, f5, gb3, gb4, gb5, y0, y0', y2, y2', y4, y4', y6, y6']
      refine EWcall_pure (w_ref05_Few p _ hq1) ?_
      simp [go_sem, f3, f4, f5, gb3, gb4, gb5, y0, y0', y2, y2', y4, y4', y6, y6']
      refine EWcall_pure (w_ref05_Few g _ hq2) ?_
      simp [go_sem, f3, f4, f5, gb3, gb4, gb5, y0, y0', y2, y2', y4, y4', y6, y6']
      refine EWcall_pure (w_ref17_given F t p g _ hn) ?_
      simp [go_sem, f3, f4, f5, gb3, gb4, gb5, y0, y0', y2, y2', y4, y4', y6, y6']
      refine (hM _ _).2 ⟨rfl, ?_⟩ <;> simp [go_sem, f3, f4, f5, gb3, gb4, gb5, y0, y0', y2, y2', y4, y4', y6, y6', ← ec]
     ·have y6' := y6
      try simp [y0', y2', y4'] at y6'
      have ky6 := condF ky4 y6
      rcases Bool.eq_false_or_eq_true ((decide ((IntKind.i64.wrap (((p.nodes.length : Nat) : Int) + ((p.edges.length : Nat) : Int))) ≤ 6))) with y8 | y8
      ·have y8' := y8
       try simp [y0', y2', y4', y6'] at y8'
       have ky8 := condT ky6 y8
       rcases Bool.eq_false_or_eq_true ((decide (((g.nodes.length : Nat) : Int) ≤ 8))) with y10 | y10
       ·have y10' := y10
        try simp [y0', y2', y4', y6', y8'] at y10'
        have ky10 := condT ky8 y10
        have ec := Option.some.inj ky10
        simp [go_sem, f3, f4, f5, gb3, gb4, gb5, y0, y0', y2, y2', y4, y4', y6, y6', y8, y8', y10, y10']
        refine EWcall_pure (w_ref04_Few t _ hq) ?_
        simp [go_sem, f3, f4, f5, gb3, gb4, gb5, y0, y0', y2, y2', y4, y4', y6, y6', y8, y8', y10, y10']
        refine EWcall_pure (w_ref05_Few p _ hq1) ?_
        simp [go_sem, f3, f4, f5, gb3, gb4, gb5, y0, y0', y2, y2', y4, y4', y6, y6', y8, y8', y10, y10']
        refine EWcall_pure (w_ref05_Few g _ hq2) ?_
        simp [go_sem, f3, f4, f5, gb3, gb4, gb5, y0, y0', y2, y2', y4, y4', y6, y6', y8, y8', y10, y10']
        refine EWcall_pure (w_ref17_given F t p g _ hn) ?_
        simp [go_sem, f3, f4, f5, gb3, gb4, gb5, y0, y0', y2, y2', y4, y4', y6, y6', y8, y8', y10, y10']
        refine (hM _ _).2 ⟨rfl, ?_⟩ <;> simp [go_sem, f3, f4, f5, gb3, gb4, gb5, y0, y0', y2, y2', y4, y4', y6, y6', y8, y8', y10, y10', ← ec]
       ·have y10' := y10
        try simp [y0', y2', y4', y6', y8'] at y10'
        have ky10 := condF ky8 y10
        have ec := Option.some.inj ky10
        simp [go_sem, f3, f4, f5, gb3, gb4, gb5, y0, y0', y2, y2', y4, y4', y6, y6', y8, y8', y10, y10']
        refine EWcall_pure (w_ref04_Few t _ hq) ?_
        simp [go_sem, f3, f4, f5, gb3, gb4, gb5, y0, y0', y2, y2', y4, y4', y6, y6', y8, y8', y10, y10']
        refine EWcall_pure (w_ref05_Few p _ hq1) ?_
        simp [go_sem, f3, f4, f5, gb3, gb4, gb5, y0, y0', y2, y2', y4, y4', y6, y6', y8, y8', y10, y10']
        refine EWcall_pure (w_ref05_Few g _ hq2) ?_
        simp [go_sem, f3, f4, f5, gb3, gb4, gb5, y0, y0', y2, y2', y4, y4', y6, y6', y8, y8', y10, y10']
        refine EWcall_pure (w_ref17_given F t p g _ hn) ?_
        simp [go_sem, f3, f4, f5, gb3, gb4, gb5, y0, y0', y2, y2', y4, y4', y6, y6', y8, y8', y10, y10']
        refine (hM _ _).2 ⟨rfl, ?_⟩ <;> simp [go_sem, f3, f4, f5, gb3, gb4, gb5, y0, y0', y2, y2', y4, y4', y6, y6', y8, y8', y10, y10', ← ec]
      ·have y8' := y8
       try simp [y0', y2', y4', y6'] at y8'
       have ky8 := condF ky6 y8
       have ec := Option.some.inj ky8
       simp [go_sem, f3, f4, f5, gb3, gb4, gb5, y0, y0', y2, y2', y4, y4', y6, y6', y8, y8']
       refine EWcall_pure (w_ref04_Few t _ hq) ?_
       simp [go_sem, f3, f4, f5, gb3, gb4, gb5, y0, y0', y2, y2', y4, y4', y6, y6', y8, y8']
       refine EWcall_pure (w_ref05_Few p _ hq1) ?_
       simp [go_sem, f3, f4, f5, gb3, gb4, gb5, y0, y0', y2, y2', y4, y4', y6, y6', y8, y8']
       refine EWcall_pure (w_ref05_Few g _ hq2) ?_
       simp [go_sem, f3, f4, f5, gb3, gb4, gb5, y0, y0', y2, y2', y4, y4', y6, y6', y8, y8']
       refine EWcall_pure (w_ref17_given F t p g _ hn) ?_
       simp [go_sem, f3, f4, f5, gb3, gb4, gb5, y0, y0', y2, y2', y4, y4', y6, y6', y8, y8']
       refine (hM _ _).2 ⟨rfl, ?_⟩ <;> simp [go_sem, f3, f4, f5, gb3, gb4, gb5, y0, y0', y2, y2', y4, y4', y6, y6', y8, y8', ← ec]
    ·have y4' := y4
     try simp [y0', y2'] at y4'
     have ky4 := condF ky2 y4
     have ec := Option.some.inj ky4
     simp [go_sem, f3, f4, f5, gb3, gb4, gb5, y0, y0', y2, y2', y4, y4']
     refine EWcall_pure (w_ref04_Few t _ hq) ?_
     simp [go_sem, f3, f4, f5, gb3, gb4, gb5, y0, y0', y2, y2', y4, y4']
     refine EWcall_pure (w_ref05_Few p _ hq1) ?_
     simp [go_sem, f3, f4, f5, gb3, gb4, gb5, y0, y0', y2, y2', y4, y4']
     refine EWcall_pure (w_ref05_Few g _ hq2) ?_
     simp [go_sem, f3, f4, f5, gb3, gb4, gb5, y0, y0', y2, y2', y4, y4']
     refine (hM _ _).2 ⟨rfl, ?_⟩ <;> simp [go_sem, f3, f4, f5, gb3, gb4, gb5, y0, y0', y2, y2', y4, y4', ← ec]
   ·have y2' := y2
    try simp [y0'] at y2'
    have ky2 := condF ky0 y2
    have ec := Option.some.inj ky2
    simp [go_sem, f3, f4, f5, gb3, gb4, gb5, y0, y0', y2, y2']
    refine EWcall_pure (w_ref04_Few t _ hq) ?_
    simp [go_sem, f3, f4, f5, gb3, gb4, gb5, y0, y0', y2, y2']
    refine EWcall_pure (w_ref05_Few p _ hq1) ?_
    simp [go_sem, f3, f4, f5, gb3, gb4, gb5, y0, y0', y2, y2']
    refine (hM _ _).2 ⟨rfl, ?_⟩ <;> simp [go_sem, f3, f4, f5, gb3, gb4, gb5, y0, y0', y2, y2', ← ec]
  ·have y0' := y0
   try simp at y0'
   have ky0 := condF hc y0
   have ec := Option.some.inj ky0
   simp [go_sem, f3, f4, f5, gb3, gb4, gb5, y0, y0']
   refine EWcall_pure (w_ref04_Few t _ hq) ?_
   simp [go_sem, f3, f4, f5, gb3, gb4, gb5, y0, y0']
   refine (hM _ _).2 ⟨rfl, ?_⟩ <;> simp [go_sem, f3, f4, f5, gb3, gb4, gb5, y0, y0', ← ec]
 clear f3 f4 f5
 obtain ⟨rfl, f6⟩ := hm
 obtain rfl := Option.some.inj h
 exact SW.ret ⟨AV.bool (c), by simp [go_sem, f6], .lit _, hK.keeps⟩
end Go.Proofs.YtdacgjleiloooaaGreat
