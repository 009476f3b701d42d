/-
  Plain functions and the walks that lead to them, by a program of ours (gen.py): scarfjoint/scarfjointlaw17.SearchCheck.
-/
import Derived.Test.YtdacgjleiloooaaGreatGd
import Derived.Test.YtdacgjleiloooaaGreatGT
import Derived.Test.YtdacgjleiloooaaGreatB3
import Derived.Test.YtdacgjleiloooaaGreatGS
import Derived.Test.YtdacgjleiloooaaGreatGa5
import Derived.Test.YtdacgjleiloooaaGreatGa11
import Derived.Test.YtdacgjleiloooaaGreatGa13
import Derived.Test.YtdacgjleiloooaaGreatGa21
set_option linter.unusedSimpArgs false
set_option linter.unusedVariables false
namespace Go.Proofs.YtdacgjleiloooaaGreat
open Go Go.Ew Go.Proofs Go.RowKit
set_option maxRecDepth 100000
set_option maxHeartbeats 4000000 in
theorem w_law17_SearchCheck (F : Nat) (c : Gscarfjointlaw17_Case) (m : Morph) (injective : Bool) (r : (Bool)) (h : s_law17_SearchCheck F c m injective = some r) : PureA Tryz.prog 6 [AV.agg [nodesA (c.t.nodes), edgesA (c.t.edges), intsA (c.p.nodes), e3sA (c.p.edges), intsA (c.g.nodes), e3sA (c.g.edges)], AV.agg [intsA (m.nodes), intsA (m.edges)], AV.bool (injective)] (AV.bool (r)) := by
  refine pureA_of_SW (N := 51) Tryz.func6 (by kernel_rfl) rfl (by rw [Tryz.ntmps6]; rfl) (fun σ0 => ?_)
  rw [Tryz.results6]
  obtain ⟨fr0, hfr⟩ : ∃ fr, fr = initFr [AV.agg [nodesA (c.t.nodes), edgesA (c.t.edges), intsA (c.p.nodes), e3sA (c.p.edges), intsA (c.g.nodes), e3sA (c.g.edges)], AV.agg [intsA (m.nodes), intsA (m.edges)], AV.bool (injective)] := ⟨_, rfl⟩
  rw [← hfr]
  have f0 : fr0 0 = AV.agg [nodesA (c.t.nodes), edgesA (c.t.edges), intsA (c.p.nodes), e3sA (c.p.edges), intsA (c.g.nodes), e3sA (c.g.edges)] := by rw [hfr]; rfl
  have f1 : fr0 1 = AV.agg [intsA (m.nodes), intsA (m.edges)] := by rw [hfr]; rfl
  have f2 : fr0 2 = AV.bool (injective) := by rw [hfr]; rfl
  clear hfr
  simp only [s_law17_SearchCheck] at h
  refine SW.seq ?_
  -- region 0
  refine SW.regX (fun f_ t_ => ∃ b3 : Nat, ∃ b4 : Nat, f_ 2 = AV.bool (injective) ∧ f_ 3 = AV.ptr b3 0 ∧ f_ 4 = AV.ptr b4 0 ∧ Kept σ0 t_ ∧ σ0.next ≤ t_.next ∧ t_.get b3 = some [nodesA (c.t.nodes), edgesA (c.t.edges), intsA (c.p.nodes), e3sA (c.p.edges), intsA (c.g.nodes), e3sA (c.g.edges)] ∧ b3 < t_.next ∧ t_.get b4 = some [intsA (m.nodes), intsA (m.edges)] ∧ b4 < t_.next ∧ σ0.next ≤ b3 ∧ σ0.next ≤ b4 ∧ ¬ b3 = b4) (fun M hM => ?_) (fun fr1 τ hm => ?_)
  · simp [go_sem, f0, f1, f2]
    refine (hM _ _).2 ⟨σ0.next, (σ0.next + 1), ?_, ?_, ?_, by intro j hj; simp [go_sem, show ¬ j = σ0.next by omega, show ¬ j = σ0.next + 1 by omega], by first | omega | (simp [go_sem]; done) | (simp [go_sem]; omega), by simp (disch := omega) [get_alloc_ne, get_set_ne, get_kill_ne, go_sem, f0, f1, f2], by first | omega | (simp [go_sem]; done) | (simp [go_sem]; omega), by simp (disch := omega) [get_alloc_ne, get_set_ne, get_kill_ne, go_sem, f0, f1, f2], by first | omega | (simp [go_sem]; done) | (simp [go_sem]; omega), by omega, by omega, by omega⟩ <;> simp [go_sem, f0, f1, f2]
  clear f0 f1 f2
  obtain ⟨b3, b4, f2, f3, f4, hK, hN, gb3, ub3, gb4, ub4, wb3, wb4, eb3b4⟩ := hm
  refine SW.seq ?_
  refine SW.seq ?_
  -- region 1
  obtain ⟨q, hq, h⟩ := obind h
  obtain ⟨c1, hc1, h⟩ := obind h
  refine SW.regX (fun f_ t_ => τ = t_ ∧ f_ 2 = AV.bool (injective) ∧ f_ 3 = AV.ptr b3 0 ∧ f_ 4 = AV.ptr b4 0 ∧ f_ 30 = AV.bool (c1)) (fun M hM => ?_) (fun fr2 τz hm => ?_)
  · rcases Bool.eq_false_or_eq_true ((!q)) with y0 | y0
    · have y0' := y0
      try simp at y0'
      have ky0 := condT hc1 y0
      have ec1 := Option.some.inj ky0
      simp [go_sem, f2, f3, f4, gb3, gb4, y0, y0']
      refine EWcall_pure (w_law17_awake _ hq) ?_
      simp [go_sem, f2, f3, f4, gb3, gb4, y0, y0']
      refine (hM _ _).2 ⟨rfl, ?_, ?_, ?_, ?_⟩ <;> simp [go_sem, f2, f3, f4, gb3, gb4, y0, y0', ← ec1]
    · have y0' := y0
      try simp at y0'
      have ky0 := condF hc1 y0
      obtain ⟨q1, hq1, ky0⟩ := obind ky0
      rcases Bool.eq_false_or_eq_true ((!q1)) with y2 | y2
      · have y2' := y2
        try simp [y0'] at y2'
        have ky2 := condT ky0 y2
        have ec1 := Option.some.inj ky2
        simp [go_sem, f2, f3, f4, gb3, gb4, y0, y0', y2, y2']
        refine EWcall_pure (w_law17_awake _ hq) ?_
        simp [go_sem, f2, f3, f4, gb3, gb4, y0, y0', y2, y2']
        refine EWcall_pure (w_ref17_Light F c.t c.p c.g _ hq1) ?_
        simp [go_sem, f2, f3, f4, gb3, gb4, y0, y0', y2, y2']
        refine (hM _ _).2 ⟨rfl, ?_, ?_, ?_, ?_⟩ <;> simp [go_sem, f2, f3, f4, gb3, gb4, y0, y0', y2, y2', ← ec1]
      · have y2' := y2
        try simp [y0'] at y2'
        have ky2 := condF ky0 y2
        rcases Bool.eq_false_or_eq_true ((decide (100 < ((m.nodes.length : Nat) : Int)))) with y4 | y4
        · have y4' := y4
          try simp [y0', y2'] at y4'
          have ky4 := condT ky2 y4
          have ec1 := Option.some.inj ky4
          simp [go_sem, f2, f3, f4, gb3, gb4, y0, y0', y2, y2', y4, y4']
          refine EWcall_pure (w_law17_awake _ hq) ?_
          simp [go_sem, f2, f3, f4, gb3, gb4, y0, y0', y2, y2', y4, y4']
          refine EWcall_pure (w_ref17_Light F c.t c.p c.g _ hq1) ?_
          simp [go_sem, f2, f3, f4, gb3, gb4, y0, y0', y2, y2', y4, y4']
          refine (hM _ _).2 ⟨rfl, ?_, ?_, ?_, ?_⟩ <;> simp [go_sem, f2, f3, f4, gb3, gb4, y0, y0', y2, y2', y4, y4', ← ec1]
        · have y4' := y4
          try simp [y0', y2'] at y4'
          have ky4 := condF ky2 y4
          have ec1 := Option.some.inj ky4
          simp [go_sem, f2, f3, f4, gb3, gb4, y0, y0', y2, y2', y4, y4']
          refine EWcall_pure (w_law17_awake _ hq) ?_
          simp [go_sem, f2, f3, f4, gb3, gb4, y0, y0', y2, y2', y4, y4']
          refine EWcall_pure (w_ref17_Light F c.t c.p c.g _ hq1) ?_
          simp [go_sem, f2, f3, f4, gb3, gb4, y0, y0', y2, y2', y4, y4']
          refine (hM _ _).2 ⟨rfl, ?_, ?_, ?_, ?_⟩ <;> simp [go_sem, f2, f3, f4, gb3, gb4, y0, y0', y2, y2', y4, y4', ← ec1]
  clear f2 f3 f4
  obtain ⟨rfl, f2, f3, f4, f30⟩ := hm
  refine SW.cond _ f30 (fun hx => ?_) (fun hx => ?_)
  · have h := condT h hx
    refine SW.seq ?_
    -- region 2
    obtain ⟨q2, hq2, h⟩ := obind h
    refine SW.regX (fun f_ t_ => τ = t_ ∧ f_ 6 = AV.bool (q2)) (fun M hM => ?_) (fun fr3 τz1 hm => ?_)
    · simp [go_sem, f2, f3, f30, f4, gb3, gb4]
      refine EWcall_pure (w_law17_awake _ hq2) ?_
      simp [go_sem, f2, f3, f30, f4, gb3, gb4]
      refine (hM _ _).2 ⟨rfl, ?_⟩ <;> simp [go_sem, f2, f3, f30, f4, gb3, gb4]
    clear f2 f3 f30 f4
    obtain ⟨rfl, f6⟩ := hm
    obtain rfl := Option.some.inj h
    exact SW.ret ⟨AV.bool (q2), by simp [go_sem, f6], .lit _, hK.keeps⟩
  have h := condF h hx
  refine SW.skip ?_
  refine SW.seq ?_
  -- region 3
  obtain ⟨n, hn, h⟩ := obind h
  obtain ⟨n1, hn1, h⟩ := obind h
  refine SW.regX (fun f_ t_ => τ = t_ ∧ f_ 6 = AV.bool ((decide (n = n1)))) (fun M hM => ?_) (fun fr4 τz2 hm => ?_)
  · refine EW_regionD (by kernel_rfl) (by kernel_rfl) ?_
    simp [go_sem, f2, f3, f30, f4, gb3, gb4]
    refine EWqcall_pure (w_search_Check c.t c.p c.g m injective _ hn) rfl ?_
    simp [go_sem, f2, f3, f30, f4, gb3, gb4]
    refine EWqcall_pure (w_ref17_Check F c.t c.p c.g m injective _ hn1) rfl ?_
    simp [go_sem, f2, f3, f30, f4, gb3, gb4]
    refine (hM _ _).2 ⟨rfl, ?_⟩ <;> simp [go_sem, f2, f3, f30, f4, gb3, gb4]
  clear f2 f3 f30 f4
  obtain ⟨rfl, f6⟩ := hm
  obtain rfl := Option.some.inj h
  exact SW.ret ⟨AV.bool ((decide (n = n1))), by simp [go_sem, f6], .lit _, hK.keeps⟩
end Go.Proofs.YtdacgjleiloooaaGreat
