/-
  Plain functions and the walks that lead to them, by a program of ours (gen.py): scarfjoint/scarfjointlaw17.SearchFirst.
-/
import Derived.Test.YtdacgjleiloooaaGreatGd
import Derived.Test.YtdacgjleiloooaaGreatGT
import Derived.Test.YtdacgjleiloooaaGreatB3
import Derived.Test.YtdacgjleiloooaaGreatGa5
import Derived.Test.YtdacgjleiloooaaGreatGa11
import Derived.Test.YtdacgjleiloooaaGreatGa17
set_option linter.unusedSimpArgs false
set_option linter.unusedVariables false
namespace Go.Proofs.YtdacgjleiloooaaGreat
open Go Go.Ew Go.Proofs Go.RowKit
set_option maxRecDepth 100000
set_option maxHeartbeats 4000000 in
theorem w_law17_SearchFirst (F : Nat) (c : Gscarfjointlaw17_Case) (injective : Bool) (r : (Bool)) (h : s_law17_SearchFirst F c injective = some r) : PureA Tryz.prog 4 [AV.agg [nodesA (c.t.nodes), edgesA (c.t.edges), intsA (c.p.nodes), e3sA (c.p.edges), intsA (c.g.nodes), e3sA (c.g.edges)], AV.bool (injective)] (AV.bool (r)) := by
  refine pureA_of_SW (N := 52) Tryz.func4 (by kernel_rfl) rfl (by rw [Tryz.ntmps4]; rfl) (fun σ0 => ?_)
  rw [Tryz.results4]
  obtain ⟨fr0, hfr⟩ : ∃ fr, fr = initFr [AV.agg [nodesA (c.t.nodes), edgesA (c.t.edges), intsA (c.p.nodes), e3sA (c.p.edges), intsA (c.g.nodes), e3sA (c.g.edges)], AV.bool (injective)] := ⟨_, rfl⟩
  rw [← hfr]
  have f0 : fr0 0 = AV.agg [nodesA (c.t.nodes), edgesA (c.t.edges), intsA (c.p.nodes), e3sA (c.p.edges), intsA (c.g.nodes), e3sA (c.g.edges)] := by rw [hfr]; rfl
  have f1 : fr0 1 = AV.bool (injective) := by rw [hfr]; rfl
  clear hfr
  simp only [s_law17_SearchFirst] at h
  refine SW.seq ?_
  -- region 0
  refine SW.regX (fun f_ t_ => ∃ b2 : Nat, f_ 1 = AV.bool (injective) ∧ f_ 2 = AV.ptr b2 0 ∧ Kept σ0 t_ ∧ σ0.next ≤ t_.next ∧ t_.get b2 = some [nodesA (c.t.nodes), edgesA (c.t.edges), intsA (c.p.nodes), e3sA (c.p.edges), intsA (c.g.nodes), e3sA (c.g.edges)] ∧ b2 < t_.next ∧ σ0.next ≤ b2) (fun M hM => ?_) (fun fr1 τ hm => ?_)
  · simp [go_sem, f0, f1]
    refine (hM _ _).2 ⟨σ0.next, ?_, ?_, by intro j hj; simp [go_sem, show ¬ j = σ0.next by omega], by first | omega | (simp [go_sem]; done) | (simp [go_sem]; omega), by simp (disch := omega) [get_alloc_ne, get_set_ne, get_kill_ne, go_sem, f0, f1], by first | omega | (simp [go_sem]; done) | (simp [go_sem]; omega), by omega⟩ <;> simp [go_sem, f0, f1]
  clear f0 f1
  obtain ⟨b2, f1, f2, hK, hN, gb2, ub2, wb2⟩ := hm
  refine SW.seq ?_
  refine SW.seq ?_
  -- region 1
  obtain ⟨q, hq, h⟩ := obind h
  obtain ⟨c1, hc1, h⟩ := obind h
  refine SW.regX (fun f_ t_ => τ = t_ ∧ f_ 1 = AV.bool (injective) ∧ f_ 2 = AV.ptr b2 0 ∧ f_ 20 = AV.bool (c1)) (fun M hM => ?_) (fun fr2 τz hm => ?_)
  · rcases Bool.eq_false_or_eq_true ((!q)) with y0 | y0
    · have y0' := y0
      try simp at y0'
      have ky0 := condT hc1 y0
      have ec1 := Option.some.inj ky0
      simp [go_sem, f1, f2, gb2, y0, y0']
      refine EWcall_pure (w_law17_awake _ hq) ?_
      simp [go_sem, f1, f2, gb2, y0, y0']
      refine (hM _ _).2 ⟨rfl, ?_, ?_, ?_⟩ <;> simp [go_sem, f1, f2, gb2, y0, y0', ← ec1]
    · have y0' := y0
      try simp at y0'
      have ky0 := condF hc1 y0
      obtain ⟨q1, hq1, ky0⟩ := obind ky0
      have ec1 := Option.some.inj ky0
      simp [go_sem, f1, f2, gb2, y0, y0']
      refine EWcall_pure (w_law17_awake _ hq) ?_
      simp [go_sem, f1, f2, gb2, y0, y0']
      refine EWcall_pure (w_ref17_Light F c.t c.p c.g _ hq1) ?_
      simp [go_sem, f1, f2, gb2, y0, y0']
      refine (hM _ _).2 ⟨rfl, ?_, ?_, ?_⟩ <;> simp [go_sem, f1, f2, gb2, y0, y0', ← ec1]
  clear f1 f2
  obtain ⟨rfl, f1, f2, f20⟩ := hm
  refine SW.cond _ f20 (fun hx => ?_) (fun hx => ?_)
  · have h := condT h hx
    refine SW.seq ?_
    -- region 2
    obtain ⟨q2, hq2, h⟩ := obind h
    refine SW.regX (fun f_ t_ => τ = t_ ∧ f_ 4 = AV.bool (q2)) (fun M hM => ?_) (fun fr3 τz1 hm => ?_)
    · simp [go_sem, f1, f2, f20, gb2]
      refine EWcall_pure (w_law17_awake _ hq2) ?_
      simp [go_sem, f1, f2, f20, gb2]
      refine (hM _ _).2 ⟨rfl, ?_⟩ <;> simp [go_sem, f1, f2, f20, gb2]
    clear f1 f2 f20
    obtain ⟨rfl, f4⟩ := hm
    obtain rfl := Option.some.inj h
    exact SW.ret ⟨AV.bool (q2), by simp [go_sem, f4], .lit _, hK.keeps⟩
  have h := condF h hx
  refine SW.skip ?_
  refine SW.seq ?_
  -- region 3
  obtain ⟨rx, hrx, h⟩ := obind h
  refine SW.regX (fun f_ t_ => ∃ b5 : Nat, f_ 1 = AV.bool (injective) ∧ f_ 2 = AV.ptr b2 0 ∧ f_ 5 = AV.ptr b5 0 ∧ f_ 6 = AV.int (rx.2) ∧ Kept σ0 t_ ∧ σ0.next ≤ t_.next ∧ t_.get b2 = some [nodesA (c.t.nodes), edgesA (c.t.edges), intsA (c.p.nodes), e3sA (c.p.edges), intsA (c.g.nodes), e3sA (c.g.edges)] ∧ b2 < t_.next ∧ t_.get b5 = some [intsA (rx.1.nodes), intsA (rx.1.edges)] ∧ b5 < t_.next ∧ σ0.next ≤ b5 ∧ ¬ b2 = b5) (fun M hM => ?_) (fun fr4 τ1 hm => ?_)
  · have nb2_0 : ¬ b2 = τ.next := by omega
    simp [go_sem, f1, f2, f20, gb2, nb2_0]
    refine EWcall_pure (w_search_First c.t c.p c.g injective _ hrx) ?_
    simp [go_sem, f1, f2, f20, gb2, nb2_0]
    refine (hM _ _).2 ⟨τ.next, ?_, ?_, ?_, ?_, by intro j hj; have hj_ := hK j hj; simp [go_sem, hj_.1, hj_.2, show ¬ j = τ.next by omega], by first | omega | (simp [go_sem]; done) | (simp [go_sem]; omega), by simp (disch := omega) [get_alloc_ne, get_set_ne, get_kill_ne, go_sem, f1, f2, f20, gb2, nb2_0], by first | omega | (simp [go_sem]; done) | (simp [go_sem]; omega), by simp (disch := omega) [get_alloc_ne, get_set_ne, get_kill_ne, go_sem, f1, f2, f20, gb2, nb2_0], by first | omega | (simp [go_sem]; done) | (simp [go_sem]; omega), by omega, by omega⟩ <;> simp [go_sem, f1, f2, f20, gb2, nb2_0]
  clear f1 f2 f20 hK hN gb2 ub2
  obtain ⟨b5, f1, f2, f5, f6, hK, hN, gb2, ub2, gb5, ub5, wb5, eb2b5⟩ := hm
  refine SW.seq ?_
  -- region 4
  obtain ⟨rx1, hrx1, h⟩ := obind h
  refine SW.regX (fun f_ t_ => ∃ b7 : Nat, f_ 5 = AV.ptr b5 0 ∧ f_ 6 = AV.int (rx.2) ∧ f_ 7 = AV.ptr b7 0 ∧ f_ 8 = AV.int (rx1.2) ∧ Kept σ0 t_ ∧ σ0.next ≤ t_.next ∧ t_.get b5 = some [intsA (rx.1.nodes), intsA (rx.1.edges)] ∧ b5 < t_.next ∧ t_.get b7 = some [intsA (rx1.1.nodes), intsA (rx1.1.edges)] ∧ b7 < t_.next ∧ σ0.next ≤ b7 ∧ ¬ b5 = b7) (fun M hM => ?_) (fun fr5 τ2 hm => ?_)
  · have nb2_0 : ¬ b2 = τ1.next := by omega
    have nb5_0 : ¬ b5 = τ1.next := by omega
    simp [go_sem, f1, f2, f5, f6, gb2, gb5, nb2_0, nb5_0]
    refine EWcall_pure (w_ref17_First F c.t c.p c.g injective _ hrx1) ?_
    simp [go_sem, f1, f2, f5, f6, gb2, gb5, nb2_0, nb5_0]
    refine (hM _ _).2 ⟨τ1.next, ?_, ?_, ?_, ?_, by intro j hj; have hj_ := hK j hj; simp [go_sem, hj_.1, hj_.2, show ¬ j = τ1.next by omega], by first | omega | (simp [go_sem]; done) | (simp [go_sem]; omega), by simp (disch := omega) [get_alloc_ne, get_set_ne, get_kill_ne, go_sem, f1, f2, f5, f6, gb2, gb5, nb2_0, nb5_0], by first | omega | (simp [go_sem]; done) | (simp [go_sem]; omega), by simp (disch := omega) [get_alloc_ne, get_set_ne, get_kill_ne, go_sem, f1, f2, f5, f6, gb2, gb5, nb2_0, nb5_0], by first | omega | (simp [go_sem]; done) | (simp [go_sem]; omega), by omega, by omega⟩ <;> simp [go_sem, f1, f2, f5, f6, gb2, gb5, nb2_0, nb5_0]
  clear f1 f2 f5 f6 hK hN gb2 ub2 gb5 ub5
  obtain ⟨b7, f5, f6, f7, f8, hK, hN, gb5, ub5, gb7, ub7, wb7, eb5b7⟩ := hm
  refine SW.seq ?_
  -- region 5
  obtain ⟨c2, hc2, h⟩ := obind h
  refine SW.regX (fun f_ t_ => τ2 = t_ ∧ f_ 4 = AV.bool (c2)) (fun M hM => ?_) (fun fr6 τz2 hm => ?_)
  · rcases Bool.eq_false_or_eq_true ((decide (rx.2 = rx1.2))) with y0 | y0
    · have y0' := y0
      try simp at y0'
      have ky0 := condT hc2 y0
      obtain ⟨q3, hq3, ky0⟩ := obind ky0
      have ec2 := Option.some.inj ky0
      simp [go_sem, f5, f6, f7, f8, gb5, gb7, y0, y0']
      refine EWcall_pure (w_ref06_Same rx.1 rx1.1 _ hq3) ?_
      simp [go_sem, f5, f6, f7, f8, gb5, gb7, y0, y0']
      refine (hM _ _).2 ⟨rfl, ?_⟩ <;> simp [go_sem, f5, f6, f7, f8, gb5, gb7, y0, y0', ← ec2]
    · have y0' := y0
      try simp at y0'
      have ky0 := condF hc2 y0
      have ec2 := Option.some.inj ky0
      simp [go_sem, f5, f6, f7, f8, gb5, gb7, y0, y0']
      refine (hM _ _).2 ⟨rfl, ?_⟩ <;> simp [go_sem, f5, f6, f7, f8, gb5, gb7, y0, y0', ← ec2]
  clear f5 f6 f7 f8
  obtain ⟨rfl, f4⟩ := hm
  obtain rfl := Option.some.inj h
  exact SW.ret ⟨AV.bool (c2), by simp [go_sem, f4], .lit _, hK.keeps⟩
end Go.Proofs.YtdacgjleiloooaaGreat
