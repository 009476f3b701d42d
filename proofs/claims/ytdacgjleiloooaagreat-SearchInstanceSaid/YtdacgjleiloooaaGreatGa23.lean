/-
  Plain functions and the walks that lead to them, by a program of ours (gen.py): scarfjoint/scarfjointlaw17.SearchInstance.
-/
import Derived.Test.YtdacgjleiloooaaGreatGd
import Derived.Test.YtdacgjleiloooaaGreatGT
import Derived.Test.YtdacgjleiloooaaGreatB3
import Derived.Test.YtdacgjleiloooaaGreatGa5
import Derived.Test.YtdacgjleiloooaaGreatGa11
import Derived.Test.YtdacgjleiloooaaGreatGa4
import Derived.Test.YtdacgjleiloooaaGreatGa21
import Derived.Test.YtdacgjleiloooaaGreatGa22
set_option linter.unusedSimpArgs false
set_option linter.unusedVariables false
namespace Go.Proofs.YtdacgjleiloooaaGreat
open Go Go.Ew Go.Proofs Go.RowKit
set_option maxRecDepth 100000
set_option maxHeartbeats 4000000 in
theorem w_law17_SearchInstance (F : Nat) (t : Gscarfjointlaw17_Case) (o : Morph) (r : (Bool)) (h : s_law17_SearchInstance F t o = some r) : PureA Tryz.prog 3 [AV.agg [nodesA (t.t.nodes), edgesA (t.t.edges), intsA (t.p.nodes), e3sA (t.p.edges), intsA (t.g.nodes), e3sA (t.g.edges)], AV.agg [intsA (o.nodes), intsA (o.edges)]] (AV.bool (r)) := by
  refine pureA_of_SW (N := 76) Tryz.func3 (by kernel_rfl) rfl (by rw [Tryz.ntmps3]; rfl) (fun σ0 => ?_)
  rw [Tryz.results3]
  obtain ⟨fr0, hfr⟩ : ∃ fr, fr = initFr [AV.agg [nodesA (t.t.nodes), edgesA (t.t.edges), intsA (t.p.nodes), e3sA (t.p.edges), intsA (t.g.nodes), e3sA (t.g.edges)], AV.agg [intsA (o.nodes), intsA (o.edges)]] := ⟨_, rfl⟩
  rw [← hfr]
  have f0 : fr0 0 = AV.agg [nodesA (t.t.nodes), edgesA (t.t.edges), intsA (t.p.nodes), e3sA (t.p.edges), intsA (t.g.nodes), e3sA (t.g.edges)] := by rw [hfr]; rfl
  have f1 : fr0 1 = AV.agg [intsA (o.nodes), intsA (o.edges)] := by rw [hfr]; rfl
  clear hfr
  simp only [s_law17_SearchInstance] at h
  refine SW.seq ?_
  -- region 0
  refine SW.regX (fun f_ t_ => ∃ b2 : Nat, ∃ b3 : Nat, f_ 2 = AV.ptr b2 0 ∧ f_ 3 = AV.ptr b3 0 ∧ Kept σ0 t_ ∧ σ0.next ≤ t_.next ∧ t_.get b2 = some [nodesA (t.t.nodes), edgesA (t.t.edges), intsA (t.p.nodes), e3sA (t.p.edges), intsA (t.g.nodes), e3sA (t.g.edges)] ∧ b2 < t_.next ∧ t_.get b3 = some [intsA (o.nodes), intsA (o.edges)] ∧ b3 < t_.next ∧ σ0.next ≤ b2 ∧ σ0.next ≤ b3 ∧ ¬ b2 = b3) (fun M hM => ?_) (fun fr1 τ hm => ?_)
  · simp [go_sem, f0, f1]
    refine (hM _ _).2 ⟨σ0.next, (σ0.next + 1), ?_, ?_, by intro j hj; simp [go_sem, show ¬ j = σ0.next by omega, show ¬ j = σ0.next + 1 by omega], by first | omega | (simp [go_sem]; done) | (simp [go_sem]; omega), by simp (disch := omega) [get_alloc_ne, get_set_ne, get_kill_ne, go_sem, f0, f1], by first | omega | (simp [go_sem]; done) | (simp [go_sem]; omega), by simp (disch := omega) [get_alloc_ne, get_set_ne, get_kill_ne, go_sem, f0, f1], by first | omega | (simp [go_sem]; done) | (simp [go_sem]; omega), by omega, by omega, by omega⟩ <;> simp [go_sem, f0, f1]
  clear f0 f1
  obtain ⟨b2, b3, f2, f3, hK, hN, gb2, ub2, gb3, ub3, wb2, wb3, eb2b3⟩ := hm
  refine SW.seq ?_
  refine SW.seq ?_
  -- region 1
  obtain ⟨q, hq, h⟩ := obind h
  obtain ⟨c, hc, h⟩ := obind h
  refine SW.regX (fun f_ t_ => τ = t_ ∧ f_ 2 = AV.ptr b2 0 ∧ f_ 3 = AV.ptr b3 0 ∧ f_ 32 = AV.bool (c)) (fun M hM => ?_) (fun fr2 τz hm => ?_)
  · rcases Bool.eq_false_or_eq_true ((!q)) with y0 | y0
    · have y0' := y0
      try simp at y0'
      have ky0 := condT hc y0
      have ec := Option.some.inj ky0
      simp [go_sem, f2, f3, gb2, gb3, y0, y0']
      refine EWcall_pure (w_law17_awake _ hq) ?_
      simp [go_sem, f2, f3, gb2, gb3, y0, y0']
      refine (hM _ _).2 ⟨rfl, ?_, ?_, ?_⟩ <;> simp [go_sem, f2, f3, gb2, gb3, y0, y0', ← ec]
    · have y0' := y0
      try simp at y0'
      have ky0 := condF hc y0
      obtain ⟨q1, hq1, ky0⟩ := obind ky0
      rcases Bool.eq_false_or_eq_true ((!q1)) with y2 | y2
      · have y2' := y2
        try simp [y0'] at y2'
        have ky2 := condT ky0 y2
        have ec := Option.some.inj ky2
        simp [go_sem, f2, f3, gb2, gb3, y0, y0', y2, y2']
        refine EWcall_pure (w_law17_awake _ hq) ?_
        simp [go_sem, f2, f3, gb2, gb3, y0, y0', y2, y2']
        refine EWcall_pure (w_ref17_Light F t.t t.p t.g _ hq1) ?_
        simp [go_sem, f2, f3, gb2, gb3, y0, y0', y2, y2']
        refine (hM _ _).2 ⟨rfl, ?_, ?_, ?_⟩ <;> simp [go_sem, f2, f3, gb2, gb3, y0, y0', y2, y2', ← ec]
      · have y2' := y2
        try simp [y0'] at y2'
        have ky2 := condF ky0 y2
        rcases Bool.eq_false_or_eq_true ((decide (100 < ((o.nodes.length : Nat) : Int)))) with y4 | y4
        · have y4' := y4
          try simp [y0', y2'] at y4'
          have ky4 := condT ky2 y4
          have ec := Option.some.inj ky4
          simp [go_sem, f2, f3, gb2, gb3, y0, y0', y2, y2', y4, y4']
          refine EWcall_pure (w_law17_awake _ hq) ?_
          simp [go_sem, f2, f3, gb2, gb3, y0, y0', y2, y2', y4, y4']
          refine EWcall_pure (w_ref17_Light F t.t t.p t.g _ hq1) ?_
          simp [go_sem, f2, f3, gb2, gb3, y0, y0', y2, y2', y4, y4']
          refine (hM _ _).2 ⟨rfl, ?_, ?_, ?_⟩ <;> simp [go_sem, f2, f3, gb2, gb3, y0, y0', y2, y2', y4, y4', ← ec]
        · have y4' := y4
          try simp [y0', y2'] at y4'
          have ky4 := condF ky2 y4
          have ec := Option.some.inj ky4
          simp [go_sem, f2, f3, gb2, gb3, y0, y0', y2, y2', y4, y4']
          refine EWcall_pure (w_law17_awake _ hq) ?_
          simp [go_sem, f2, f3, gb2, gb3, y0, y0', y2, y2', y4, y4']
          refine EWcall_pure (w_ref17_Light F t.t t.p t.g _ hq1) ?_
          simp [go_sem, f2, f3, gb2, gb3, y0, y0', y2, y2', y4, y4']
          refine (hM _ _).2 ⟨rfl, ?_, ?_, ?_⟩ <;> simp [go_sem, f2, f3, gb2, gb3, y0, y0', y2, y2', y4, y4', ← ec]
  clear f2 f3
  obtain ⟨rfl, f2, f3, f32⟩ := hm
  refine SW.cond _ f32 (fun hx => ?_) (fun hx => ?_)
  · have h := condT h hx
    refine SW.seq ?_
    -- region 2
    obtain ⟨q2, hq2, h⟩ := obind h
    refine SW.regX (fun f_ t_ => τ = t_ ∧ f_ 4 = AV.bool (q2)) (fun M hM => ?_) (fun fr3 τz1 hm => ?_)
    · simp [go_sem, f2, f3, f32, gb2, gb3]
      refine EWcall_pure (w_law17_awake _ hq2) ?_
      simp [go_sem, f2, f3, f32, gb2, gb3]
      refine (hM _ _).2 ⟨rfl, ?_⟩ <;> simp [go_sem, f2, f3, f32, gb2, gb3]
    clear f2 f3 f32
    obtain ⟨rfl, f4⟩ := hm
    obtain rfl := Option.some.inj h
    exact SW.ret ⟨AV.bool (q2), by simp [go_sem, f4], .lit _, hK.keeps⟩
  have h := condF h hx
  refine SW.skip ?_
  refine SW.seq ?_
  -- region 3
  obtain ⟨rx, hrx, h⟩ := obind h
  refine SW.regX (fun f_ t_ => ∃ b5 : Nat, f_ 2 = AV.ptr b2 0 ∧ f_ 3 = AV.ptr b3 0 ∧ f_ 5 = AV.ptr b5 0 ∧ f_ 6 = AV.int (rx.2) ∧ Kept σ0 t_ ∧ σ0.next ≤ t_.next ∧ t_.get b2 = some [nodesA (t.t.nodes), edgesA (t.t.edges), intsA (t.p.nodes), e3sA (t.p.edges), intsA (t.g.nodes), e3sA (t.g.edges)] ∧ b2 < t_.next ∧ t_.get b3 = some [intsA (o.nodes), intsA (o.edges)] ∧ b3 < t_.next ∧ t_.get b5 = some [intsA (rx.1.nodes), e3sA (rx.1.edges)] ∧ b5 < t_.next ∧ σ0.next ≤ b5 ∧ ¬ b2 = b5 ∧ ¬ b3 = b5) (fun M hM => ?_) (fun fr4 τ1 hm => ?_)
  · have nb2_0 : ¬ b2 = τ.next := by omega
    have nb3_0 : ¬ b3 = τ.next := by omega
    simp [go_sem, f2, f3, f32, gb2, gb3, nb2_0, nb3_0]
    refine EWcall_pure (w_search_Instance t.t t.p t.g o _ hrx) ?_
    simp [go_sem, f2, f3, f32, gb2, gb3, nb2_0, nb3_0]
    refine (hM _ _).2 ⟨τ.next, ?_, ?_, ?_, ?_, by intro j hj; have hj_ := hK j hj; simp [go_sem, hj_.1, hj_.2, show ¬ j = τ.next by omega], by first | omega | (simp [go_sem]; done) | (simp [go_sem]; omega), by simp (disch := omega) [get_alloc_ne, get_set_ne, get_kill_ne, go_sem, f2, f3, f32, gb2, gb3, nb2_0, nb3_0], by first | omega | (simp [go_sem]; done) | (simp [go_sem]; omega), by simp (disch := omega) [get_alloc_ne, get_set_ne, get_kill_ne, go_sem, f2, f3, f32, gb2, gb3, nb2_0, nb3_0], by first | omega | (simp [go_sem]; done) | (simp [go_sem]; omega), by simp (disch := omega) [get_alloc_ne, get_set_ne, get_kill_ne, go_sem, f2, f3, f32, gb2, gb3, nb2_0, nb3_0], by first | omega | (simp [go_sem]; done) | (simp [go_sem]; omega), by omega, by omega, by omega⟩ <;> simp [go_sem, f2, f3, f32, gb2, gb3, nb2_0, nb3_0]
  clear f2 f3 f32 hK hN gb2 ub2 gb3 ub3
  obtain ⟨b5, f2, f3, f5, f6, hK, hN, gb2, ub2, gb3, ub3, gb5, ub5, wb5, eb2b5, eb3b5⟩ := hm
  refine SW.seq ?_
  -- region 4
  obtain ⟨rx1, hrx1, h⟩ := obind h
  refine SW.regX (fun f_ t_ => ∃ b7 : Nat, f_ 2 = AV.ptr b2 0 ∧ f_ 3 = AV.ptr b3 0 ∧ f_ 5 = AV.ptr b5 0 ∧ f_ 6 = AV.int (rx.2) ∧ f_ 7 = AV.ptr b7 0 ∧ f_ 8 = AV.int (rx1.2) ∧ Kept σ0 t_ ∧ σ0.next ≤ t_.next ∧ t_.get b2 = some [nodesA (t.t.nodes), edgesA (t.t.edges), intsA (t.p.nodes), e3sA (t.p.edges), intsA (t.g.nodes), e3sA (t.g.edges)] ∧ b2 < t_.next ∧ t_.get b3 = some [intsA (o.nodes), intsA (o.edges)] ∧ b3 < t_.next ∧ t_.get b5 = some [intsA (rx.1.nodes), e3sA (rx.1.edges)] ∧ b5 < t_.next ∧ t_.get b7 = some [intsA (rx1.1.nodes), e3sA (rx1.1.edges)] ∧ b7 < t_.next ∧ σ0.next ≤ b7 ∧ ¬ b2 = b7 ∧ ¬ b3 = b7 ∧ ¬ b5 = b7) (fun M hM => ?_) (fun fr5 τ2 hm => ?_)
  · have nb2_0 : ¬ b2 = τ1.next := by omega
    have nb3_0 : ¬ b3 = τ1.next := by omega
    have nb5_0 : ¬ b5 = τ1.next := by omega
    simp [go_sem, f2, f3, f5, f6, gb2, gb3, gb5, nb2_0, nb3_0, nb5_0]
    refine EWcall_pure (w_ref17_Instance F t.t t.p t.g o _ hrx1) ?_
    simp [go_sem, f2, f3, f5, f6, gb2, gb3, gb5, nb2_0, nb3_0, nb5_0]
    refine (hM _ _).2 ⟨τ1.next, ?_, ?_, ?_, ?_, ?_, ?_, by intro j hj; have hj_ := hK j hj; simp [go_sem, hj_.1, hj_.2, show ¬ j = τ1.next by omega], by first | omega | (simp [go_sem]; done) | (simp [go_sem]; omega), by simp (disch := omega) [get_alloc_ne, get_set_ne, get_kill_ne, go_sem, f2, f3, f5, f6, gb2, gb3, gb5, nb2_0, nb3_0, nb5_0], by first | omega | (simp [go_sem]; done) | (simp [go_sem]; omega), by simp (disch := omega) [get_alloc_ne, get_set_ne, get_kill_ne, go_sem, f2, f3, f5, f6, gb2, gb3, gb5, nb2_0, nb3_0, nb5_0], by first | omega | (simp [go_sem]; done) | (simp [go_sem]; omega), by simp (disch := omega) [get_alloc_ne, get_set_ne, get_kill_ne, go_sem, f2, f3, f5, f6, gb2, gb3, gb5, nb2_0, nb3_0, nb5_0], by first | omega | (simp [go_sem]; done) | (simp [go_sem]; omega), by simp (disch := omega) [get_alloc_ne, get_set_ne, get_kill_ne, go_sem, f2, f3, f5, f6, gb2, gb3, gb5, nb2_0, nb3_0, nb5_0], by first | omega | (simp [go_sem]; done) | (simp [go_sem]; omega), by omega, by omega, by omega, by omega⟩ <;> simp [go_sem, f2, f3, f5, f6, gb2, gb3, gb5, nb2_0, nb3_0, nb5_0]
  clear f2 f3 f5 f6 hK hN gb2 ub2 gb3 ub3 gb5 ub5
  obtain ⟨b7, f2, f3, f5, f6, f7, f8, hK, hN, gb2, ub2, gb3, ub3, gb5, ub5, gb7, ub7, wb7, eb2b7, eb3b7, eb5b7⟩ := hm
  refine SW.seq ?_
  -- region 5
  obtain ⟨c1, hc1, h⟩ := obind h
  refine SW.regX (fun f_ t_ => τ2 = t_ ∧ f_ 4 = AV.bool (c1)) (fun M hM => ?_) (fun fr6 τz2 hm => ?_)
  · rcases Bool.eq_false_or_eq_true ((decide (rx.2 = rx1.2))) with y0 | y0
    · have y0' := y0
      try simp at y0'
      have ky0 := condT hc1 y0
      obtain ⟨q3, hq3, ky0⟩ := obind ky0
      rcases Bool.eq_false_or_eq_true q3 with y2 | y2
      · have y2' := y2
        try simp [y0'] at y2'
        have ky2 := condT ky0 y2
        rcases Bool.eq_false_or_eq_true ((!decide (rx.2 = 0))) with y4 | y4
        · have y4' := y4
          try simp [y0', y2'] at y4'
          have ky4 := condT ky2 y4
          have ec1 := Option.some.inj ky4
          simp [go_sem, f2, f3, f5, f6, f7, f8, gb2, gb3, gb5, gb7, y0, y0', y2, y2', y4, y4']
          refine EWcall_pure (w_ref05_Same rx.1 rx1.1 _ hq3) ?_
          simp [go_sem, f2, f3, f5, f6, f7, f8, gb2, gb3, gb5, gb7, y0, y0', y2, y2', y4, y4']
          refine (hM _ _).2 ⟨rfl, ?_⟩ <;> simp [go_sem, f2, f3, f5, f6, f7, f8, gb2, gb3, gb5, gb7, y0, y0', y2, y2', y4, y4', ← ec1]
        · have y4' := y4
          try simp [y0', y2'] at y4'
          have ky4 := condF ky2 y4
          obtain ⟨n, hn, ky4⟩ := obind ky4
          have ec1 := Option.some.inj ky4
          simp [go_sem, f2, f3, f5, f6, f7, f8, gb2, gb3, gb5, gb7, y0, y0', y2, y2', y4, y4']
          refine EWcall_pure (w_ref05_Same rx.1 rx1.1 _ hq3) ?_
          simp [go_sem, f2, f3, f5, f6, f7, f8, gb2, gb3, gb5, gb7, y0, y0', y2, y2', y4, y4']
          refine EWcall_pure (w_ref06_Valid rx.1 t.g o _ hn) ?_
          simp [go_sem, f2, f3, f5, f6, f7, f8, gb2, gb3, gb5, gb7, y0, y0', y2, y2', y4, y4']
          refine (hM _ _).2 ⟨rfl, ?_⟩ <;> simp [go_sem, f2, f3, f5, f6, f7, f8, gb2, gb3, gb5, gb7, y0, y0', y2, y2', y4, y4', ← ec1]
      · have y2' := y2
        try simp [y0'] at y2'
        have ky2 := condF ky0 y2
        have ec1 := Option.some.inj ky2
        simp [go_sem, f2, f3, f5, f6, f7, f8, gb2, gb3, gb5, gb7, y0, y0', y2, y2']
        refine EWcall_pure (w_ref05_Same rx.1 rx1.1 _ hq3) ?_
        simp [go_sem, f2, f3, f5, f6, f7, f8, gb2, gb3, gb5, gb7, y0, y0', y2, y2']
        refine (hM _ _).2 ⟨rfl, ?_⟩ <;> simp [go_sem, f2, f3, f5, f6, f7, f8, gb2, gb3, gb5, gb7, y0, y0', y2, y2', ← ec1]
    · have y0' := y0
      try simp at y0'
      have ky0 := condF hc1 y0
      have ec1 := Option.some.inj ky0
      simp [go_sem, f2, f3, f5, f6, f7, f8, gb2, gb3, gb5, gb7, y0, y0']
      refine (hM _ _).2 ⟨rfl, ?_⟩ <;> simp [go_sem, f2, f3, f5, f6, f7, f8, gb2, gb3, gb5, gb7, y0, y0', ← ec1]
  clear f2 f3 f5 f6 f7 f8
  obtain ⟨rfl, f4⟩ := hm
  obtain rfl := Option.some.inj h
  exact SW.ret ⟨AV.bool (c1), by simp [go_sem, f4], .lit _, hK.keeps⟩
end Go.Proofs.YtdacgjleiloooaaGreat
