/-
  Plain functions and the walks that lead to them, by a program of ours (gen.py): scarfjoint/scarfjointlaw17.SearchLarger.
-/
import Derived.Test.YtdacgjleiloooaaGd
import Derived.Test.YtdacgjleiloooaaGT
import Derived.Test.YtdacgjleiloooaaB3
import Derived.Test.YtdacgjleiloooaaGa4
import Derived.Test.YtdacgjleiloooaaGa8
import Derived.Test.YtdacgjleiloooaaGa3
import Derived.Test.YtdacgjleiloooaaGa9
import Derived.Test.YtdacgjleiloooaaGa5
import Derived.Test.YtdacgjleiloooaaGa10
set_option linter.unusedSimpArgs false
set_option linter.unusedVariables false
namespace Go.Proofs.Ytdacgjleiloooaa
open Go Go.Ew Go.Proofs Go.RowKit
set_option maxRecDepth 100000
set_option maxHeartbeats 4000000 in
theorem w_law17_SearchLarger (F : Nat) (t : Gscarfjointlaw17_Drafts) (o : Gscarfjointref05_Draft) (A : Bool) (r : (Bool)) (h : s_law17_SearchLarger F t o A = some r) : PureA Try.prog 3 [AV.agg [sl_Ar2_Int (t.nodes), sl_Ar2_Int (t.edges), sl_Int_u8 (t.p.nodes), sl_Ar3_Int (t.p.edges), sl_Int_u8 (t.g.nodes), sl_Ar3_Int (t.g.edges)], AV.agg [sl_Int_u8 (o.nodes), sl_Ar3_Int (o.edges)], AV.bool (A)] (AV.bool (r)) := by
  refine pureA_of_SW (N := 108) Try.func3 (by kernel_rfl) rfl (by rw [Try.ntmps3]; rfl) (fun σ0 => ?_)
  rw [Try.results3]
  obtain ⟨fr0, hfr⟩ : ∃ fr, fr = initFr [AV.agg [sl_Ar2_Int (t.nodes), sl_Ar2_Int (t.edges), sl_Int_u8 (t.p.nodes), sl_Ar3_Int (t.p.edges), sl_Int_u8 (t.g.nodes), sl_Ar3_Int (t.g.edges)], AV.agg [sl_Int_u8 (o.nodes), sl_Ar3_Int (o.edges)], AV.bool (A)] := ⟨_, rfl⟩
  rw [← hfr]
  have f0 : fr0 0 = AV.agg [sl_Ar2_Int (t.nodes), sl_Ar2_Int (t.edges), sl_Int_u8 (t.p.nodes), sl_Ar3_Int (t.p.edges), sl_Int_u8 (t.g.nodes), sl_Ar3_Int (t.g.edges)] := by rw [hfr]; rfl
  have f1 : fr0 1 = AV.agg [sl_Int_u8 (o.nodes), sl_Ar3_Int (o.edges)] := by rw [hfr]; rfl
  have f2 : fr0 2 = AV.bool (A) := by rw [hfr]; rfl
  clear hfr
  simp only [s_law17_SearchLarger] at h
  refine SW.seq ?_
  -- region 0
  refine SW.regX (fun f_ t_ => ∃ b3 : Nat, ∃ b4 : Nat, f_ 2 = AV.bool (A) ∧ f_ 3 = AV.ptr b3 0 ∧ f_ 4 = AV.ptr b4 0 ∧ Kept σ0 t_ ∧ σ0.next ≤ t_.next ∧ t_.get b3 = some [sl_Ar2_Int (t.nodes), sl_Ar2_Int (t.edges), sl_Int_u8 (t.p.nodes), sl_Ar3_Int (t.p.edges), sl_Int_u8 (t.g.nodes), sl_Ar3_Int (t.g.edges)] ∧ b3 < t_.next ∧ t_.get b4 = some [sl_Int_u8 (o.nodes), sl_Ar3_Int (o.edges)] ∧ b4 < t_.next ∧ σ0.next ≤ b3 ∧ σ0.next ≤ b4 ∧ ¬ b3 = b4) (fun M hM => ?_) (fun fr1 τ hm => ?_)
  · simp [go_sem, f0, f1, f2]
    refine (hM _ _).2 ⟨σ0.next, (σ0.next + 1), ?_, ?_, ?_, by intro j hj; simp [go_sem, show ¬ j = σ0.next by omega, show ¬ j = σ0.next + 1 by omega], by first | omega | (simp [go_sem]; done) | (simp [go_sem]; omega), by simp (disch := omega) [get_alloc_ne, get_set_ne, get_kill_ne, go_sem, f0, f1, f2], by first | omega | (simp [go_sem]; done) | (simp [go_sem]; omega), by simp (disch := omega) [get_alloc_ne, get_set_ne, get_kill_ne, go_sem, f0, f1, f2], by first | omega | (simp [go_sem]; done) | (simp [go_sem]; omega), by omega, by omega, by omega⟩ <;> simp [go_sem, f0, f1, f2]
  clear f0 f1 f2
  obtain ⟨b3, b4, f2, f3, f4, hK, hN, gb3, ub3, gb4, ub4, wb3, wb4, eb3b4⟩ := hm
  refine SW.seq ?_
  -- region 1
  obtain ⟨rx, hrx, h⟩ := obind h
  refine SW.regX (fun f_ t_ => ∃ b7 : Nat, ∃ b8 : Nat, ∃ b9 : Nat, f_ 2 = AV.bool (A) ∧ f_ 4 = AV.ptr b4 0 ∧ f_ 7 = AV.ptr b7 0 ∧ f_ 8 = AV.ptr b8 0 ∧ f_ 9 = AV.ptr b9 0 ∧ f_ 10 = AV.bool (rx.2.2.2) ∧ Kept σ0 t_ ∧ σ0.next ≤ t_.next ∧ t_.get b4 = some [sl_Int_u8 (o.nodes), sl_Ar3_Int (o.edges)] ∧ b4 < t_.next ∧ t_.get b7 = some [nodesA (rx.1.nodes), edgesA (rx.1.edges)] ∧ b7 < t_.next ∧ t_.get b8 = some [intsA (rx.2.1.nodes), e3sA (rx.2.1.edges)] ∧ b8 < t_.next ∧ t_.get b9 = some [intsA (rx.2.2.1.nodes), e3sA (rx.2.2.1.edges)] ∧ b9 < t_.next ∧ σ0.next ≤ b7 ∧ ¬ b4 = b7 ∧ σ0.next ≤ b8 ∧ ¬ b4 = b8 ∧ ¬ b7 = b8 ∧ σ0.next ≤ b9 ∧ ¬ b4 = b9 ∧ ¬ b7 = b9 ∧ ¬ b8 = b9) (fun M hM => ?_) (fun fr2 τ1 hm => ?_)
  · have nb3_0 : ¬ b3 = τ.next := by omega
    have nb3_1 : ¬ b3 = τ.next + 1 := by omega
    have nb3_2 : ¬ b3 = τ.next + 2 := by omega
    have nb4_0 : ¬ b4 = τ.next := by omega
    have nb4_1 : ¬ b4 = τ.next + 1 := by omega
    have nb4_2 : ¬ b4 = τ.next + 2 := by omega
    simp [go_sem, f2, f3, f4, gb3, gb4, nb3_0, nb3_1, nb3_2, nb4_0, nb4_1, nb4_2]
    refine EWcall_pure (w_law17_Drafts_parts F t _ hrx) ?_
    simp [go_sem, f2, f3, f4, gb3, gb4, nb3_0, nb3_1, nb3_2, nb4_0, nb4_1, nb4_2]
    refine (hM _ _).2 ⟨τ.next, (τ.next + 1), (τ.next + 2), ?_, ?_, ?_, ?_, ?_, ?_, by intro j hj; have hj_ := hK j hj; simp [go_sem, hj_.1, hj_.2, show ¬ j = τ.next by omega, show ¬ j = τ.next + 1 by omega, show ¬ j = τ.next + 2 by omega], by first | omega | (simp [go_sem]; done) | (simp [go_sem]; omega), by simp (disch := omega) [get_alloc_ne, get_set_ne, get_kill_ne, go_sem, f2, f3, f4, gb3, gb4, nb3_0, nb3_1, nb3_2, nb4_0, nb4_1, nb4_2], by first | omega | (simp [go_sem]; done) | (simp [go_sem]; omega), by simp (disch := omega) [get_alloc_ne, get_set_ne, get_kill_ne, go_sem, f2, f3, f4, gb3, gb4, nb3_0, nb3_1, nb3_2, nb4_0, nb4_1, nb4_2], by first | omega | (simp [go_sem]; done) | (simp [go_sem]; omega), by simp (disch := omega) [get_alloc_ne, get_set_ne, get_kill_ne, go_sem, f2, f3, f4, gb3, gb4, nb3_0, nb3_1, nb3_2, nb4_0, nb4_1, nb4_2], by first | omega | (simp [go_sem]; done) | (simp [go_sem]; omega), by simp (disch := omega) [get_alloc_ne, get_set_ne, get_kill_ne, go_sem, f2, f3, f4, gb3, gb4, nb3_0, nb3_1, nb3_2, nb4_0, nb4_1, nb4_2], by first | omega | (simp [go_sem]; done) | (simp [go_sem]; omega), by omega, by omega, by omega, by omega, by omega, by omega, by omega, by omega, by omega⟩ <;> simp [go_sem, f2, f3, f4, gb3, gb4, nb3_0, nb3_1, nb3_2, nb4_0, nb4_1, nb4_2]
  clear f2 f3 f4 hK hN gb3 ub3 gb4 ub4
  obtain ⟨b7, b8, b9, f2, f4, f7, f8, f9, f10, hK, hN, gb4, ub4, gb7, ub7, gb8, ub8, gb9, ub9, wb7, eb4b7, wb8, eb4b8, eb7b8, wb9, eb4b9, eb7b9, eb8b9⟩ := hm
  refine SW.seq ?_
  refine SW.seq ?_
  -- region 2
  obtain ⟨q, hq, h⟩ := obind h
  refine SW.regX (fun f_ t_ => τ1 = t_ ∧ f_ 2 = AV.bool (A) ∧ f_ 4 = AV.ptr b4 0 ∧ f_ 7 = AV.ptr b7 0 ∧ f_ 8 = AV.ptr b8 0 ∧ f_ 9 = AV.ptr b9 0 ∧ f_ 45 = AV.bool ((((!q)) || ((((!rx.2.2.2)) || ((((decide (3 < ((o.nodes.length : Nat) : Int)))) || ((decide (3 < ((o.edges.length : Nat) : Int))))))))))) (fun M hM => ?_) (fun fr3 τz hm => ?_)
  · rcases Bool.eq_false_or_eq_true ((!q)) with y0 | y0
    · have y0' := y0
      try simp at y0'
      simp [go_sem, f10, f2, f4, f7, f8, f9, gb4, gb7, gb8, gb9, y0, y0']
      refine EWcall_pure (w_law17_awake _ hq) ?_
      simp [go_sem, f10, f2, f4, f7, f8, f9, gb4, gb7, gb8, gb9, y0, y0']
      refine (hM _ _).2 ⟨rfl, ?_, ?_, ?_, ?_, ?_, ?_⟩ <;> simp [go_sem, f10, f2, f4, f7, f8, f9, gb4, gb7, gb8, gb9, y0, y0']
    · have y0' := y0
      try simp at y0'
      rcases Bool.eq_false_or_eq_true ((!rx.2.2.2)) with y2 | y2
      · have y2' := y2
        try simp [y0'] at y2'
        simp [go_sem, f10, f2, f4, f7, f8, f9, gb4, gb7, gb8, gb9, y0, y0', y2, y2']
        refine EWcall_pure (w_law17_awake _ hq) ?_
        simp [go_sem, f10, f2, f4, f7, f8, f9, gb4, gb7, gb8, gb9, y0, y0', y2, y2']
        refine (hM _ _).2 ⟨rfl, ?_, ?_, ?_, ?_, ?_, ?_⟩ <;> simp [go_sem, f10, f2, f4, f7, f8, f9, gb4, gb7, gb8, gb9, y0, y0', y2, y2']
      · have y2' := y2
        try simp [y0'] at y2'
        rcases Bool.eq_false_or_eq_true ((decide (3 < ((o.nodes.length : Nat) : Int)))) with y4 | y4
        · have y4' := y4
          try simp [y0', y2'] at y4'
          simp [go_sem, f10, f2, f4, f7, f8, f9, gb4, gb7, gb8, gb9, y0, y0', y2, y2', y4, y4']
          refine EWcall_pure (w_law17_awake _ hq) ?_
          simp [go_sem, f10, f2, f4, f7, f8, f9, gb4, gb7, gb8, gb9, y0, y0', y2, y2', y4, y4']
          refine (hM _ _).2 ⟨rfl, ?_, ?_, ?_, ?_, ?_, ?_⟩ <;> simp [go_sem, f10, f2, f4, f7, f8, f9, gb4, gb7, gb8, gb9, y0, y0', y2, y2', y4, y4']
        · have y4' := y4
          try simp [y0', y2'] at y4'
          simp [go_sem, f10, f2, f4, f7, f8, f9, gb4, gb7, gb8, gb9, y0, y0', y2, y2', y4, y4']
          refine EWcall_pure (w_law17_awake _ hq) ?_
          simp [go_sem, f10, f2, f4, f7, f8, f9, gb4, gb7, gb8, gb9, y0, y0', y2, y2', y4, y4']
          refine (hM _ _).2 ⟨rfl, ?_, ?_, ?_, ?_, ?_, ?_⟩ <;> simp [go_sem, f10, f2, f4, f7, f8, f9, gb4, gb7, gb8, gb9, y0, y0', y2, y2', y4, y4']
  clear f10 f2 f4 f7 f8 f9
  obtain ⟨rfl, f2, f4, f7, f8, f9, f45⟩ := hm
  refine SW.cond _ f45 (fun hx => ?_) (fun hx => ?_)
  · have h := condT h hx
    refine SW.seq ?_
    -- region 3
    obtain ⟨q1, hq1, h⟩ := obind h
    refine SW.regX (fun f_ t_ => τ1 = t_ ∧ f_ 6 = AV.bool (q1)) (fun M hM => ?_) (fun fr4 τz1 hm => ?_)
    · simp [go_sem, f2, f4, f45, f7, f8, f9, gb4, gb7, gb8, gb9]
      refine EWcall_pure (w_law17_awake _ hq1) ?_
      simp [go_sem, f2, f4, f45, f7, f8, f9, gb4, gb7, gb8, gb9]
      refine (hM _ _).2 ⟨rfl, ?_⟩ <;> simp [go_sem, f2, f4, f45, f7, f8, f9, gb4, gb7, gb8, gb9]
    clear f2 f4 f45 f7 f8 f9
    obtain ⟨rfl, f6⟩ := hm
    obtain rfl := Option.some.inj h
    exact SW.ret ⟨AV.bool (q1), by simp [go_sem, f6], .lit _, hK.keeps⟩
  have h := condF h hx
  refine SW.skip ?_
  refine SW.seq ?_
  -- region 4
  obtain ⟨rx1, hrx1, h⟩ := obind h
  obtain ⟨rx2, hrx2, h⟩ := obind h
  refine SW.regX (fun f_ t_ => ∃ b11 : Nat, f_ 2 = AV.bool (A) ∧ f_ 7 = AV.ptr b7 0 ∧ f_ 8 = AV.ptr b8 0 ∧ f_ 9 = AV.ptr b9 0 ∧ f_ 11 = AV.ptr b11 0 ∧ f_ 14 = AV.int (rx2.2.2.2) ∧ Kept σ0 t_ ∧ σ0.next ≤ t_.next ∧ t_.get b7 = some [nodesA (rx.1.nodes), edgesA (rx.1.edges)] ∧ b7 < t_.next ∧ t_.get b8 = some [intsA (rx.2.1.nodes), e3sA (rx.2.1.edges)] ∧ b8 < t_.next ∧ t_.get b9 = some [intsA (rx.2.2.1.nodes), e3sA (rx.2.2.1.edges)] ∧ b9 < t_.next ∧ t_.get b11 = some [intsA (rx2.1.nodes), e3sA (rx2.1.edges)] ∧ b11 < t_.next ∧ σ0.next ≤ b11 ∧ ¬ b7 = b11 ∧ ¬ b8 = b11 ∧ ¬ b9 = b11) (fun M hM => ?_) (fun fr5 τ2 hm => ?_)
  · have nb4_0 : ¬ b4 = τ1.next := by omega
    have nb4_1 : ¬ b4 = τ1.next + 1 := by omega
    have nb4_2 : ¬ b4 = τ1.next + 2 := by omega
    have nb7_0 : ¬ b7 = τ1.next := by omega
    have nb7_1 : ¬ b7 = τ1.next + 1 := by omega
    have nb7_2 : ¬ b7 = τ1.next + 2 := by omega
    have nb8_0 : ¬ b8 = τ1.next := by omega
    have nb8_1 : ¬ b8 = τ1.next + 1 := by omega
    have nb8_2 : ¬ b8 = τ1.next + 2 := by omega
    have nb9_0 : ¬ b9 = τ1.next := by omega
    have nb9_1 : ¬ b9 = τ1.next + 1 := by omega
    have nb9_2 : ¬ b9 = τ1.next + 2 := by omega
    have nb4_b7 : ¬ b4 = b7 := by omega
    have nb4_b8 : ¬ b4 = b8 := by omega
    have nb4_b9 : ¬ b4 = b9 := by omega
    have nb7_b4 : ¬ b7 = b4 := by omega
    have nb7_b8 : ¬ b7 = b8 := by omega
    have nb7_b9 : ¬ b7 = b9 := by omega
    have nb8_b4 : ¬ b8 = b4 := by omega
    have nb8_b7 : ¬ b8 = b7 := by omega
    have nb8_b9 : ¬ b8 = b9 := by omega
    have nb9_b4 : ¬ b9 = b4 := by omega
    have nb9_b7 : ¬ b9 = b7 := by omega
    have nb9_b8 : ¬ b9 = b8 := by omega
    refine EW_regionY τ1 17 (.q false 0 (.q false 1 (.q false 2 (.q true 3 (.q true 4 (.q false 5 (.q false 6 (.q false 7 (.q false 8 (.q false 9 (.both (.s 10 (.both (.s 11 (.s 12 (.s 13 (.s 14 (.s 15 (.q false 16 .done)))))) (.s 12 (.s 11 (.s 13 (.s 14 (.s 15 (.q false 16 .done)))))))) (.both (.s 11 (.both (.s 10 (.s 12 (.s 13 (.s 14 (.s 15 (.q false 16 .done)))))) (.s 12 (.s 10 (.s 13 (.s 14 (.s 15 (.q false 16 .done)))))))) (.s 12 (.both (.s 10 (.s 11 (.s 13 (.s 14 (.s 15 (.q false 16 .done)))))) (.s 11 (.s 10 (.s 13 (.s 14 (.s 15 (.q false 16 .done)))))))))))))))))))) (by kernel_rfl) (by kernel_rfl) (fun _ _ h => h) (fun hfin => ?_)
    have m0_ : τ1.get (τ1.next) = none := hfin _ (by omega)
    have m1_ : τ1.get (τ1.next + 1) = none := hfin _ (by omega)
    have m2_ : τ1.get (τ1.next + 2) = none := hfin _ (by omega)
    have hsub : Sub τ1 τ1 := (fun _ _ h => h)
    simp (maxDischargeDepth := 12) [go_sem, f2, f4, f45, f7, f8, f9, gb4, gb7, gb8, gb9, nb4_0, nb4_1, nb4_2, nb7_0, nb7_1, nb7_2, nb8_0, nb8_1, nb8_2, nb9_0, nb9_1, nb9_2, nb4_b7, nb4_b8, nb4_b9, nb7_b4, nb7_b8, nb7_b9, nb8_b4, nb8_b7, nb8_b9, nb9_b4, nb9_b7, nb9_b8, m0_, m1_, m2_, sub_set, sub_killAll, hsub]
    refine EWzp_pure (w_ref17_Made F rx.1 o false _ hrx1) ?_
    simp (maxDischargeDepth := 12) [go_sem, f2, f4, f45, f7, f8, f9, gb4, gb7, gb8, gb9, nb4_0, nb4_1, nb4_2, nb7_0, nb7_1, nb7_2, nb8_0, nb8_1, nb8_2, nb9_0, nb9_1, nb9_2, nb4_b7, nb4_b8, nb4_b9, nb7_b4, nb7_b8, nb7_b9, nb8_b4, nb8_b7, nb8_b9, nb9_b4, nb9_b7, nb9_b8, m0_, m1_, m2_, sub_set, sub_killAll, hsub]
    refine EWzp_pure (w_ref05_Union rx.2.2.1 rx1 _ hrx2) ?_
    simp (maxDischargeDepth := 12) [go_sem, f2, f4, f45, f7, f8, f9, gb4, gb7, gb8, gb9, nb4_0, nb4_1, nb4_2, nb7_0, nb7_1, nb7_2, nb8_0, nb8_1, nb8_2, nb9_0, nb9_1, nb9_2, nb4_b7, nb4_b8, nb4_b9, nb7_b4, nb7_b8, nb7_b9, nb8_b4, nb8_b7, nb8_b9, nb9_b4, nb9_b7, nb9_b8, m0_, m1_, m2_, sub_set, sub_killAll, hsub]
    refine ⟨?_, ?_⟩
    · refine ⟨?_, ?_⟩
      · refine (hM _ _).2 ⟨τ1.next, ?_, ?_, ?_, ?_, ?_, ?_, by intro j hj; have hj_ := hK j hj; simp [go_sem, hj_.1, hj_.2, show ¬ j = τ1.next by omega, show ¬ j = τ1.next + 1 by omega, show ¬ j = τ1.next + 2 by omega], by first | omega | (simp [go_sem]; done) | (simp [go_sem]; omega), by simp (disch := omega) [get_alloc_ne, get_set_ne, get_kill_ne, go_sem, f2, f4, f45, f7, f8, f9, gb4, gb7, gb8, gb9, nb4_0, nb4_1, nb4_2, nb7_0, nb7_1, nb7_2, nb8_0, nb8_1, nb8_2, nb9_0, nb9_1, nb9_2, nb4_b7, nb4_b8, nb4_b9, nb7_b4, nb7_b8, nb7_b9, nb8_b4, nb8_b7, nb8_b9, nb9_b4, nb9_b7, nb9_b8, m0_, m1_, m2_, sub_set, sub_killAll, hsub], by first | omega | (simp [go_sem]; done) | (simp [go_sem]; omega), by simp (disch := omega) [get_alloc_ne, get_set_ne, get_kill_ne, go_sem, f2, f4, f45, f7, f8, f9, gb4, gb7, gb8, gb9, nb4_0, nb4_1, nb4_2, nb7_0, nb7_1, nb7_2, nb8_0, nb8_1, nb8_2, nb9_0, nb9_1, nb9_2, nb4_b7, nb4_b8, nb4_b9, nb7_b4, nb7_b8, nb7_b9, nb8_b4, nb8_b7, nb8_b9, nb9_b4, nb9_b7, nb9_b8, m0_, m1_, m2_, sub_set, sub_killAll, hsub], by first | omega | (simp [go_sem]; done) | (simp [go_sem]; omega), by simp (disch := omega) [get_alloc_ne, get_set_ne, get_kill_ne, go_sem, f2, f4, f45, f7, f8, f9, gb4, gb7, gb8, gb9, nb4_0, nb4_1, nb4_2, nb7_0, nb7_1, nb7_2, nb8_0, nb8_1, nb8_2, nb9_0, nb9_1, nb9_2, nb4_b7, nb4_b8, nb4_b9, nb7_b4, nb7_b8, nb7_b9, nb8_b4, nb8_b7, nb8_b9, nb9_b4, nb9_b7, nb9_b8, m0_, m1_, m2_, sub_set, sub_killAll, hsub], by first | omega | (simp [go_sem]; done) | (simp [go_sem]; omega), by simp (disch := omega) [get_alloc_ne, get_set_ne, get_kill_ne, go_sem, f2, f4, f45, f7, f8, f9, gb4, gb7, gb8, gb9, nb4_0, nb4_1, nb4_2, nb7_0, nb7_1, nb7_2, nb8_0, nb8_1, nb8_2, nb9_0, nb9_1, nb9_2, nb4_b7, nb4_b8, nb4_b9, nb7_b4, nb7_b8, nb7_b9, nb8_b4, nb8_b7, nb8_b9, nb9_b4, nb9_b7, nb9_b8, m0_, m1_, m2_, sub_set, sub_killAll, hsub], by first | omega | (simp [go_sem]; done) | (simp [go_sem]; omega), by omega, by omega, by omega, by omega⟩ <;> simp [go_sem, f2, f4, f45, f7, f8, f9, gb4, gb7, gb8, gb9, nb4_0, nb4_1, nb4_2, nb7_0, nb7_1, nb7_2, nb8_0, nb8_1, nb8_2, nb9_0, nb9_1, nb9_2, nb4_b7, nb4_b8, nb4_b9, nb7_b4, nb7_b8, nb7_b9, nb8_b4, nb8_b7, nb8_b9, nb9_b4, nb9_b7, nb9_b8, m0_, m1_, m2_, sub_set, sub_killAll, hsub]
      · refine (hM _ _).2 ⟨τ1.next, ?_, ?_, ?_, ?_, ?_, ?_, by intro j hj; have hj_ := hK j hj; simp [go_sem, hj_.1, hj_.2, show ¬ j = τ1.next by omega, show ¬ j = τ1.next + 1 by omega, show ¬ j = τ1.next + 2 by omega], by first | omega | (simp [go_sem]; done) | (simp [go_sem]; omega), by simp (disch := omega) [get_alloc_ne, get_set_ne, get_kill_ne, go_sem, f2, f4, f45, f7, f8, f9, gb4, gb7, gb8, gb9, nb4_0, nb4_1, nb4_2, nb7_0, nb7_1, nb7_2, nb8_0, nb8_1, nb8_2, nb9_0, nb9_1, nb9_2, nb4_b7, nb4_b8, nb4_b9, nb7_b4, nb7_b8, nb7_b9, nb8_b4, nb8_b7, nb8_b9, nb9_b4, nb9_b7, nb9_b8, m0_, m1_, m2_, sub_set, sub_killAll, hsub], by first | omega | (simp [go_sem]; done) | (simp [go_sem]; omega), by simp (disch := omega) [get_alloc_ne, get_set_ne, get_kill_ne, go_sem, f2, f4, f45, f7, f8, f9, gb4, gb7, gb8, gb9, nb4_0, nb4_1, nb4_2, nb7_0, nb7_1, nb7_2, nb8_0, nb8_1, nb8_2, nb9_0, nb9_1, nb9_2, nb4_b7, nb4_b8, nb4_b9, nb7_b4, nb7_b8, nb7_b9, nb8_b4, nb8_b7, nb8_b9, nb9_b4, nb9_b7, nb9_b8, m0_, m1_, m2_, sub_set, sub_killAll, hsub], by first | omega | (simp [go_sem]; done) | (simp [go_sem]; omega), by simp (disch := omega) [get_alloc_ne, get_set_ne, get_kill_ne, go_sem, f2, f4, f45, f7, f8, f9, gb4, gb7, gb8, gb9, nb4_0, nb4_1, nb4_2, nb7_0, nb7_1, nb7_2, nb8_0, nb8_1, nb8_2, nb9_0, nb9_1, nb9_2, nb4_b7, nb4_b8, nb4_b9, nb7_b4, nb7_b8, nb7_b9, nb8_b4, nb8_b7, nb8_b9, nb9_b4, nb9_b7, nb9_b8, m0_, m1_, m2_, sub_set, sub_killAll, hsub], by first | omega | (simp [go_sem]; done) | (simp [go_sem]; omega), by simp (disch := omega) [get_alloc_ne, get_set_ne, get_kill_ne, go_sem, f2, f4, f45, f7, f8, f9, gb4, gb7, gb8, gb9, nb4_0, nb4_1, nb4_2, nb7_0, nb7_1, nb7_2, nb8_0, nb8_1, nb8_2, nb9_0, nb9_1, nb9_2, nb4_b7, nb4_b8, nb4_b9, nb7_b4, nb7_b8, nb7_b9, nb8_b4, nb8_b7, nb8_b9, nb9_b4, nb9_b7, nb9_b8, m0_, m1_, m2_, sub_set, sub_killAll, hsub], by first | omega | (simp [go_sem]; done) | (simp [go_sem]; omega), by omega, by omega, by omega, by omega⟩ <;> simp [go_sem, f2, f4, f45, f7, f8, f9, gb4, gb7, gb8, gb9, nb4_0, nb4_1, nb4_2, nb7_0, nb7_1, nb7_2, nb8_0, nb8_1, nb8_2, nb9_0, nb9_1, nb9_2, nb4_b7, nb4_b8, nb4_b9, nb7_b4, nb7_b8, nb7_b9, nb8_b4, nb8_b7, nb8_b9, nb9_b4, nb9_b7, nb9_b8, m0_, m1_, m2_, sub_set, sub_killAll, hsub]
    · refine ⟨?_, ?_⟩
      · refine ⟨?_, ?_⟩
        · refine (hM _ _).2 ⟨(τ1.next + 1), ?_, ?_, ?_, ?_, ?_, ?_, by intro j hj; have hj_ := hK j hj; simp [go_sem, hj_.1, hj_.2, show ¬ j = τ1.next by omega, show ¬ j = τ1.next + 1 by omega, show ¬ j = τ1.next + 2 by omega], by first | omega | (simp [go_sem]; done) | (simp [go_sem]; omega), by simp (disch := omega) [get_alloc_ne, get_set_ne, get_kill_ne, go_sem, f2, f4, f45, f7, f8, f9, gb4, gb7, gb8, gb9, nb4_0, nb4_1, nb4_2, nb7_0, nb7_1, nb7_2, nb8_0, nb8_1, nb8_2, nb9_0, nb9_1, nb9_2, nb4_b7, nb4_b8, nb4_b9, nb7_b4, nb7_b8, nb7_b9, nb8_b4, nb8_b7, nb8_b9, nb9_b4, nb9_b7, nb9_b8, m0_, m1_, m2_, sub_set, sub_killAll, hsub], by first | omega | (simp [go_sem]; done) | (simp [go_sem]; omega), by simp (disch := omega) [get_alloc_ne, get_set_ne, get_kill_ne, go_sem, f2, f4, f45, f7, f8, f9, gb4, gb7, gb8, gb9, nb4_0, nb4_1, nb4_2, nb7_0, nb7_1, nb7_2, nb8_0, nb8_1, nb8_2, nb9_0, nb9_1, nb9_2, nb4_b7, nb4_b8, nb4_b9, nb7_b4, nb7_b8, nb7_b9, nb8_b4, nb8_b7, nb8_b9, nb9_b4, nb9_b7, nb9_b8, m0_, m1_, m2_, sub_set, sub_killAll, hsub], by first | omega | (simp [go_sem]; done) | (simp [go_sem]; omega), by simp (disch := omega) [get_alloc_ne, get_set_ne, get_kill_ne, go_sem, f2, f4, f45, f7, f8, f9, gb4, gb7, gb8, gb9, nb4_0, nb4_1, nb4_2, nb7_0, nb7_1, nb7_2, nb8_0, nb8_1, nb8_2, nb9_0, nb9_1, nb9_2, nb4_b7, nb4_b8, nb4_b9, nb7_b4, nb7_b8, nb7_b9, nb8_b4, nb8_b7, nb8_b9, nb9_b4, nb9_b7, nb9_b8, m0_, m1_, m2_, sub_set, sub_killAll, hsub], by first | omega | (simp [go_sem]; done) | (simp [go_sem]; omega), by simp (disch := omega) [get_alloc_ne, get_set_ne, get_kill_ne, go_sem, f2, f4, f45, f7, f8, f9, gb4, gb7, gb8, gb9, nb4_0, nb4_1, nb4_2, nb7_0, nb7_1, nb7_2, nb8_0, nb8_1, nb8_2, nb9_0, nb9_1, nb9_2, nb4_b7, nb4_b8, nb4_b9, nb7_b4, nb7_b8, nb7_b9, nb8_b4, nb8_b7, nb8_b9, nb9_b4, nb9_b7, nb9_b8, m0_, m1_, m2_, sub_set, sub_killAll, hsub], by first | omega | (simp [go_sem]; done) | (simp [go_sem]; omega), by omega, by omega, by omega, by omega⟩ <;> simp [go_sem, f2, f4, f45, f7, f8, f9, gb4, gb7, gb8, gb9, nb4_0, nb4_1, nb4_2, nb7_0, nb7_1, nb7_2, nb8_0, nb8_1, nb8_2, nb9_0, nb9_1, nb9_2, nb4_b7, nb4_b8, nb4_b9, nb7_b4, nb7_b8, nb7_b9, nb8_b4, nb8_b7, nb8_b9, nb9_b4, nb9_b7, nb9_b8, m0_, m1_, m2_, sub_set, sub_killAll, hsub]
        · refine (hM _ _).2 ⟨(τ1.next + 2), ?_, ?_, ?_, ?_, ?_, ?_, by intro j hj; have hj_ := hK j hj; simp [go_sem, hj_.1, hj_.2, show ¬ j = τ1.next by omega, show ¬ j = τ1.next + 1 by omega, show ¬ j = τ1.next + 2 by omega], by first | omega | (simp [go_sem]; done) | (simp [go_sem]; omega), by simp (disch := omega) [get_alloc_ne, get_set_ne, get_kill_ne, go_sem, f2, f4, f45, f7, f8, f9, gb4, gb7, gb8, gb9, nb4_0, nb4_1, nb4_2, nb7_0, nb7_1, nb7_2, nb8_0, nb8_1, nb8_2, nb9_0, nb9_1, nb9_2, nb4_b7, nb4_b8, nb4_b9, nb7_b4, nb7_b8, nb7_b9, nb8_b4, nb8_b7, nb8_b9, nb9_b4, nb9_b7, nb9_b8, m0_, m1_, m2_, sub_set, sub_killAll, hsub], by first | omega | (simp [go_sem]; done) | (simp [go_sem]; omega), by simp (disch := omega) [get_alloc_ne, get_set_ne, get_kill_ne, go_sem, f2, f4, f45, f7, f8, f9, gb4, gb7, gb8, gb9, nb4_0, nb4_1, nb4_2, nb7_0, nb7_1, nb7_2, nb8_0, nb8_1, nb8_2, nb9_0, nb9_1, nb9_2, nb4_b7, nb4_b8, nb4_b9, nb7_b4, nb7_b8, nb7_b9, nb8_b4, nb8_b7, nb8_b9, nb9_b4, nb9_b7, nb9_b8, m0_, m1_, m2_, sub_set, sub_killAll, hsub], by first | omega | (simp [go_sem]; done) | (simp [go_sem]; omega), by simp (disch := omega) [get_alloc_ne, get_set_ne, get_kill_ne, go_sem, f2, f4, f45, f7, f8, f9, gb4, gb7, gb8, gb9, nb4_0, nb4_1, nb4_2, nb7_0, nb7_1, nb7_2, nb8_0, nb8_1, nb8_2, nb9_0, nb9_1, nb9_2, nb4_b7, nb4_b8, nb4_b9, nb7_b4, nb7_b8, nb7_b9, nb8_b4, nb8_b7, nb8_b9, nb9_b4, nb9_b7, nb9_b8, m0_, m1_, m2_, sub_set, sub_killAll, hsub], by first | omega | (simp [go_sem]; done) | (simp [go_sem]; omega), by simp (disch := omega) [get_alloc_ne, get_set_ne, get_kill_ne, go_sem, f2, f4, f45, f7, f8, f9, gb4, gb7, gb8, gb9, nb4_0, nb4_1, nb4_2, nb7_0, nb7_1, nb7_2, nb8_0, nb8_1, nb8_2, nb9_0, nb9_1, nb9_2, nb4_b7, nb4_b8, nb4_b9, nb7_b4, nb7_b8, nb7_b9, nb8_b4, nb8_b7, nb8_b9, nb9_b4, nb9_b7, nb9_b8, m0_, m1_, m2_, sub_set, sub_killAll, hsub], by first | omega | (simp [go_sem]; done) | (simp [go_sem]; omega), by omega, by omega, by omega, by omega⟩ <;> simp [go_sem, f2, f4, f45, f7, f8, f9, gb4, gb7, gb8, gb9, nb4_0, nb4_1, nb4_2, nb7_0, nb7_1, nb7_2, nb8_0, nb8_1, nb8_2, nb9_0, nb9_1, nb9_2, nb4_b7, nb4_b8, nb4_b9, nb7_b4, nb7_b8, nb7_b9, nb8_b4, nb8_b7, nb8_b9, nb9_b4, nb9_b7, nb9_b8, m0_, m1_, m2_, sub_set, sub_killAll, hsub]
      · refine ⟨?_, ?_⟩
        · refine (hM _ _).2 ⟨(τ1.next + 1), ?_, ?_, ?_, ?_, ?_, ?_, by intro j hj; have hj_ := hK j hj; simp [go_sem, hj_.1, hj_.2, show ¬ j = τ1.next by omega, show ¬ j = τ1.next + 1 by omega, show ¬ j = τ1.next + 2 by omega], by first | omega | (simp [go_sem]; done) | (simp [go_sem]; omega), by simp (disch := omega) [get_alloc_ne, get_set_ne, get_kill_ne, go_sem, f2, f4, f45, f7, f8, f9, gb4, gb7, gb8, gb9, nb4_0, nb4_1, nb4_2, nb7_0, nb7_1, nb7_2, nb8_0, nb8_1, nb8_2, nb9_0, nb9_1, nb9_2, nb4_b7, nb4_b8, nb4_b9, nb7_b4, nb7_b8, nb7_b9, nb8_b4, nb8_b7, nb8_b9, nb9_b4, nb9_b7, nb9_b8, m0_, m1_, m2_, sub_set, sub_killAll, hsub], by first | omega | (simp [go_sem]; done) | (simp [go_sem]; omega), by simp (disch := omega) [get_alloc_ne, get_set_ne, get_kill_ne, go_sem, f2, f4, f45, f7, f8, f9, gb4, gb7, gb8, gb9, nb4_0, nb4_1, nb4_2, nb7_0, nb7_1, nb7_2, nb8_0, nb8_1, nb8_2, nb9_0, nb9_1, nb9_2, nb4_b7, nb4_b8, nb4_b9, nb7_b4, nb7_b8, nb7_b9, nb8_b4, nb8_b7, nb8_b9, nb9_b4, nb9_b7, nb9_b8, m0_, m1_, m2_, sub_set, sub_killAll, hsub], by first | omega | (simp [go_sem]; done) | (simp [go_sem]; omega), by simp (disch := omega) [get_alloc_ne, get_set_ne, get_kill_ne, go_sem, f2, f4, f45, f7, f8, f9, gb4, gb7, gb8, gb9, nb4_0, nb4_1, nb4_2, nb7_0, nb7_1, nb7_2, nb8_0, nb8_1, nb8_2, nb9_0, nb9_1, nb9_2, nb4_b7, nb4_b8, nb4_b9, nb7_b4, nb7_b8, nb7_b9, nb8_b4, nb8_b7, nb8_b9, nb9_b4, nb9_b7, nb9_b8, m0_, m1_, m2_, sub_set, sub_killAll, hsub], by first | omega | (simp [go_sem]; done) | (simp [go_sem]; omega), by simp (disch := omega) [get_alloc_ne, get_set_ne, get_kill_ne, go_sem, f2, f4, f45, f7, f8, f9, gb4, gb7, gb8, gb9, nb4_0, nb4_1, nb4_2, nb7_0, nb7_1, nb7_2, nb8_0, nb8_1, nb8_2, nb9_0, nb9_1, nb9_2, nb4_b7, nb4_b8, nb4_b9, nb7_b4, nb7_b8, nb7_b9, nb8_b4, nb8_b7, nb8_b9, nb9_b4, nb9_b7, nb9_b8, m0_, m1_, m2_, sub_set, sub_killAll, hsub], by first | omega | (simp [go_sem]; done) | (simp [go_sem]; omega), by omega, by omega, by omega, by omega⟩ <;> simp [go_sem, f2, f4, f45, f7, f8, f9, gb4, gb7, gb8, gb9, nb4_0, nb4_1, nb4_2, nb7_0, nb7_1, nb7_2, nb8_0, nb8_1, nb8_2, nb9_0, nb9_1, nb9_2, nb4_b7, nb4_b8, nb4_b9, nb7_b4, nb7_b8, nb7_b9, nb8_b4, nb8_b7, nb8_b9, nb9_b4, nb9_b7, nb9_b8, m0_, m1_, m2_, sub_set, sub_killAll, hsub]
        · refine (hM _ _).2 ⟨(τ1.next + 2), ?_, ?_, ?_, ?_, ?_, ?_, by intro j hj; have hj_ := hK j hj; simp [go_sem, hj_.1, hj_.2, show ¬ j = τ1.next by omega, show ¬ j = τ1.next + 1 by omega, show ¬ j = τ1.next + 2 by omega], by first | omega | (simp [go_sem]; done) | (simp [go_sem]; omega), by simp (disch := omega) [get_alloc_ne, get_set_ne, get_kill_ne, go_sem, f2, f4, f45, f7, f8, f9, gb4, gb7, gb8, gb9, nb4_0, nb4_1, nb4_2, nb7_0, nb7_1, nb7_2, nb8_0, nb8_1, nb8_2, nb9_0, nb9_1, nb9_2, nb4_b7, nb4_b8, nb4_b9, nb7_b4, nb7_b8, nb7_b9, nb8_b4, nb8_b7, nb8_b9, nb9_b4, nb9_b7, nb9_b8, m0_, m1_, m2_, sub_set, sub_killAll, hsub], by first | omega | (simp [go_sem]; done) | (simp [go_sem]; omega), by simp (disch := omega) [get_alloc_ne, get_set_ne, get_kill_ne, go_sem, f2, f4, f45, f7, f8, f9, gb4, gb7, gb8, gb9, nb4_0, nb4_1, nb4_2, nb7_0, nb7_1, nb7_2, nb8_0, nb8_1, nb8_2, nb9_0, nb9_1, nb9_2, nb4_b7, nb4_b8, nb4_b9, nb7_b4, nb7_b8, nb7_b9, nb8_b4, nb8_b7, nb8_b9, nb9_b4, nb9_b7, nb9_b8, m0_, m1_, m2_, sub_set, sub_killAll, hsub], by first | omega | (simp [go_sem]; done) | (simp [go_sem]; omega), by simp (disch := omega) [get_alloc_ne, get_set_ne, get_kill_ne, go_sem, f2, f4, f45, f7, f8, f9, gb4, gb7, gb8, gb9, nb4_0, nb4_1, nb4_2, nb7_0, nb7_1, nb7_2, nb8_0, nb8_1, nb8_2, nb9_0, nb9_1, nb9_2, nb4_b7, nb4_b8, nb4_b9, nb7_b4, nb7_b8, nb7_b9, nb8_b4, nb8_b7, nb8_b9, nb9_b4, nb9_b7, nb9_b8, m0_, m1_, m2_, sub_set, sub_killAll, hsub], by first | omega | (simp [go_sem]; done) | (simp [go_sem]; omega), by simp (disch := omega) [get_alloc_ne, get_set_ne, get_kill_ne, go_sem, f2, f4, f45, f7, f8, f9, gb4, gb7, gb8, gb9, nb4_0, nb4_1, nb4_2, nb7_0, nb7_1, nb7_2, nb8_0, nb8_1, nb8_2, nb9_0, nb9_1, nb9_2, nb4_b7, nb4_b8, nb4_b9, nb7_b4, nb7_b8, nb7_b9, nb8_b4, nb8_b7, nb8_b9, nb9_b4, nb9_b7, nb9_b8, m0_, m1_, m2_, sub_set, sub_killAll, hsub], by first | omega | (simp [go_sem]; done) | (simp [go_sem]; omega), by omega, by omega, by omega, by omega⟩ <;> simp [go_sem, f2, f4, f45, f7, f8, f9, gb4, gb7, gb8, gb9, nb4_0, nb4_1, nb4_2, nb7_0, nb7_1, nb7_2, nb8_0, nb8_1, nb8_2, nb9_0, nb9_1, nb9_2, nb4_b7, nb4_b8, nb4_b9, nb7_b4, nb7_b8, nb7_b9, nb8_b4, nb8_b7, nb8_b9, nb9_b4, nb9_b7, nb9_b8, m0_, m1_, m2_, sub_set, sub_killAll, hsub]
  clear f2 f4 f45 f7 f8 f9 hK hN gb4 ub4 gb7 ub7 gb8 ub8 gb9 ub9
  obtain ⟨b11, f2, f7, f8, f9, f11, f14, hK, hN, gb7, ub7, gb8, ub8, gb9, ub9, gb11, ub11, wb11, eb7b11, eb8b11, eb9b11⟩ := hm
  refine SW.seq ?_
  -- region 5
  obtain ⟨rx3, hrx3, h⟩ := obind h
  refine SW.regX (fun f_ t_ => τ2 = t_ ∧ f_ 2 = AV.bool (A) ∧ f_ 7 = AV.ptr b7 0 ∧ f_ 8 = AV.ptr b8 0 ∧ f_ 11 = AV.ptr b11 0 ∧ f_ 14 = AV.int (rx2.2.2.2) ∧ f_ 15 = morphsA (rx3.1) ∧ f_ 16 = AV.int (rx3.2)) (fun M hM => ?_) (fun fr6 τz2 hm => ?_)
  · simp [go_sem, f11, f14, f2, f7, f8, f9, gb7, gb8, gb9, gb11]
    refine EWcall_pure (w_search_All rx.1 rx.2.1 rx.2.2.1 A _ hrx3) ?_
    simp [go_sem, f11, f14, f2, f7, f8, f9, gb7, gb8, gb9, gb11]
    refine (hM _ _).2 ⟨rfl, ?_, ?_, ?_, ?_, ?_, ?_, ?_⟩ <;> simp [go_sem, f11, f14, f2, f7, f8, f9, gb7, gb8, gb9, gb11]
  clear f11 f14 f2 f7 f8 f9
  obtain ⟨rfl, f2, f7, f8, f11, f14, f15, f16⟩ := hm
  refine SW.seq ?_
  -- region 6
  obtain ⟨rx4, hrx4, h⟩ := obind h
  refine SW.regX (fun f_ t_ => τ2 = t_ ∧ f_ 14 = AV.int (rx2.2.2.2) ∧ f_ 15 = morphsA (rx3.1) ∧ f_ 16 = AV.int (rx3.2) ∧ f_ 17 = morphsA (rx4.1) ∧ f_ 18 = AV.int (rx4.2)) (fun M hM => ?_) (fun fr7 τz3 hm => ?_)
  · simp [go_sem, f11, f14, f15, f16, f2, f7, f8, gb7, gb8, gb11]
    refine EWcall_pure (w_search_All rx.1 rx.2.1 rx2.1 A _ hrx4) ?_
    simp [go_sem, f11, f14, f15, f16, f2, f7, f8, gb7, gb8, gb11]
    refine (hM _ _).2 ⟨rfl, ?_, ?_, ?_, ?_, ?_⟩ <;> simp [go_sem, f11, f14, f15, f16, f2, f7, f8, gb7, gb8, gb11]
  clear f11 f14 f15 f16 f2 f7 f8
  obtain ⟨rfl, f14, f15, f16, f17, f18⟩ := hm
  refine SW.seq ?_
  refine SW.seq ?_
  -- region 7
  refine SW.regX (fun f_ t_ => τ2 = t_ ∧ f_ 14 = AV.int (rx2.2.2.2) ∧ f_ 15 = morphsA (rx3.1) ∧ f_ 16 = AV.int (rx3.2) ∧ f_ 17 = morphsA (rx4.1) ∧ f_ 18 = AV.int (rx4.2) ∧ f_ 82 = AV.bool ((((!decide (rx2.2.2.2 = 0))) || ((((!decide (rx3.2 = 0))) || ((!decide (rx4.2 = 0)))))))) (fun M hM => ?_) (fun fr8 τz4 hm => ?_)
  · rcases Bool.eq_false_or_eq_true ((!decide (rx2.2.2.2 = 0))) with y0 | y0
    · have y0' := y0
      try simp at y0'
      simp [go_sem, f14, f15, f16, f17, f18, y0, y0']
      refine (hM _ _).2 ⟨rfl, ?_, ?_, ?_, ?_, ?_, ?_⟩ <;> simp [go_sem, f14, f15, f16, f17, f18, y0, y0']
    · have y0' := y0
      try simp at y0'
      rcases Bool.eq_false_or_eq_true ((!decide (rx3.2 = 0))) with y2 | y2
      · have y2' := y2
        try simp [y0'] at y2'
        simp [go_sem, f14, f15, f16, f17, f18, y0, y0', y2, y2']
        refine (hM _ _).2 ⟨rfl, ?_, ?_, ?_, ?_, ?_, ?_⟩ <;> simp [go_sem, f14, f15, f16, f17, f18, y0, y0', y2, y2']
      · have y2' := y2
        try simp [y0'] at y2'
        simp [go_sem, f14, f15, f16, f17, f18, y0, y0', y2, y2']
        refine (hM _ _).2 ⟨rfl, ?_, ?_, ?_, ?_, ?_, ?_⟩ <;> simp [go_sem, f14, f15, f16, f17, f18, y0, y0', y2, y2']
  clear f14 f15 f16 f17 f18
  obtain ⟨rfl, f14, f15, f16, f17, f18, f82⟩ := hm
  refine SW.cond _ f82 (fun hx1 => ?_) (fun hx1 => ?_)
  · have h := condT h hx1
    refine SW.seq ?_
    -- region 8
    refine SW.regX (fun f_ t_ => τ2 = t_ ∧ f_ 6 = AV.bool ((((decide (rx2.2.2.2 = 0))) && ((bif (decide (rx3.2 = 3)) then (decide (rx4.2 = 3)) else (((decide (rx3.2 = 0))) && ((decide (rx4.2 = 3))))))))) (fun M hM => ?_) (fun fr9 τz5 hm => ?_)
    · rcases Bool.eq_false_or_eq_true ((decide (rx2.2.2.2 = 0))) with y0 | y0
      · have y0' := y0
        try simp at y0'
        rcases Bool.eq_false_or_eq_true ((decide (rx3.2 = 3))) with y2 | y2
        · have y2' := y2
          try simp [y0'] at y2'
          simp [go_sem, f14, f15, f16, f17, f18, f82, y0, y0', y2, y2']
          refine (hM _ _).2 ⟨rfl, ?_⟩ <;> simp [go_sem, f14, f15, f16, f17, f18, f82, y0, y0', y2, y2']
        · have y2' := y2
          try simp [y0'] at y2'
          rcases Bool.eq_false_or_eq_true ((decide (rx3.2 = 0))) with y4 | y4
          · have y4' := y4
            try simp [y0', y2'] at y4'
            simp [go_sem, f14, f15, f16, f17, f18, f82, y0, y0', y2, y2', y4, y4']
            refine (hM _ _).2 ⟨rfl, ?_⟩ <;> simp [go_sem, f14, f15, f16, f17, f18, f82, y0, y0', y2, y2', y4, y4']
          · have y4' := y4
            try simp [y0', y2'] at y4'
            simp [go_sem, f14, f15, f16, f17, f18, f82, y0, y0', y2, y2', y4, y4']
            refine (hM _ _).2 ⟨rfl, ?_⟩ <;> simp [go_sem, f14, f15, f16, f17, f18, f82, y0, y0', y2, y2', y4, y4']
      · have y0' := y0
        try simp at y0'
        simp [go_sem, f14, f15, f16, f17, f18, f82, y0, y0']
        refine (hM _ _).2 ⟨rfl, ?_⟩ <;> simp [go_sem, f14, f15, f16, f17, f18, f82, y0, y0']
    clear f14 f15 f16 f17 f18 f82
    obtain ⟨rfl, f6⟩ := hm
    obtain rfl := Option.some.inj h
    exact SW.ret ⟨AV.bool ((((decide (rx2.2.2.2 = 0))) && ((bif (decide (rx3.2 = 3)) then (decide (rx4.2 = 3)) else (((decide (rx3.2 = 0))) && ((decide (rx4.2 = 3)))))))), by simp [go_sem, f6], .lit _, hK.keeps⟩
  have h := condF h hx1
  refine SW.skip ?_
  refine SW.seq ?_
  refine SW.seq ?_
  -- region 9
  refine SW.regX (fun f_ t_ => τ2 = t_ ∧ f_ 17 = morphsA (rx4.1) ∧ f_ 97 = morphsA (rx3.1) ∧ f_ 98 = AV.int (((rx3.1.length : Nat) : Int)) ∧ f_ 99 = AV.int (0)) (fun M hM => ?_) (fun fr10 τz6 hm => ?_)
  · simp [go_sem, f14, f15, f16, f17, f18, f82]
    refine (hM _ _).2 ⟨rfl, ?_, ?_, ?_, ?_⟩ <;> simp [go_sem, f14, f15, f16, f17, f18, f82]
  clear f14 f15 f16 f17 f18 f82
  obtain ⟨rfl, f17, f97, f98, f99⟩ := hm
  obtain ⟨oi, hruni, hoi⟩ := obind h
  refine SW.len 97 f97 (fun hbigi => ?_)
  obtain ⟨KL, hKL⟩ : ∃ KL : Fr → Mem → Prop, ∀ fr' τ', KL fr' τ' ↔ (oi = .done () ∧ Kept σ0 τ' ∧ σ0.next ≤ τ'.next) := ⟨_, fun _ _ => Iff.rfl⟩
  refine SW.cut KL ?_ ?_
  · refine SW.block ?_
    obtain ⟨J, hJ⟩ : ∃ J : Nat → Fr → Mem → Prop, ∀ m_ fr' τ', J m_ fr' τ' ↔ (∃ k : Nat, m_ = rx3.1.length - k ∧ forN (b1_law17_SearchLarger rx3 rx4) (rx3.1.length - k) k () = some oi ∧ fr' 17 = morphsA (rx4.1) ∧ fr' 97 = morphsA (rx3.1) ∧ fr' 98 = AV.int (((rx3.1.length : Nat) : Int)) ∧ fr' 99 = AV.int (((k : Nat) : Int)) ∧ Kept σ0 τ' ∧ σ0.next ≤ τ'.next) := ⟨_, fun _ _ _ => Iff.rfl⟩
    refine SW.loop J (rx3.1.length - 0) ((hJ _ _ _).2 ⟨0, rfl, hruni, f17, f97, f98, f99, hK, hN⟩) ?_
    clear hruni
    intro m_ fr11 τ3 hm
    rw [hJ] at hm
    clear f17 f97 f98 f99 hK hN
    obtain ⟨k, rfl, hruni, f17, f97, f98, f99, hK, hN⟩ := hm
    refine SW.seq ?_
    -- region 10
    refine SW.regX (fun f_ t_ => τ3 = t_ ∧ f_ 17 = morphsA (rx4.1) ∧ f_ 97 = morphsA (rx3.1) ∧ f_ 98 = AV.int (((rx3.1.length : Nat) : Int)) ∧ f_ 99 = AV.int (((k : Nat) : Int)) ∧ f_ 100 = AV.bool ((decide (k < rx3.1.length)))) (fun M hM => ?_) (fun fr12 τz7 hm => ?_)
    · simp [go_sem, f17, f97, f98, f99]
      refine (hM _ _).2 ⟨rfl, ?_, ?_, ?_, ?_, ?_⟩ <;> simp [go_sem, f17, f97, f98, f99]
    clear f17 f97 f98 f99
    obtain ⟨rfl, f17, f97, f98, f99, f100⟩ := hm
    refine SW.seq ?_
    refine SW.cond _ f100 (fun hx2 => ?_) (fun hx2 => ?_)
    rotate_left
    · have hk : ¬ k < rx3.1.length := by have := of_decide_eq_false hx2; omega
      refine SW.exit rfl ?_
      exact SW.goal ((hKL _ _).2 ⟨forN_end hruni hk, hK, hN⟩)
    have hkk : k < rx3.1.length := by have := of_decide_eq_true hx2; omega
    have hwk : IntKind.i64.wrap ((k : Int) + 1) = ((k + 1 : Nat) : Int) := by rw [wrap64_of _ (by omega) (by omega)]; rfl
    obtain ⟨ci, hbi, hci⟩ := forN_step hruni hkk
    simp only [b1_law17_SearchLarger] at hbi
    refine SW.skip ?_
    refine SW.seq ?_
    refine SW.block ?_
    refine SW.seq ?_
    -- region 11
    obtain ⟨x, hx, hbi⟩ := obind hbi
    have xlx := getN_lt hx
    have xdx := getN_flat morphC 2 (fun _ => rfl) hx
    refine SW.regX (fun f_ t_ => ∃ b20 : Nat, f_ 17 = morphsA (rx4.1) ∧ f_ 20 = AV.ptr b20 0 ∧ f_ 97 = morphsA (rx3.1) ∧ f_ 98 = AV.int (((rx3.1.length : Nat) : Int)) ∧ f_ 99 = AV.int (((k : Nat) : Int)) ∧ Kept σ0 t_ ∧ σ0.next ≤ t_.next ∧ t_.get b20 = some [intsA (x.nodes), intsA (x.edges)] ∧ b20 < t_.next ∧ σ0.next ≤ b20) (fun M hM => ?_) (fun fr13 τ4 hm => ?_)
    · simp [go_sem, f100, f17, f97, f98, f99, xlx, xdx, morphC]
      refine (hM _ _).2 ⟨τ3.next, ?_, ?_, ?_, ?_, ?_, by intro j hj; have hj_ := hK j hj; simp [go_sem, hj_.1, hj_.2, show ¬ j = τ3.next by omega], by first | omega | (simp [go_sem]; done) | (simp [go_sem]; omega), by simp (disch := omega) [get_alloc_ne, get_set_ne, get_kill_ne, go_sem, f100, f17, f97, f98, f99, xlx, xdx, morphC], by first | omega | (simp [go_sem]; done) | (simp [go_sem]; omega), by omega⟩ <;> simp [go_sem, f100, f17, f97, f98, f99, xlx, xdx, morphC]
    clear f100 f17 f97 f98 f99 hK hN
    obtain ⟨b20, f17, f20, f97, f98, f99, hK, hN, gb20, ub20, wb20⟩ := hm
    refine SW.seq ?_
    -- region 12
    obtain ⟨q2, hq2, hbi⟩ := obind hbi
    refine SW.regX (fun f_ t_ => τ4 = t_ ∧ f_ 17 = morphsA (rx4.1) ∧ f_ 97 = morphsA (rx3.1) ∧ f_ 98 = AV.int (((rx3.1.length : Nat) : Int)) ∧ f_ 99 = AV.int (((k : Nat) : Int)) ∧ f_ 106 = AV.bool ((!q2))) (fun M hM => ?_) (fun fr14 τz8 hm => ?_)
    · simp [go_sem, f17, f20, f97, f98, f99, gb20]
      refine EWcall_frz (w_slices_ContainsFunc_Morphism rx4.1 (fun a0 => s_law17_SearchLarger_c1 a0 x) 10 [AV.iptr [intsA (x.nodes), intsA (x.edges)]] (fun a0 r h => w_law17_SearchLarger_c1 a0 x r h) _ hq2) rfl (frzL_c ((DataA.imm (DataL.flatMap gd_morphC rx4.1)) _ _) (frzL_c (frz_fnL (frzL_c (frz_ptrL (Nat.zero_le _) gb20 (frzL_c ((DataA.imm (DataL.map (fun _ => .lit _) x.nodes)) _ _) (frzL_c ((DataA.imm (DataL.map (fun _ => .lit _) x.edges)) _ _) (frzL_n)))) (frzL_n))) (frzL_n))) ?_
      simp [go_sem, f17, f20, f97, f98, f99, gb20]
      refine (hM _ _).2 ⟨rfl, ?_, ?_, ?_, ?_, ?_⟩ <;> simp [go_sem, f17, f20, f97, f98, f99, gb20]
    clear f17 f20 f97 f98 f99
    obtain ⟨rfl, f17, f97, f98, f99, f106⟩ := hm
    refine SW.cond _ f106 (fun hx3 => ?_) (fun hx3 => ?_)
    · have hbi := condT hbi hx3
      refine SW.seq ?_
      -- region 13
      refine SW.regX (fun f_ t_ => τ4 = t_ ∧ f_ 6 = AV.bool (false)) (fun M hM => ?_) (fun fr15 τz9 hm => ?_)
      · simp [go_sem, f106, f17, f97, f98, f99]
        refine (hM _ _).2 ⟨rfl, ?_⟩ <;> simp [go_sem, f106, f17, f97, f98, f99]
      clear f106 f17 f97 f98 f99
      obtain ⟨rfl, f6⟩ := hm
      obtain rfl := Option.some.inj hbi
      obtain rfl := Option.some.inj hci
      obtain rfl := Option.some.inj hoi
      exact SW.ret ⟨AV.bool (false), by simp [go_sem, f6], .lit _, hK.keeps⟩
    have hbi := condF hbi hx3
    refine SW.skip ?_
    refine SW.blk ?_
    -- region 14
    refine SW.regX (fun f_ t_ => τ4 = t_ ∧ f_ 17 = morphsA (rx4.1) ∧ f_ 97 = morphsA (rx3.1) ∧ f_ 98 = AV.int (((rx3.1.length : Nat) : Int)) ∧ f_ 99 = AV.int (((k + 1 : Nat) : Int))) (fun M hM => ?_) (fun fr16 τz10 hm => ?_)
    · simp [go_sem, f106, f17, f97, f98, f99, hwk]
      refine (hM _ _).2 ⟨rfl, ?_, ?_, ?_, ?_⟩ <;> simp [go_sem, f106, f17, f97, f98, f99, hwk]
    clear f106 f17 f97 f98 f99
    obtain ⟨rfl, f17, f97, f98, f99⟩ := hm
    obtain rfl := Option.some.inj hbi
    exact SW.goal ⟨rx3.1.length - (k + 1), by omega, (hJ _ _ _).2 ⟨k + 1, rfl, hci, f17, f97, f98, f99, hK, hN⟩⟩
  intro fr17 τ5 hm
  rw [hKL] at hm
  clear hKL hruni
  clear f17 f97 f98 f99 hK hN
  obtain ⟨rfl, hK, hN⟩ := hm
  simp only [Out.on] at hoi
  refine SW.seq ?_
  -- region 15
  refine SW.regX (fun f_ t_ => τ5 = t_ ∧ f_ 6 = AV.bool (true)) (fun M hM => ?_) (fun fr18 τz11 hm => ?_)
  · simp [go_sem]
    refine (hM _ _).2 ⟨rfl, ?_⟩ <;> simp [go_sem]
  obtain ⟨rfl, f6⟩ := hm
  obtain rfl := Option.some.inj hoi
  exact SW.ret ⟨AV.bool (true), by simp [go_sem, f6], .lit _, hK.keeps⟩
end Go.Proofs.Ytdacgjleiloooaa
