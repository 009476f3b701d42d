/-
  Plain functions and the walks that lead to them, by a program of ours (gen.py): (scarfjoint/scarfjointlaw17.Drafts).parts, scarfjoint/scarfjointref04.Example, scarfjoint/scarfjointlaw17.bank, slices.Index___string_string_, slices.Contains___string_string_, slices.IndexFunc___scarfjoint/api.NodeType_scarfjoint/api.NodeType_, slices.ContainsFunc___scarfjoint/api.NodeType_scarfjoint/api.NodeType_, slices.IndexFunc___scarfjoint/api.Attr_scarfjoint/api.Attr_.
-/
import Derived.Test.YtdacgjleiloooaaGd
import Derived.Test.YtdacgjleiloooaaGT
import Derived.Test.YtdacgjleiloooaaB3
import Derived.Test.YtdacgjleiloooaaGa1
import Derived.Test.YtdacgjleiloooaaGa3
set_option linter.unusedSimpArgs false
set_option linter.unusedVariables false
namespace Go.Proofs.Ytdacgjleiloooaa
open Go Go.Ew Go.Proofs Go.RowKit
set_option maxRecDepth 100000
set_option maxHeartbeats 4000000 in
theorem w_law17_Drafts_parts (F : Nat) (d : Gscarfjointlaw17_Drafts) (r : (Types × Graph × Graph × Bool)) (h : s_law17_Drafts_parts F d = some r) : PureA Try.prog 4 [AV.agg [sl_Ar2_Int (d.nodes), sl_Ar2_Int (d.edges), sl_Int_u8 (d.p.nodes), sl_Ar3_Int (d.p.edges), sl_Int_u8 (d.g.nodes), sl_Ar3_Int (d.g.edges)]] (AV.tup [AV.agg [nodesA (r.1.nodes), edgesA (r.1.edges)], AV.agg [intsA (r.2.1.nodes), e3sA (r.2.1.edges)], AV.agg [intsA (r.2.2.1.nodes), e3sA (r.2.2.1.edges)], AV.bool (r.2.2.2)]) := by
  refine pureA_of_SW (N := 62) Try.func4 (by kernel_rfl) rfl (by rw [Try.ntmps4]; rfl) (fun σ0 => ?_)
  rw [Try.results4]
  obtain ⟨fr0, hfr⟩ : ∃ fr, fr = initFr [AV.agg [sl_Ar2_Int (d.nodes), sl_Ar2_Int (d.edges), sl_Int_u8 (d.p.nodes), sl_Ar3_Int (d.p.edges), sl_Int_u8 (d.g.nodes), sl_Ar3_Int (d.g.edges)]] := ⟨_, rfl⟩
  rw [← hfr]
  have f0 : fr0 0 = AV.agg [sl_Ar2_Int (d.nodes), sl_Ar2_Int (d.edges), sl_Int_u8 (d.p.nodes), sl_Ar3_Int (d.p.edges), sl_Int_u8 (d.g.nodes), sl_Ar3_Int (d.g.edges)] := by rw [hfr]; rfl
  clear hfr
  simp only [s_law17_Drafts_parts] at h
  refine SW.seq ?_
  -- region 0
  refine SW.regX (fun f_ t_ => ∃ b1 : Nat, ∃ b2 : Nat, ∃ b3 : Nat, ∃ b4 : Nat, f_ 1 = AV.ptr b1 0 ∧ f_ 2 = AV.ptr b2 0 ∧ f_ 3 = AV.ptr b3 0 ∧ f_ 4 = AV.ptr b4 0 ∧ Kept σ0 t_ ∧ σ0.next ≤ t_.next ∧ t_.get b1 = some [sl_Ar2_Int (d.nodes), sl_Ar2_Int (d.edges), sl_Int_u8 (d.p.nodes), sl_Ar3_Int (d.p.edges), sl_Int_u8 (d.g.nodes), sl_Ar3_Int (d.g.edges)] ∧ b1 < t_.next ∧ t_.get b2 = some [AV.nils, AV.nils] ∧ b2 < t_.next ∧ t_.get b3 = some [AV.nils, AV.nils] ∧ b3 < t_.next ∧ t_.get b4 = some [AV.nils, AV.nils] ∧ b4 < t_.next ∧ σ0.next ≤ b1 ∧ σ0.next ≤ b2 ∧ ¬ b1 = b2 ∧ σ0.next ≤ b3 ∧ ¬ b1 = b3 ∧ ¬ b2 = b3 ∧ σ0.next ≤ b4 ∧ ¬ b1 = b4 ∧ ¬ b2 = b4 ∧ ¬ b3 = b4) (fun M hM => ?_) (fun fr1 τ hm => ?_)
  · simp [go_sem, f0]
    refine (hM _ _).2 ⟨σ0.next, (σ0.next + 1), (σ0.next + 2), (σ0.next + 3), ?_, ?_, ?_, ?_, by intro j hj; simp [go_sem, show ¬ j = σ0.next by omega, show ¬ j = σ0.next + 1 by omega, show ¬ j = σ0.next + 2 by omega, show ¬ j = σ0.next + 3 by omega], by first | omega | (simp [go_sem]; done) | (simp [go_sem]; omega), by simp (disch := omega) [get_alloc_ne, get_set_ne, get_kill_ne, go_sem, f0], by first | omega | (simp [go_sem]; done) | (simp [go_sem]; omega), by simp (disch := omega) [get_alloc_ne, get_set_ne, get_kill_ne, go_sem, f0], by first | omega | (simp [go_sem]; done) | (simp [go_sem]; omega), by simp (disch := omega) [get_alloc_ne, get_set_ne, get_kill_ne, go_sem, f0], by first | omega | (simp [go_sem]; done) | (simp [go_sem]; omega), by simp (disch := omega) [get_alloc_ne, get_set_ne, get_kill_ne, go_sem, f0], by first | omega | (simp [go_sem]; done) | (simp [go_sem]; omega), by omega, by omega, by omega, by omega, by omega, by omega, by omega, by omega, by omega, by omega⟩ <;> simp [go_sem, f0]
  clear f0
  obtain ⟨b1, b2, b3, b4, f1, f2, f3, f4, hK, hN, gb1, ub1, gb2, ub2, gb3, ub3, gb4, ub4, wb1, wb2, eb1b2, wb3, eb1b3, eb2b3, wb4, eb1b4, eb2b4, eb3b4⟩ := hm
  refine SW.seq ?_
  refine SW.seq ?_
  -- region 1
  refine SW.regX (fun f_ t_ => τ = t_ ∧ f_ 1 = AV.ptr b1 0 ∧ f_ 2 = AV.ptr b2 0 ∧ f_ 3 = AV.ptr b3 0 ∧ f_ 4 = AV.ptr b4 0 ∧ f_ 44 = AV.bool ((((decide (6 < ((d.nodes.length : Nat) : Int)))) || ((((decide (5 < ((d.edges.length : Nat) : Int)))) || ((((decide (3 < ((d.p.nodes.length : Nat) : Int)))) || ((((decide (3 < ((d.p.edges.length : Nat) : Int)))) || ((((decide (8 < ((d.g.nodes.length : Nat) : Int)))) || ((decide (10 < ((d.g.edges.length : Nat) : Int))))))))))))))) (fun M hM => ?_) (fun fr2 τz hm => ?_)
  · rcases Bool.eq_false_or_eq_true ((decide (6 < ((d.nodes.length : Nat) : Int)))) with y0 | y0
    · have y0' := y0
      try simp at y0'
      simp [go_sem, f1, f2, f3, f4, gb1, gb2, gb3, gb4, y0, y0']
      refine (hM _ _).2 ⟨rfl, ?_, ?_, ?_, ?_, ?_⟩ <;> simp [go_sem, f1, f2, f3, f4, gb1, gb2, gb3, gb4, y0, y0']
    · have y0' := y0
      try simp at y0'
      rcases Bool.eq_false_or_eq_true ((decide (5 < ((d.edges.length : Nat) : Int)))) with y2 | y2
      · have y2' := y2
        try simp [y0'] at y2'
        simp [go_sem, f1, f2, f3, f4, gb1, gb2, gb3, gb4, y0, y0', y2, y2']
        refine (hM _ _).2 ⟨rfl, ?_, ?_, ?_, ?_, ?_⟩ <;> simp [go_sem, f1, f2, f3, f4, gb1, gb2, gb3, gb4, y0, y0', y2, y2']
      · have y2' := y2
        try simp [y0'] at y2'
        rcases Bool.eq_false_or_eq_true ((decide (3 < ((d.p.nodes.length : Nat) : Int)))) with y4 | y4
        · have y4' := y4
          try simp [y0', y2'] at y4'
          simp [go_sem, f1, f2, f3, f4, gb1, gb2, gb3, gb4, y0, y0', y2, y2', y4, y4']
          refine (hM _ _).2 ⟨rfl, ?_, ?_, ?_, ?_, ?_⟩ <;> simp [go_sem, f1, f2, f3, f4, gb1, gb2, gb3, gb4, y0, y0', y2, y2', y4, y4']
        · have y4' := y4
          try simp [y0', y2'] at y4'
          rcases Bool.eq_false_or_eq_true ((decide (3 < ((d.p.edges.length : Nat) : Int)))) with y6 | y6
          · have y6' := y6
            try simp [y0', y2', y4'] at y6'
            simp [go_sem, f1, f2, f3, f4, gb1, gb2, gb3, gb4, y0, y0', y2, y2', y4, y4', y6, y6']
            refine (hM _ _).2 ⟨rfl, ?_, ?_, ?_, ?_, ?_⟩ <;> simp [go_sem, f1, f2, f3, f4, gb1, gb2, gb3, gb4, y0, y0', y2, y2', y4, y4', y6, y6']
          · have y6' := y6
            try simp [y0', y2', y4'] at y6'
            rcases Bool.eq_false_or_eq_true ((decide (8 < ((d.g.nodes.length : Nat) : Int)))) with y8 | y8
            · have y8' := y8
              try simp [y0', y2', y4', y6'] at y8'
              simp [go_sem, f1, f2, f3, f4, gb1, gb2, gb3, gb4, y0, y0', y2, y2', y4, y4', y6, y6', y8, y8']
              refine (hM _ _).2 ⟨rfl, ?_, ?_, ?_, ?_, ?_⟩ <;> simp [go_sem, f1, f2, f3, f4, gb1, gb2, gb3, gb4, y0, y0', y2, y2', y4, y4', y6, y6', y8, y8']
            · have y8' := y8
              try simp [y0', y2', y4', y6'] at y8'
              simp [go_sem, f1, f2, f3, f4, gb1, gb2, gb3, gb4, y0, y0', y2, y2', y4, y4', y6, y6', y8, y8']
              refine (hM _ _).2 ⟨rfl, ?_, ?_, ?_, ?_, ?_⟩ <;> simp [go_sem, f1, f2, f3, f4, gb1, gb2, gb3, gb4, y0, y0', y2, y2', y4, y4', y6, y6', y8, y8']
  clear f1 f2 f3 f4
  obtain ⟨rfl, f1, f2, f3, f4, f44⟩ := hm
  refine SW.cond _ f44 (fun hx => ?_) (fun hx => ?_)
  · have h := condT h hx
    refine SW.seq ?_
    -- region 2
    refine SW.regX (fun f_ t_ => f_ 2 = AV.ptr b2 0 ∧ f_ 3 = AV.ptr b3 0 ∧ f_ 4 = AV.ptr b4 0 ∧ f_ 5 = AV.bool (false) ∧ Kept σ0 t_ ∧ σ0.next ≤ t_.next ∧ t_.get b2 = some [AV.nils, AV.nils] ∧ b2 < t_.next ∧ t_.get b3 = some [AV.nils, AV.nils] ∧ b3 < t_.next ∧ t_.get b4 = some [AV.nils, AV.nils] ∧ b4 < t_.next) (fun M hM => ?_) (fun fr3 τ1 hm => ?_)
    · have nb1_b2 : ¬ b1 = b2 := by omega
      have nb1_b3 : ¬ b1 = b3 := by omega
      have nb1_b4 : ¬ b1 = b4 := by omega
      have nb2_b3 : ¬ b2 = b3 := by omega
      have nb2_b4 : ¬ b2 = b4 := by omega
      have nb3_b2 : ¬ b3 = b2 := by omega
      have nb3_b4 : ¬ b3 = b4 := by omega
      have nb4_b2 : ¬ b4 = b2 := by omega
      have nb4_b3 : ¬ b4 = b3 := by omega
      simp [go_sem, f1, f2, f3, f4, f44, gb1, gb2, gb3, gb4, nb1_b2, nb1_b3, nb1_b4, nb2_b3, nb2_b4, nb3_b2, nb3_b4, nb4_b2, nb4_b3]
      refine (hM _ _).2 ⟨?_, ?_, ?_, ?_, by intro j hj; have hj_ := hK j hj; simp [go_sem, hj_.1, hj_.2, show ¬ j = b2 by omega, show ¬ j = b3 by omega, show ¬ j = b4 by omega], by first | omega | (simp [go_sem]; done) | (simp [go_sem]; omega), by simp (disch := omega) [get_alloc_ne, get_set_ne, get_kill_ne, go_sem, f1, f2, f3, f4, f44, gb1, gb2, gb3, gb4, nb1_b2, nb1_b3, nb1_b4, nb2_b3, nb2_b4, nb3_b2, nb3_b4, nb4_b2, nb4_b3], by first | omega | (simp [go_sem]; done) | (simp [go_sem]; omega), by simp (disch := omega) [get_alloc_ne, get_set_ne, get_kill_ne, go_sem, f1, f2, f3, f4, f44, gb1, gb2, gb3, gb4, nb1_b2, nb1_b3, nb1_b4, nb2_b3, nb2_b4, nb3_b2, nb3_b4, nb4_b2, nb4_b3], by first | omega | (simp [go_sem]; done) | (simp [go_sem]; omega), by simp (disch := omega) [get_alloc_ne, get_set_ne, get_kill_ne, go_sem, f1, f2, f3, f4, f44, gb1, gb2, gb3, gb4, nb1_b2, nb1_b3, nb1_b4, nb2_b3, nb2_b4, nb3_b2, nb3_b4, nb4_b2, nb4_b3], by first | omega | (simp [go_sem]; done) | (simp [go_sem]; omega)⟩ <;> simp [go_sem, f1, f2, f3, f4, f44, gb1, gb2, gb3, gb4, nb1_b2, nb1_b3, nb1_b4, nb2_b3, nb2_b4, nb3_b2, nb3_b4, nb4_b2, nb4_b3]
    clear f1 f2 f3 f4 f44 hK hN gb1 ub1 gb2 ub2 gb3 ub3 gb4 ub4
    obtain ⟨f2, f3, f4, f5, hK, hN, gb2, ub2, gb3, ub3, gb4, ub4⟩ := hm
    obtain rfl := Option.some.inj h
    exact SW.ret ⟨AV.tup [AV.agg [AV.nils, AV.nils], AV.agg [AV.nils, AV.nils], AV.agg [AV.nils, AV.nils], AV.bool (false)], by simp [go_sem, f2, f3, f4, f5, gb2, gb3, gb4], frz_tupL (frzL_c (frz_aggL (frzL_c (.nils) (frzL_c (.nils) (frzL_n)))) (frzL_c (frz_aggL (frzL_c (.nils) (frzL_c (.nils) (frzL_n)))) (frzL_c (frz_aggL (frzL_c (.nils) (frzL_c (.nils) (frzL_n)))) (frzL_c (.lit _) (frzL_n))))), hK.keeps⟩
  have h := condF h hx
  refine SW.skip ?_
  refine SW.seq ?_
  -- region 3
  obtain ⟨rx, hrx, h⟩ := obind h
  refine SW.regX (fun f_ t_ => ∃ b6 : Nat, f_ 1 = AV.ptr b1 0 ∧ f_ 2 = AV.ptr b2 0 ∧ f_ 3 = AV.ptr b3 0 ∧ f_ 4 = AV.ptr b4 0 ∧ f_ 6 = AV.ptr b6 0 ∧ Kept σ0 t_ ∧ σ0.next ≤ t_.next ∧ t_.get b1 = some [sl_Ar2_Int (d.nodes), sl_Ar2_Int (d.edges), sl_Int_u8 (d.p.nodes), sl_Ar3_Int (d.p.edges), sl_Int_u8 (d.g.nodes), sl_Ar3_Int (d.g.edges)] ∧ b1 < t_.next ∧ t_.get b2 = some [AV.nils, AV.nils] ∧ b2 < t_.next ∧ t_.get b3 = some [AV.nils, AV.nils] ∧ b3 < t_.next ∧ t_.get b4 = some [AV.nils, AV.nils] ∧ b4 < t_.next ∧ t_.get b6 = some [nodesA (rx.nodes), edgesA (rx.edges)] ∧ b6 < t_.next ∧ σ0.next ≤ b6 ∧ ¬ b1 = b6 ∧ ¬ b2 = b6 ∧ ¬ b3 = b6 ∧ ¬ b4 = b6) (fun M hM => ?_) (fun fr4 τ2 hm => ?_)
  · have nb1_0 : ¬ b1 = τ.next := by omega
    have nb2_0 : ¬ b2 = τ.next := by omega
    have nb3_0 : ¬ b3 = τ.next := by omega
    have nb4_0 : ¬ b4 = τ.next := by omega
    simp [go_sem, f1, f2, f3, f4, f44, gb1, gb2, gb3, gb4, nb1_0, nb2_0, nb3_0, nb4_0]
    refine EWcall_pure (w_ref04_Made F d.nodes d.edges _ hrx) ?_
    simp [go_sem, f1, f2, f3, f4, f44, gb1, gb2, gb3, gb4, nb1_0, nb2_0, nb3_0, nb4_0]
    refine (hM _ _).2 ⟨τ.next, ?_, ?_, ?_, ?_, ?_, by intro j hj; have hj_ := hK j hj; simp [go_sem, hj_.1, hj_.2, show ¬ j = τ.next by omega], by first | omega | (simp [go_sem]; done) | (simp [go_sem]; omega), by simp (disch := omega) [get_alloc_ne, get_set_ne, get_kill_ne, go_sem, f1, f2, f3, f4, f44, gb1, gb2, gb3, gb4, nb1_0, nb2_0, nb3_0, nb4_0], by first | omega | (simp [go_sem]; done) | (simp [go_sem]; omega), by simp (disch := omega) [get_alloc_ne, get_set_ne, get_kill_ne, go_sem, f1, f2, f3, f4, f44, gb1, gb2, gb3, gb4, nb1_0, nb2_0, nb3_0, nb4_0], by first | omega | (simp [go_sem]; done) | (simp [go_sem]; omega), by simp (disch := omega) [get_alloc_ne, get_set_ne, get_kill_ne, go_sem, f1, f2, f3, f4, f44, gb1, gb2, gb3, gb4, nb1_0, nb2_0, nb3_0, nb4_0], by first | omega | (simp [go_sem]; done) | (simp [go_sem]; omega), by simp (disch := omega) [get_alloc_ne, get_set_ne, get_kill_ne, go_sem, f1, f2, f3, f4, f44, gb1, gb2, gb3, gb4, nb1_0, nb2_0, nb3_0, nb4_0], by first | omega | (simp [go_sem]; done) | (simp [go_sem]; omega), by simp (disch := omega) [get_alloc_ne, get_set_ne, get_kill_ne, go_sem, f1, f2, f3, f4, f44, gb1, gb2, gb3, gb4, nb1_0, nb2_0, nb3_0, nb4_0], by first | omega | (simp [go_sem]; done) | (simp [go_sem]; omega), by omega, by omega, by omega, by omega, by omega⟩ <;> simp [go_sem, f1, f2, f3, f4, f44, gb1, gb2, gb3, gb4, nb1_0, nb2_0, nb3_0, nb4_0]
  clear f1 f2 f3 f4 f44 hK hN gb1 ub1 gb2 ub2 gb3 ub3 gb4 ub4
  obtain ⟨b6, f1, f2, f3, f4, f6, hK, hN, gb1, ub1, gb2, ub2, gb3, ub3, gb4, ub4, gb6, ub6, wb6, eb1b6, eb2b6, eb3b6, eb4b6⟩ := hm
  refine SW.seq ?_
  -- region 4
  obtain ⟨rx1, hrx1, h⟩ := obind h
  obtain ⟨rx2, hrx2, h⟩ := obind h
  refine SW.regX (fun f_ t_ => f_ 2 = AV.ptr b2 0 ∧ f_ 3 = AV.ptr b3 0 ∧ f_ 4 = AV.ptr b4 0 ∧ f_ 5 = AV.bool (true) ∧ Kept σ0 t_ ∧ σ0.next ≤ t_.next ∧ t_.get b2 = some [nodesA (rx.nodes), edgesA (rx.edges)] ∧ b2 < t_.next ∧ t_.get b3 = some [intsA (rx1.nodes), e3sA (rx1.edges)] ∧ b3 < t_.next ∧ t_.get b4 = some [intsA (rx2.nodes), e3sA (rx2.edges)] ∧ b4 < t_.next) (fun M hM => ?_) (fun fr5 τ3 hm => ?_)
  · have nb1_b2 : ¬ b1 = b2 := by omega
    have nb1_b3 : ¬ b1 = b3 := by omega
    have nb1_b4 : ¬ b1 = b4 := by omega
    have nb1_b6 : ¬ b1 = b6 := by omega
    have nb2_b1 : ¬ b2 = b1 := by omega
    have nb2_b3 : ¬ b2 = b3 := by omega
    have nb2_b4 : ¬ b2 = b4 := by omega
    have nb2_b6 : ¬ b2 = b6 := by omega
    have nb3_b1 : ¬ b3 = b1 := by omega
    have nb3_b2 : ¬ b3 = b2 := by omega
    have nb3_b4 : ¬ b3 = b4 := by omega
    have nb3_b6 : ¬ b3 = b6 := by omega
    have nb4_b1 : ¬ b4 = b1 := by omega
    have nb4_b2 : ¬ b4 = b2 := by omega
    have nb4_b3 : ¬ b4 = b3 := by omega
    have nb4_b6 : ¬ b4 = b6 := by omega
    have nb6_b1 : ¬ b6 = b1 := by omega
    have nb6_b2 : ¬ b6 = b2 := by omega
    have nb6_b3 : ¬ b6 = b3 := by omega
    have nb6_b4 : ¬ b6 = b4 := by omega
    refine EW_regionY (((τ2.kill b2).kill b3).kill b4) 13 (.q false 0 (.q false 1 (.q false 2 (.q false 3 (.q false 5 (.q false 6 (.q false 7 (.q true 4 (.q true 8 (.s 9 (.s 10 (.s 11 (.q false 12 .done))))))))))))) (by kernel_rfl) (by kernel_rfl) (sub_kill b4 (sub_kill b3 (sub_kill b2 (fun _ _ h => h)))) (fun hfin => ?_)
    have hsub : Sub (((τ2.kill b2).kill b3).kill b4) τ2 := (sub_kill b4 (sub_kill b3 (sub_kill b2 (fun _ _ h => h))))
    simp (maxDischargeDepth := 12) [go_sem, f1, f2, f3, f4, f6, gb1, gb2, gb3, gb4, gb6, nb1_b2, nb1_b3, nb1_b4, nb1_b6, nb2_b1, nb2_b3, nb2_b4, nb2_b6, nb3_b1, nb3_b2, nb3_b4, nb3_b6, nb4_b1, nb4_b2, nb4_b3, nb4_b6, nb6_b1, nb6_b2, nb6_b3, nb6_b4, sub_set, sub_killAll, hsub]
    refine EWzp_pure (w_ref17_Made F rx d.p true _ hrx1) ?_
    simp (maxDischargeDepth := 12) [go_sem, f1, f2, f3, f4, f6, gb1, gb2, gb3, gb4, gb6, nb1_b2, nb1_b3, nb1_b4, nb1_b6, nb2_b1, nb2_b3, nb2_b4, nb2_b6, nb3_b1, nb3_b2, nb3_b4, nb3_b6, nb4_b1, nb4_b2, nb4_b3, nb4_b6, nb6_b1, nb6_b2, nb6_b3, nb6_b4, sub_set, sub_killAll, hsub]
    refine EWzp_pure (w_ref17_Made F rx d.g false _ hrx2) ?_
    simp (maxDischargeDepth := 12) [go_sem, f1, f2, f3, f4, f6, gb1, gb2, gb3, gb4, gb6, nb1_b2, nb1_b3, nb1_b4, nb1_b6, nb2_b1, nb2_b3, nb2_b4, nb2_b6, nb3_b1, nb3_b2, nb3_b4, nb3_b6, nb4_b1, nb4_b2, nb4_b3, nb4_b6, nb6_b1, nb6_b2, nb6_b3, nb6_b4, sub_set, sub_killAll, hsub]
    refine (hM _ _).2 ⟨?_, ?_, ?_, ?_, by intro j hj; have hj_ := hK j hj; simp [go_sem, hj_.1, hj_.2, show ¬ j = b2 by omega, show ¬ j = b3 by omega, show ¬ j = b4 by omega], by first | omega | (simp [go_sem]; done) | (simp [go_sem]; omega), by simp (disch := omega) [get_alloc_ne, get_set_ne, get_kill_ne, go_sem, f1, f2, f3, f4, f6, gb1, gb2, gb3, gb4, gb6, nb1_b2, nb1_b3, nb1_b4, nb1_b6, nb2_b1, nb2_b3, nb2_b4, nb2_b6, nb3_b1, nb3_b2, nb3_b4, nb3_b6, nb4_b1, nb4_b2, nb4_b3, nb4_b6, nb6_b1, nb6_b2, nb6_b3, nb6_b4, sub_set, sub_killAll, hsub], by first | omega | (simp [go_sem]; done) | (simp [go_sem]; omega), by simp (disch := omega) [get_alloc_ne, get_set_ne, get_kill_ne, go_sem, f1, f2, f3, f4, f6, gb1, gb2, gb3, gb4, gb6, nb1_b2, nb1_b3, nb1_b4, nb1_b6, nb2_b1, nb2_b3, nb2_b4, nb2_b6, nb3_b1, nb3_b2, nb3_b4, nb3_b6, nb4_b1, nb4_b2, nb4_b3, nb4_b6, nb6_b1, nb6_b2, nb6_b3, nb6_b4, sub_set, sub_killAll, hsub], by first | omega | (simp [go_sem]; done) | (simp [go_sem]; omega), by simp (disch := omega) [get_alloc_ne, get_set_ne, get_kill_ne, go_sem, f1, f2, f3, f4, f6, gb1, gb2, gb3, gb4, gb6, nb1_b2, nb1_b3, nb1_b4, nb1_b6, nb2_b1, nb2_b3, nb2_b4, nb2_b6, nb3_b1, nb3_b2, nb3_b4, nb3_b6, nb4_b1, nb4_b2, nb4_b3, nb4_b6, nb6_b1, nb6_b2, nb6_b3, nb6_b4, sub_set, sub_killAll, hsub], by first | omega | (simp [go_sem]; done) | (simp [go_sem]; omega)⟩ <;> simp [go_sem, f1, f2, f3, f4, f6, gb1, gb2, gb3, gb4, gb6, nb1_b2, nb1_b3, nb1_b4, nb1_b6, nb2_b1, nb2_b3, nb2_b4, nb2_b6, nb3_b1, nb3_b2, nb3_b4, nb3_b6, nb4_b1, nb4_b2, nb4_b3, nb4_b6, nb6_b1, nb6_b2, nb6_b3, nb6_b4, sub_set, sub_killAll, hsub]
  clear f1 f2 f3 f4 f6 hK hN gb1 ub1 gb2 ub2 gb3 ub3 gb4 ub4 gb6 ub6
  obtain ⟨f2, f3, f4, f5, hK, hN, gb2, ub2, gb3, ub3, gb4, ub4⟩ := hm
  obtain rfl := Option.some.inj h
  exact SW.ret ⟨AV.tup [AV.agg [nodesA (rx.nodes), edgesA (rx.edges)], AV.agg [intsA (rx1.nodes), e3sA (rx1.edges)], AV.agg [intsA (rx2.nodes), e3sA (rx2.edges)], AV.bool (true)], by simp [go_sem, f2, f3, f4, f5, gb2, gb3, gb4], frz_tupL (frzL_c (frz_aggL (frzL_c ((DataA.imm (DataL.flatMap gd_nodeC rx.nodes)) _ _) (frzL_c ((DataA.imm (DataL.flatMap gd_edgeC rx.edges)) _ _) (frzL_n)))) (frzL_c (frz_aggL (frzL_c ((DataA.imm (DataL.map (fun _ => .lit _) rx1.nodes)) _ _) (frzL_c ((DataA.imm (DataL.flatMap gd_e3C rx1.edges)) _ _) (frzL_n)))) (frzL_c (frz_aggL (frzL_c ((DataA.imm (DataL.map (fun _ => .lit _) rx2.nodes)) _ _) (frzL_c ((DataA.imm (DataL.flatMap gd_e3C rx2.edges)) _ _) (frzL_n)))) (frzL_c (.lit _) (frzL_n))))), hK.keeps⟩
set_option maxHeartbeats 4000000 in
theorem w_ref04_Example (r : (Types)) (h : s_ref04_Example = some r) : PureA Try.prog 13 [] (AV.agg [nodesA (r.nodes), edgesA (r.edges)]) := by
  refine pureA_of_SW (N := 15) Try.func13 (by kernel_rfl) rfl (by rw [Try.ntmps13]; rfl) (fun σ0 => ?_)
  rw [Try.results13]
  obtain ⟨fr0, hfr⟩ : ∃ fr, fr = initFr [] := ⟨_, rfl⟩
  rw [← hfr]
  clear hfr
  simp only [s_ref04_Example] at h
  refine SW.seq ?_
  -- region 0
  refine SW.regX (fun f_ t_ => ∃ b0 : Nat, f_ 0 = AV.ptr b0 0 ∧ Kept σ0 t_ ∧ σ0.next ≤ t_.next ∧ t_.get b0 = some [AV.nils, AV.nils] ∧ b0 < t_.next ∧ σ0.next ≤ b0) (fun M hM => ?_) (fun fr1 τ hm => ?_)
  · simp [go_sem]
    refine (hM _ _).2 ⟨σ0.next, ?_, by intro j hj; simp [go_sem, show ¬ j = σ0.next by omega], by first | omega | (simp [go_sem]; done) | (simp [go_sem]; omega), by simp (disch := omega) [get_alloc_ne, get_set_ne, get_kill_ne, go_sem], by first | omega | (simp [go_sem]; done) | (simp [go_sem]; omega), by omega⟩ <;> simp [go_sem]
  obtain ⟨b0, f0, hK, hN, gb0, ub0, wb0⟩ := hm
  refine SW.seq ?_
  -- region 1
  refine SW.regX (fun f_ t_ => ∃ l : Nat, ∃ l1 : Nat, ∃ l2 : Nat, ∃ l3 : Nat, ∃ v : AV, f_ 0 = AV.ptr b0 0 ∧ Kept σ0 t_ ∧ σ0.next ≤ t_.next ∧ t_.get b0 = some [AV.arr l3 0 4 4, v] ∧ b0 < t_.next ∧ t_.get l = some [AV.str (([98, 97, 108, 97, 110, 99, 101] : List UInt8)), AV.int (-1000), AV.int (1000), AV.nils] ∧ l < t_.next ∧ t_.get l1 = some [AV.str (([111, 112, 101, 110] : List UInt8)), AV.str (([99, 108, 111, 115, 101, 100] : List UInt8))] ∧ l1 < t_.next ∧ t_.get l2 = some [AV.str (([115, 116, 97, 116, 101] : List UInt8)), AV.int (0), AV.int (1), AV.arr l1 0 2 1] ∧ l2 < t_.next ∧ t_.get l3 = some [AV.str (([65, 99, 99, 111, 117, 110, 116] : List UInt8)), AV.int (-1), AV.bool (true), AV.arr l 0 1 4, AV.str (([67, 97, 115, 104] : List UInt8)), AV.int (0), AV.bool (false), AV.nils, AV.str (([76, 111, 97, 110] : List UInt8)), AV.int (0), AV.bool (false), AV.arr l2 0 1 4, AV.str (([80, 101, 114, 115, 111, 110] : List UInt8)), AV.int (-1), AV.bool (false), AV.nils] ∧ l3 < t_.next ∧ ArrAt σ0.next t_ v 73 ((([(⟨([111, 119, 110, 115] : List UInt8), 3, 0, 0, -1, 1, 1⟩ : EdgeT), (⟨([112, 97, 121, 115] : List UInt8), 1, 1, 0, -1, 0, -1⟩ : EdgeT)] : List EdgeT)).flatMap edgeC) (([(⟨([111, 119, 110, 115] : List UInt8), 3, 0, 0, -1, 1, 1⟩ : EdgeT), (⟨([112, 97, 121, 115] : List UInt8), 1, 1, 0, -1, 0, -1⟩ : EdgeT)] : List EdgeT)).length 7 ∧ (∀ i, idOf v = some i → ¬ i = b0) ∧ σ0.next ≤ l ∧ ¬ b0 = l ∧ (∀ i, idOf v = some i → ¬ i = l) ∧ σ0.next ≤ l1 ∧ ¬ b0 = l1 ∧ ¬ l = l1 ∧ (∀ i, idOf v = some i → ¬ i = l1) ∧ σ0.next ≤ l2 ∧ ¬ b0 = l2 ∧ ¬ l = l2 ∧ ¬ l1 = l2 ∧ (∀ i, idOf v = some i → ¬ i = l2) ∧ σ0.next ≤ l3 ∧ ¬ b0 = l3 ∧ ¬ l = l3 ∧ ¬ l1 = l3 ∧ ¬ l2 = l3 ∧ (∀ i, idOf v = some i → ¬ i = l3)) (fun M hM => ?_) (fun fr2 τ1 hm => ?_)
  · have nb0_0 : ¬ b0 = τ.next := by omega
    have nb0_1 : ¬ b0 = τ.next + 1 := by omega
    have nb0_2 : ¬ b0 = τ.next + 2 := by omega
    have nb0_3 : ¬ b0 = τ.next + 3 := by omega
    have nb0_4 : ¬ b0 = τ.next + 4 := by omega
    simp [go_sem, f0, gb0, nb0_0, nb0_1, nb0_2, nb0_3, nb0_4]
    refine (hM _ _).2 ⟨τ.next, (τ.next + 1), (τ.next + 2), (τ.next + 3), AV.arr (τ.next + 4) 0 (([(⟨([111, 119, 110, 115] : List UInt8), 3, 0, 0, -1, 1, 1⟩ : EdgeT), (⟨([112, 97, 121, 115] : List UInt8), 1, 1, 0, -1, 0, -1⟩ : EdgeT)] : List EdgeT)).length 7, ?_, by intro j hj; have hj_ := hK j hj; simp [go_sem, hj_.1, hj_.2, show ¬ j = τ.next by omega, show ¬ j = τ.next + 1 by omega, show ¬ j = τ.next + 2 by omega, show ¬ j = τ.next + 3 by omega, show ¬ j = τ.next + 4 by omega, show ¬ j = b0 by omega], by first | omega | (simp [go_sem]; done) | (simp [go_sem]; omega), by simp (disch := omega) [get_alloc_ne, get_set_ne, get_kill_ne, go_sem, f0, gb0, nb0_0, nb0_1, nb0_2, nb0_3, nb0_4], by first | omega | (simp [go_sem]; done) | (simp [go_sem]; omega), by simp (disch := omega) [get_alloc_ne, get_set_ne, get_kill_ne, go_sem, f0, gb0, nb0_0, nb0_1, nb0_2, nb0_3, nb0_4], by first | omega | (simp [go_sem]; done) | (simp [go_sem]; omega), by simp (disch := omega) [get_alloc_ne, get_set_ne, get_kill_ne, go_sem, f0, gb0, nb0_0, nb0_1, nb0_2, nb0_3, nb0_4], by first | omega | (simp [go_sem]; done) | (simp [go_sem]; omega), by simp (disch := omega) [get_alloc_ne, get_set_ne, get_kill_ne, go_sem, f0, gb0, nb0_0, nb0_1, nb0_2, nb0_3, nb0_4], by first | omega | (simp [go_sem]; done) | (simp [go_sem]; omega), by simp (disch := omega) [get_alloc_ne, get_set_ne, get_kill_ne, go_sem, f0, gb0, nb0_0, nb0_1, nb0_2, nb0_3, nb0_4], by first | omega | (simp [go_sem]; done) | (simp [go_sem]; omega), .inr ⟨(τ.next + 4), rfl, by simp (disch := omega) [get_alloc_ne, get_set_ne, get_kill_ne, go_sem, f0, gb0, nb0_0, nb0_1, nb0_2, nb0_3, nb0_4, edgeC], by simp [go_sem, f0, gb0, nb0_0, nb0_1, nb0_2, nb0_3, nb0_4], by omega, by first | (simp [go_sem]; done) | (simp [go_sem]; omega)⟩, by intro i hi; first | (simp [idOf] at hi; done) | (simp [idOf] at hi; omega), by omega, by omega, by intro i hi; first | (simp [idOf] at hi; done) | (simp [idOf] at hi; omega), by omega, by omega, by omega, by intro i hi; first | (simp [idOf] at hi; done) | (simp [idOf] at hi; omega), by omega, by omega, by omega, by omega, by intro i hi; first | (simp [idOf] at hi; done) | (simp [idOf] at hi; omega), by omega, by omega, by omega, by omega, by omega, by intro i hi; first | (simp [idOf] at hi; done) | (simp [idOf] at hi; omega)⟩ <;> simp [go_sem, f0, gb0, nb0_0, nb0_1, nb0_2, nb0_3, nb0_4]
  clear f0 hK hN gb0 ub0
  obtain ⟨l, l1, l2, l3, v, f0, hK, hN, gb0, ub0, gl, ul, gl1, ul1, gl2, ul2, gl3, ul3, av, evb0, wl, eb0l, evl, wl1, eb0l1, ell1, evl1, wl2, eb0l2, ell2, el1l2, evl2, wl3, eb0l3, ell3, el1l3, el2l3, evl3⟩ := hm
  obtain rfl := Option.some.inj h
  exact SW.ret ⟨AV.agg [AV.arr l3 0 4 4, v], by simp [go_sem, f0, gb0, gl, gl1, gl2, gl3], frz_aggL (frzL_c (frz_arrL wl3 gl3 (frzL_c (.lit _) (frzL_c (.lit _) (frzL_c (.lit _) (frzL_c (frz_arrL wl gl (frzL_c (.lit _) (frzL_c (.lit _) (frzL_c (.lit _) (frzL_c (.nils) (frzL_n)))))) (frzL_c (.lit _) (frzL_c (.lit _) (frzL_c (.lit _) (frzL_c (.nils) (frzL_c (.lit _) (frzL_c (.lit _) (frzL_c (.lit _) (frzL_c (frz_arrL wl2 gl2 (frzL_c (.lit _) (frzL_c (.lit _) (frzL_c (.lit _) (frzL_c (frz_arrL wl1 gl1 (frzL_c (.lit _) (frzL_c (.lit _) (frzL_n)))) (frzL_n)))))) (frzL_c (.lit _) (frzL_c (.lit _) (frzL_c (.lit _) (frzL_c (.nils) (frzL_n)))))))))))))))))) (frzL_c (av.frz (DataL.flatMap gd_edgeC (([(⟨([111, 119, 110, 115] : List UInt8), 3, 0, 0, -1, 1, 1⟩ : EdgeT), (⟨([112, 97, 121, 115] : List UInt8), 1, 1, 0, -1, 0, -1⟩ : EdgeT)] : List EdgeT)))) (frzL_n))), hK.keeps⟩
def O_law17_bank (r : (Graph)) (n : Nat) (x : AV) (τ : Mem) : Prop := ∃ v0_ v1_ : AV, x = AV.agg [v0_, v1_] ∧ ArrAt n τ v0_ 3 (r.nodes.map AV.int) r.nodes.length 1 ∧ ArrAt n τ v1_ 65 (r.edges.flatMap e3C) r.edges.length 3 ∧ Apart v0_ v1_
set_option maxHeartbeats 4000000 in
theorem o_law17_bank (r : (Graph)) (h : s_law17_bank = some r) (σ0 : Mem) : CallA Try.prog 14 [] σ0 (fun x τ => O_law17_bank r σ0.next x τ ∧ Kept σ0 τ ∧ σ0.next ≤ τ.next) := by
  refine callA_of_SW (N := 6) Try.func14 (by kernel_rfl) rfl (by rw [Try.ntmps14]; rfl) ?_
  rw [Try.results14]
  obtain ⟨fr0, hfr⟩ : ∃ fr, fr = initFr [] := ⟨_, rfl⟩
  rw [← hfr]
  clear hfr
  simp only [s_law17_bank] at h
  refine SW.seq ?_
  -- region 0
  refine SW.regX (fun f_ t_ => ∃ b0 : Nat, f_ 0 = AV.ptr b0 0 ∧ Kept σ0 t_ ∧ σ0.next ≤ t_.next ∧ t_.get b0 = some [AV.nils, AV.nils] ∧ b0 < t_.next ∧ σ0.next ≤ b0) (fun M hM => ?_) (fun fr1 τ hm => ?_)
  · simp [go_sem]
    refine (hM _ _).2 ⟨σ0.next, ?_, by intro j hj; simp [go_sem, show ¬ j = σ0.next by omega], by first | omega | (simp [go_sem]; done) | (simp [go_sem]; omega), by simp (disch := omega) [get_alloc_ne, get_set_ne, get_kill_ne, go_sem], by first | omega | (simp [go_sem]; done) | (simp [go_sem]; omega), by omega⟩ <;> simp [go_sem]
  obtain ⟨b0, f0, hK, hN, gb0, ub0, wb0⟩ := hm
  refine SW.seq ?_
  -- region 1
  refine SW.regX (fun f_ t_ => ∃ v : AV, ∃ v1 : AV, f_ 0 = AV.ptr b0 0 ∧ Kept σ0 t_ ∧ σ0.next ≤ t_.next ∧ t_.get b0 = some [v, v1] ∧ b0 < t_.next ∧ ArrAt σ0.next t_ v 3 ((([3, 1, 1] : List Int)).map AV.int) (([3, 1, 1] : List Int)).length 1 ∧ ArrAt σ0.next t_ v1 65 ((([(⟨0, 0, 1⟩ : E3), (⟨0, 0, 2⟩ : E3)] : List E3)).flatMap e3C) (([(⟨0, 0, 1⟩ : E3), (⟨0, 0, 2⟩ : E3)] : List E3)).length 3 ∧ (∀ i, idOf v = some i → ¬ i = b0) ∧ (∀ i, idOf v1 = some i → ¬ i = b0) ∧ Apart v v1) (fun M hM => ?_) (fun fr2 τ1 hm => ?_)
  · have nb0_0 : ¬ b0 = τ.next := by omega
    have nb0_1 : ¬ b0 = τ.next + 1 := by omega
    simp [go_sem, f0, gb0, nb0_0, nb0_1]
    refine (hM _ _).2 ⟨AV.arr τ.next 0 (([3, 1, 1] : List Int)).length 1, AV.arr (τ.next + 1) 0 (([(⟨0, 0, 1⟩ : E3), (⟨0, 0, 2⟩ : E3)] : List E3)).length 3, ?_, by intro j hj; have hj_ := hK j hj; simp [go_sem, hj_.1, hj_.2, show ¬ j = τ.next by omega, show ¬ j = τ.next + 1 by omega, show ¬ j = b0 by omega], by first | omega | (simp [go_sem]; done) | (simp [go_sem]; omega), by simp (disch := omega) [get_alloc_ne, get_set_ne, get_kill_ne, go_sem, f0, gb0, nb0_0, nb0_1], by first | omega | (simp [go_sem]; done) | (simp [go_sem]; omega), .inr ⟨τ.next, rfl, by simp (disch := omega) [get_alloc_ne, get_set_ne, get_kill_ne, go_sem, f0, gb0, nb0_0, nb0_1], by simp [go_sem, f0, gb0, nb0_0, nb0_1], by omega, by first | (simp [go_sem]; done) | (simp [go_sem]; omega)⟩, .inr ⟨(τ.next + 1), rfl, by simp (disch := omega) [get_alloc_ne, get_set_ne, get_kill_ne, go_sem, f0, gb0, nb0_0, nb0_1, e3C], by simp [go_sem, f0, gb0, nb0_0, nb0_1], by omega, by first | (simp [go_sem]; done) | (simp [go_sem]; omega)⟩, by intro i hi; first | (simp [idOf] at hi; done) | (simp [idOf] at hi; omega), by intro i hi; first | (simp [idOf] at hi; done) | (simp [idOf] at hi; omega), by first | exact evv1 | exact apart_symm ev1v | (intro i h1 h2; simp [idOf] at h1; done) | (intro i h1 h2; simp [idOf] at h2; done) | (intro i h1 h2; simp [idOf] at h1; simp [idOf] at h2; omega)⟩ <;> simp [go_sem, f0, gb0, nb0_0, nb0_1]
  clear f0 hK hN gb0 ub0
  obtain ⟨v, v1, f0, hK, hN, gb0, ub0, av, av1, evb0, ev1b0, evv1⟩ := hm
  obtain rfl := Option.some.inj h
  exact SW.ret ⟨AV.agg [v, v1], by simp [go_sem, f0, gb0], ⟨v, v1, rfl, av, av1, (by first | exact evv1 | exact fun i h h' => ev1v i h' h)⟩, hK, hN⟩
theorem w_law17_bank (r : (Graph)) (h : s_law17_bank = some r) : PureA Try.prog 14 [] (AV.agg [intsA (r.nodes), e3sA (r.edges)]) := pureA_of_own' (O := O_law17_bank r) (fun σ0 => o_law17_bank r h σ0) (by rintro n x τ ⟨v0_, v1_, hx, av0_, av1_, ev0_v1_⟩; rw [hx]; exact frz_aggL (frzL_c (av0_.frz (DataL.map (fun _ => .lit _) r.nodes)) (frzL_c (av1_.frz (DataL.flatMap gd_e3C r.edges)) (frzL_n))))
end Go.Proofs.Ytdacgjleiloooaa
