/-
  Plain functions and the walks that lead to them, by a program of ours (gen.py): scarfjoint/scarfjointref17.Extend, scarfjoint/scarfjointlaw17.SearchExtend.
-/
import Derived.Test.YtdacgjleiloooaaGreatGd
import Derived.Test.YtdacgjleiloooaaGreatGT
import Derived.Test.YtdacgjleiloooaaGreatB3
import Derived.Test.YtdacgjleiloooaaGreatGa11
import Derived.Test.YtdacgjleiloooaaGreatGa15
import Derived.Test.YtdacgjleiloooaaGreatGa14
import Derived.Test.YtdacgjleiloooaaGreatGa5
import Derived.Test.YtdacgjleiloooaaGreatGa4
set_option linter.unusedSimpArgs false
set_option linter.unusedVariables false
namespace Go.Proofs.YtdacgjleiloooaaGreat
open Go Go.Ew Go.Proofs Go.RowKit
set_option maxRecDepth 100000
set_option maxHeartbeats 4000000 in
theorem w_ref17_Extend (F : Nat) (t : Types) (o : Graph) (A : Graph) (rx : Morph) (rx1 : Bool) (r : ((List Morph) × Int)) (h : s_ref17_Extend F t o A rx rx1 = some r) : PureA Tryz.prog 19 [AV.agg [nodesA (t.nodes), edgesA (t.edges)], AV.agg [intsA (o.nodes), e3sA (o.edges)], AV.agg [intsA (A.nodes), e3sA (A.edges)], AV.agg [intsA (rx.nodes), intsA (rx.edges)], AV.bool (rx1)] (AV.tup [morphsA (r.1), AV.int (r.2)]) := by
  refine pureA_of_SW (N := 73) Tryz.func19 (by kernel_rfl) rfl (by rw [Tryz.ntmps19]; rfl) (fun σ0 => ?_)
  rw [Tryz.results19]
  obtain ⟨fr0, hfr⟩ : ∃ fr, fr = initFr [AV.agg [nodesA (t.nodes), edgesA (t.edges)], AV.agg [intsA (o.nodes), e3sA (o.edges)], AV.agg [intsA (A.nodes), e3sA (A.edges)], AV.agg [intsA (rx.nodes), intsA (rx.edges)], AV.bool (rx1)] := ⟨_, rfl⟩
  rw [← hfr]
  have f0 : fr0 0 = AV.agg [nodesA (t.nodes), edgesA (t.edges)] := by rw [hfr]; rfl
  have f1 : fr0 1 = AV.agg [intsA (o.nodes), e3sA (o.edges)] := by rw [hfr]; rfl
  have f2 : fr0 2 = AV.agg [intsA (A.nodes), e3sA (A.edges)] := by rw [hfr]; rfl
  have f3 : fr0 3 = AV.agg [intsA (rx.nodes), intsA (rx.edges)] := by rw [hfr]; rfl
  have f4 : fr0 4 = AV.bool (rx1) := by rw [hfr]; rfl
  clear hfr
  simp only [s_ref17_Extend] at h
  refine SW.seq ?_
  -- region 0
  refine SW.regX (fun f_ t_ => ∃ b5 : Nat, ∃ b6 : Nat, ∃ b7 : Nat, ∃ b8 : Nat, f_ 4 = AV.bool (rx1) ∧ f_ 5 = AV.ptr b5 0 ∧ f_ 6 = AV.ptr b6 0 ∧ f_ 7 = AV.ptr b7 0 ∧ f_ 8 = AV.ptr b8 0 ∧ Kept σ0 t_ ∧ σ0.next ≤ t_.next ∧ t_.get b5 = some [nodesA (t.nodes), edgesA (t.edges)] ∧ b5 < t_.next ∧ t_.get b6 = some [intsA (o.nodes), e3sA (o.edges)] ∧ b6 < t_.next ∧ t_.get b7 = some [intsA (A.nodes), e3sA (A.edges)] ∧ b7 < t_.next ∧ t_.get b8 = some [intsA (rx.nodes), intsA (rx.edges)] ∧ b8 < t_.next ∧ σ0.next ≤ b5 ∧ σ0.next ≤ b6 ∧ ¬ b5 = b6 ∧ σ0.next ≤ b7 ∧ ¬ b5 = b7 ∧ ¬ b6 = b7 ∧ σ0.next ≤ b8 ∧ ¬ b5 = b8 ∧ ¬ b6 = b8 ∧ ¬ b7 = b8) (fun M hM => ?_) (fun fr1 τ hm => ?_)
  · simp [go_sem, f0, f1, f2, f3, f4]
    refine (hM _ _).2 ⟨σ0.next, (σ0.next + 1), (σ0.next + 2), (σ0.next + 3), ?_, ?_, ?_, ?_, ?_, by intro j hj; simp [go_sem, show ¬ j = σ0.next by omega, show ¬ j = σ0.next + 1 by omega, show ¬ j = σ0.next + 2 by omega, show ¬ j = σ0.next + 3 by omega], by first | omega | (simp [go_sem]; done) | (simp [go_sem]; omega), by simp (disch := omega) [get_alloc_ne, get_set_ne, get_kill_ne, go_sem, f0, f1, f2, f3, f4], by first | omega | (simp [go_sem]; done) | (simp [go_sem]; omega), by simp (disch := omega) [get_alloc_ne, get_set_ne, get_kill_ne, go_sem, f0, f1, f2, f3, f4], by first | omega | (simp [go_sem]; done) | (simp [go_sem]; omega), by simp (disch := omega) [get_alloc_ne, get_set_ne, get_kill_ne, go_sem, f0, f1, f2, f3, f4], by first | omega | (simp [go_sem]; done) | (simp [go_sem]; omega), by simp (disch := omega) [get_alloc_ne, get_set_ne, get_kill_ne, go_sem, f0, f1, f2, f3, f4], by first | omega | (simp [go_sem]; done) | (simp [go_sem]; omega), by omega, by omega, by omega, by omega, by omega, by omega, by omega, by omega, by omega, by omega⟩ <;> simp [go_sem, f0, f1, f2, f3, f4]
  clear f0 f1 f2 f3 f4
  obtain ⟨b5, b6, b7, b8, f4, f5, f6, f7, f8, hK, hN, gb5, ub5, gb6, ub6, gb7, ub7, gb8, ub8, wb5, wb6, eb5b6, wb7, eb5b7, eb6b7, wb8, eb5b8, eb6b8, eb7b8⟩ := hm
  refine SW.seq ?_
  refine SW.seq ?_
  -- region 1
  obtain ⟨n, hn, h⟩ := obind h
  refine SW.regX (fun f_ t_ => τ = t_ ∧ f_ 4 = AV.bool (rx1) ∧ f_ 5 = AV.ptr b5 0 ∧ f_ 6 = AV.ptr b6 0 ∧ f_ 7 = AV.ptr b7 0 ∧ f_ 8 = AV.ptr b8 0 ∧ f_ 12 = AV.int (n)) (fun M hM => ?_) (fun fr2 τz hm => ?_)
  · simp [go_sem, f4, f5, f6, f7, f8, gb5, gb6, gb7, gb8]
    refine EWcall_pure (w_ref17_given F t o A _ hn) ?_
    simp [go_sem, f4, f5, f6, f7, f8, gb5, gb6, gb7, gb8]
    refine (hM _ _).2 ⟨rfl, ?_, ?_, ?_, ?_, ?_, ?_⟩ <;> simp [go_sem, f4, f5, f6, f7, f8, gb5, gb6, gb7, gb8]
  clear f4 f5 f6 f7 f8
  obtain ⟨rfl, f4, f5, f6, f7, f8, f12⟩ := hm
  refine SW.seq ?_
  -- region 2
  refine SW.regX (fun f_ t_ => τ = t_ ∧ f_ 4 = AV.bool (rx1) ∧ f_ 5 = AV.ptr b5 0 ∧ f_ 6 = AV.ptr b6 0 ∧ f_ 7 = AV.ptr b7 0 ∧ f_ 8 = AV.ptr b8 0 ∧ f_ 12 = AV.int (n) ∧ f_ 21 = AV.bool ((!decide (n = 0)))) (fun M hM => ?_) (fun fr3 τz1 hm => ?_)
  · simp [go_sem, f12, f4, f5, f6, f7, f8, gb5, gb6, gb7, gb8]
    refine (hM _ _).2 ⟨rfl, ?_, ?_, ?_, ?_, ?_, ?_, ?_⟩ <;> simp [go_sem, f12, f4, f5, f6, f7, f8, gb5, gb6, gb7, gb8]
  clear f12 f4 f5 f6 f7 f8
  obtain ⟨rfl, f4, f5, f6, f7, f8, f12, f21⟩ := hm
  refine SW.cond _ f21 (fun hx => ?_) (fun hx => ?_)
  · have h := condT h hx
    refine SW.seq ?_
    -- region 3
    refine SW.regX (fun f_ t_ => τ = t_ ∧ f_ 10 = AV.nils ∧ f_ 11 = AV.int (n)) (fun M hM => ?_) (fun fr4 τz2 hm => ?_)
    · simp [go_sem, f12, f21, f4, f5, f6, f7, f8, gb5, gb6, gb7, gb8]
      refine (hM _ _).2 ⟨rfl, ?_, ?_⟩ <;> simp [go_sem, f12, f21, f4, f5, f6, f7, f8, gb5, gb6, gb7, gb8]
    clear f12 f21 f4 f5 f6 f7 f8
    obtain ⟨rfl, f10, f11⟩ := hm
    obtain rfl := Option.some.inj h
    exact SW.ret ⟨AV.tup [AV.nils, AV.int (n)], by simp [go_sem, f10, f11], frz_tupL (frzL_c (.nils) (frzL_c (.lit _) (frzL_n))), hK.keeps⟩
  have h := condF h hx
  refine SW.skip ?_
  refine SW.seq ?_
  refine SW.seq ?_
  -- region 4
  refine SW.regX (fun f_ t_ => τ = t_ ∧ f_ 4 = AV.bool (rx1) ∧ f_ 5 = AV.ptr b5 0 ∧ f_ 6 = AV.ptr b6 0 ∧ f_ 7 = AV.ptr b7 0 ∧ f_ 8 = AV.ptr b8 0 ∧ f_ 38 = AV.bool ((((!decide (rx.nodes.length = o.nodes.length))) || ((!decide (rx.edges.length = o.edges.length)))))) (fun M hM => ?_) (fun fr5 τz3 hm => ?_)
  · rcases Bool.eq_false_or_eq_true ((!decide (rx.nodes.length = o.nodes.length))) with y0 | y0
    · have y0' := y0
      try simp at y0'
      simp [go_sem, f12, f21, f4, f5, f6, f7, f8, gb5, gb6, gb7, gb8, y0, y0']
      refine (hM _ _).2 ⟨rfl, ?_, ?_, ?_, ?_, ?_, ?_⟩ <;> simp [go_sem, f12, f21, f4, f5, f6, f7, f8, gb5, gb6, gb7, gb8, y0, y0']
    · have y0' := y0
      try simp at y0'
      simp [go_sem, f12, f21, f4, f5, f6, f7, f8, gb5, gb6, gb7, gb8, y0, y0']
      refine (hM _ _).2 ⟨rfl, ?_, ?_, ?_, ?_, ?_, ?_⟩ <;> simp [go_sem, f12, f21, f4, f5, f6, f7, f8, gb5, gb6, gb7, gb8, y0, y0']
  clear f12 f21 f4 f5 f6 f7 f8
  obtain ⟨rfl, f4, f5, f6, f7, f8, f38⟩ := hm
  refine SW.cond _ f38 (fun hx1 => ?_) (fun hx1 => ?_)
  · have h := condT h hx1
    refine SW.seq ?_
    -- region 5
    refine SW.regX (fun f_ t_ => τ = t_ ∧ f_ 10 = AV.nils ∧ f_ 11 = AV.int (20)) (fun M hM => ?_) (fun fr6 τz4 hm => ?_)
    · simp [go_sem, f38, f4, f5, f6, f7, f8, gb5, gb6, gb7, gb8]
      refine (hM _ _).2 ⟨rfl, ?_, ?_⟩ <;> simp [go_sem, f38, f4, f5, f6, f7, f8, gb5, gb6, gb7, gb8]
    clear f38 f4 f5 f6 f7 f8
    obtain ⟨rfl, f10, f11⟩ := hm
    obtain rfl := Option.some.inj h
    exact SW.ret ⟨AV.tup [AV.nils, AV.int (20)], by simp [go_sem, f10, f11], frz_tupL (frzL_c (.nils) (frzL_c (.lit _) (frzL_n))), hK.keeps⟩
  have h := condF h hx1
  refine SW.skip ?_
  refine SW.seq ?_
  refine SW.seq ?_
  -- region 6
  obtain ⟨n1, hn1, h⟩ := obind h
  refine SW.regX (fun f_ t_ => τ = t_ ∧ f_ 4 = AV.bool (rx1) ∧ f_ 5 = AV.ptr b5 0 ∧ f_ 6 = AV.ptr b6 0 ∧ f_ 7 = AV.ptr b7 0 ∧ f_ 8 = AV.ptr b8 0 ∧ f_ 13 = AV.int (n1)) (fun M hM => ?_) (fun fr7 τz5 hm => ?_)
  · simp [go_sem, f38, f4, f5, f6, f7, f8, gb5, gb6, gb7, gb8]
    refine EWcall_pure (w_ref17_partly rx.nodes ((o.nodes.length : Nat) : Int) ((A.nodes.length : Nat) : Int) _ hn1) ?_
    simp [go_sem, f38, f4, f5, f6, f7, f8, gb5, gb6, gb7, gb8]
    refine (hM _ _).2 ⟨rfl, ?_, ?_, ?_, ?_, ?_, ?_⟩ <;> simp [go_sem, f38, f4, f5, f6, f7, f8, gb5, gb6, gb7, gb8]
  clear f38 f4 f5 f6 f7 f8
  obtain ⟨rfl, f4, f5, f6, f7, f8, f13⟩ := hm
  refine SW.seq ?_
  -- region 7
  refine SW.regX (fun f_ t_ => τ = t_ ∧ f_ 4 = AV.bool (rx1) ∧ f_ 5 = AV.ptr b5 0 ∧ f_ 6 = AV.ptr b6 0 ∧ f_ 7 = AV.ptr b7 0 ∧ f_ 8 = AV.ptr b8 0 ∧ f_ 13 = AV.int (n1) ∧ f_ 49 = AV.bool ((!decide (n1 = 0)))) (fun M hM => ?_) (fun fr8 τz6 hm => ?_)
  · simp [go_sem, f13, f4, f5, f6, f7, f8, gb5, gb6, gb7, gb8]
    refine (hM _ _).2 ⟨rfl, ?_, ?_, ?_, ?_, ?_, ?_, ?_⟩ <;> simp [go_sem, f13, f4, f5, f6, f7, f8, gb5, gb6, gb7, gb8]
  clear f13 f4 f5 f6 f7 f8
  obtain ⟨rfl, f4, f5, f6, f7, f8, f13, f49⟩ := hm
  refine SW.cond _ f49 (fun hx2 => ?_) (fun hx2 => ?_)
  · have h := condT h hx2
    refine SW.seq ?_
    -- region 8
    refine SW.regX (fun f_ t_ => τ = t_ ∧ f_ 10 = AV.nils ∧ f_ 11 = AV.int (n1)) (fun M hM => ?_) (fun fr9 τz7 hm => ?_)
    · simp [go_sem, f13, f4, f49, f5, f6, f7, f8, gb5, gb6, gb7, gb8]
      refine (hM _ _).2 ⟨rfl, ?_, ?_⟩ <;> simp [go_sem, f13, f4, f49, f5, f6, f7, f8, gb5, gb6, gb7, gb8]
    clear f13 f4 f49 f5 f6 f7 f8
    obtain ⟨rfl, f10, f11⟩ := hm
    obtain rfl := Option.some.inj h
    exact SW.ret ⟨AV.tup [AV.nils, AV.int (n1)], by simp [go_sem, f10, f11], frz_tupL (frzL_c (.nils) (frzL_c (.lit _) (frzL_n))), hK.keeps⟩
  have h := condF h hx2
  refine SW.skip ?_
  refine SW.seq ?_
  refine SW.seq ?_
  -- region 9
  obtain ⟨n2, hn2, h⟩ := obind h
  refine SW.regX (fun f_ t_ => τ = t_ ∧ f_ 4 = AV.bool (rx1) ∧ f_ 5 = AV.ptr b5 0 ∧ f_ 6 = AV.ptr b6 0 ∧ f_ 7 = AV.ptr b7 0 ∧ f_ 8 = AV.ptr b8 0 ∧ f_ 14 = AV.int (n2)) (fun M hM => ?_) (fun fr10 τz8 hm => ?_)
  · simp [go_sem, f13, f4, f49, f5, f6, f7, f8, gb5, gb6, gb7, gb8]
    refine EWcall_pure (w_ref17_partly rx.edges ((o.edges.length : Nat) : Int) ((A.edges.length : Nat) : Int) _ hn2) ?_
    simp [go_sem, f13, f4, f49, f5, f6, f7, f8, gb5, gb6, gb7, gb8]
    refine (hM _ _).2 ⟨rfl, ?_, ?_, ?_, ?_, ?_, ?_⟩ <;> simp [go_sem, f13, f4, f49, f5, f6, f7, f8, gb5, gb6, gb7, gb8]
  clear f13 f4 f49 f5 f6 f7 f8
  obtain ⟨rfl, f4, f5, f6, f7, f8, f14⟩ := hm
  refine SW.seq ?_
  -- region 10
  refine SW.regX (fun f_ t_ => τ = t_ ∧ f_ 4 = AV.bool (rx1) ∧ f_ 5 = AV.ptr b5 0 ∧ f_ 6 = AV.ptr b6 0 ∧ f_ 7 = AV.ptr b7 0 ∧ f_ 8 = AV.ptr b8 0 ∧ f_ 14 = AV.int (n2) ∧ f_ 61 = AV.bool ((!decide (n2 = 0)))) (fun M hM => ?_) (fun fr11 τz9 hm => ?_)
  · simp [go_sem, f14, f4, f5, f6, f7, f8, gb5, gb6, gb7, gb8]
    refine (hM _ _).2 ⟨rfl, ?_, ?_, ?_, ?_, ?_, ?_, ?_⟩ <;> simp [go_sem, f14, f4, f5, f6, f7, f8, gb5, gb6, gb7, gb8]
  clear f14 f4 f5 f6 f7 f8
  obtain ⟨rfl, f4, f5, f6, f7, f8, f14, f61⟩ := hm
  refine SW.cond _ f61 (fun hx3 => ?_) (fun hx3 => ?_)
  · have h := condT h hx3
    refine SW.seq ?_
    -- region 11
    refine SW.regX (fun f_ t_ => τ = t_ ∧ f_ 10 = AV.nils ∧ f_ 11 = AV.int (n2)) (fun M hM => ?_) (fun fr12 τz10 hm => ?_)
    · simp [go_sem, f14, f4, f5, f6, f61, f7, f8, gb5, gb6, gb7, gb8]
      refine (hM _ _).2 ⟨rfl, ?_, ?_⟩ <;> simp [go_sem, f14, f4, f5, f6, f61, f7, f8, gb5, gb6, gb7, gb8]
    clear f14 f4 f5 f6 f61 f7 f8
    obtain ⟨rfl, f10, f11⟩ := hm
    obtain rfl := Option.some.inj h
    exact SW.ret ⟨AV.tup [AV.nils, AV.int (n2)], by simp [go_sem, f10, f11], frz_tupL (frzL_c (.nils) (frzL_c (.lit _) (frzL_n))), hK.keeps⟩
  have h := condF h hx3
  refine SW.skip ?_
  refine SW.seq ?_
  -- region 12
  obtain ⟨rx2, hrx2, h⟩ := obind h
  refine SW.regX (fun f_ t_ => τ = t_ ∧ f_ 15 = morphsA (rx2)) (fun M hM => ?_) (fun fr13 τz11 hm => ?_)
  · simp [go_sem, f14, f4, f5, f6, f61, f7, f8, gb5, gb6, gb7, gb8]
    refine EWcall_pure (w_ref17_run F t o A rx rx1 5000 _ hrx2) ?_
    simp [go_sem, f14, f4, f5, f6, f61, f7, f8, gb5, gb6, gb7, gb8]
    refine (hM _ _).2 ⟨rfl, ?_⟩ <;> simp [go_sem, f14, f4, f5, f6, f61, f7, f8, gb5, gb6, gb7, gb8]
  clear f14 f4 f5 f6 f61 f7 f8
  obtain ⟨rfl, f15⟩ := hm
  refine SW.seq ?_
  refine SW.seq ?_
  -- region 13
  refine SW.regX (fun f_ t_ => τ = t_ ∧ f_ 15 = morphsA (rx2) ∧ f_ 71 = AV.bool ((decide (5000 < ((rx2.length : Nat) : Int))))) (fun M hM => ?_) (fun fr14 τz12 hm => ?_)
  · simp [go_sem, f15]
    refine (hM _ _).2 ⟨rfl, ?_, ?_⟩ <;> simp [go_sem, f15]
  clear f15
  obtain ⟨rfl, f15, f71⟩ := hm
  refine SW.cond _ f71 (fun hx4 => ?_) (fun hx4 => ?_)
  · have h := condT h hx4
    refine SW.seq ?_
    -- region 14
    refine SW.regX (fun f_ t_ => τ = t_ ∧ f_ 10 = AV.nils ∧ f_ 11 = AV.int (3)) (fun M hM => ?_) (fun fr15 τz13 hm => ?_)
    · simp [go_sem, f15, f71]
      refine (hM _ _).2 ⟨rfl, ?_, ?_⟩ <;> simp [go_sem, f15, f71]
    clear f15 f71
    obtain ⟨rfl, f10, f11⟩ := hm
    obtain rfl := Option.some.inj h
    exact SW.ret ⟨AV.tup [AV.nils, AV.int (3)], by simp [go_sem, f10, f11], frz_tupL (frzL_c (.nils) (frzL_c (.lit _) (frzL_n))), hK.keeps⟩
  have h := condF h hx4
  refine SW.skip ?_
  refine SW.seq ?_
  -- region 15
  refine SW.regX (fun f_ t_ => τ = t_ ∧ f_ 10 = morphsA (rx2) ∧ f_ 11 = AV.int (0)) (fun M hM => ?_) (fun fr16 τz14 hm => ?_)
  · simp [go_sem, f15, f71]
    refine (hM _ _).2 ⟨rfl, ?_, ?_⟩ <;> simp [go_sem, f15, f71]
  clear f15 f71
  obtain ⟨rfl, f10, f11⟩ := hm
  obtain rfl := Option.some.inj h
  exact SW.ret ⟨AV.tup [morphsA (rx2), AV.int (0)], by simp [go_sem, f10, f11], frz_tupL (frzL_c ((DataA.imm (DataL.flatMap gd_morphC rx2)) _ _) (frzL_c (.lit _) (frzL_n))), hK.keeps⟩
set_option maxHeartbeats 4000000 in
theorem w_law17_SearchExtend (F : Nat) (t : Gscarfjointlaw17_Case) (o : Morph) (A : Bool) (r : (Bool)) (h : s_law17_SearchExtend F t o A = some r) : PureA Tryz.prog 5 [AV.agg [nodesA (t.t.nodes), edgesA (t.t.edges), intsA (t.p.nodes), e3sA (t.p.edges), intsA (t.g.nodes), e3sA (t.g.edges)], AV.agg [intsA (o.nodes), intsA (o.edges)], AV.bool (A)] (AV.bool (r)) := by
  refine pureA_of_SW (N := 68) Tryz.func5 (by kernel_rfl) rfl (by rw [Tryz.ntmps5]; rfl) (fun σ0 => ?_)
  rw [Tryz.results5]
  obtain ⟨fr0, hfr⟩ : ∃ fr, fr = initFr [AV.agg [nodesA (t.t.nodes), edgesA (t.t.edges), intsA (t.p.nodes), e3sA (t.p.edges), intsA (t.g.nodes), e3sA (t.g.edges)], AV.agg [intsA (o.nodes), intsA (o.edges)], AV.bool (A)] := ⟨_, rfl⟩
  rw [← hfr]
  have f0 : fr0 0 = AV.agg [nodesA (t.t.nodes), edgesA (t.t.edges), intsA (t.p.nodes), e3sA (t.p.edges), intsA (t.g.nodes), e3sA (t.g.edges)] := by rw [hfr]; rfl
  have f1 : fr0 1 = AV.agg [intsA (o.nodes), intsA (o.edges)] := by rw [hfr]; rfl
  have f2 : fr0 2 = AV.bool (A) := by rw [hfr]; rfl
  clear hfr
  simp only [s_law17_SearchExtend] at h
  refine SW.seq ?_
  -- region 0
  refine SW.regX (fun f_ t_ => ∃ b3 : Nat, ∃ b4 : Nat, f_ 2 = AV.bool (A) ∧ f_ 3 = AV.ptr b3 0 ∧ f_ 4 = AV.ptr b4 0 ∧ Kept σ0 t_ ∧ σ0.next ≤ t_.next ∧ t_.get b3 = some [nodesA (t.t.nodes), edgesA (t.t.edges), intsA (t.p.nodes), e3sA (t.p.edges), intsA (t.g.nodes), e3sA (t.g.edges)] ∧ b3 < t_.next ∧ t_.get b4 = some [intsA (o.nodes), intsA (o.edges)] ∧ b4 < t_.next ∧ σ0.next ≤ b3 ∧ σ0.next ≤ b4 ∧ ¬ b3 = b4) (fun M hM => ?_) (fun fr1 τ hm => ?_)
  · simp [go_sem, f0, f1, f2]
    refine (hM _ _).2 ⟨σ0.next, (σ0.next + 1), ?_, ?_, ?_, by intro j hj; simp [go_sem, show ¬ j = σ0.next by omega, show ¬ j = σ0.next + 1 by omega], by first | omega | (simp [go_sem]; done) | (simp [go_sem]; omega), by simp (disch := omega) [get_alloc_ne, get_set_ne, get_kill_ne, go_sem, f0, f1, f2], by first | omega | (simp [go_sem]; done) | (simp [go_sem]; omega), by simp (disch := omega) [get_alloc_ne, get_set_ne, get_kill_ne, go_sem, f0, f1, f2], by first | omega | (simp [go_sem]; done) | (simp [go_sem]; omega), by omega, by omega, by omega⟩ <;> simp [go_sem, f0, f1, f2]
  clear f0 f1 f2
  obtain ⟨b3, b4, f2, f3, f4, hK, hN, gb3, ub3, gb4, ub4, wb3, wb4, eb3b4⟩ := hm
  refine SW.seq ?_
  refine SW.seq ?_
  -- region 1
  obtain ⟨q, hq, h⟩ := obind h
  obtain ⟨c, hc, h⟩ := obind h
  refine SW.regX (fun f_ t_ => τ = t_ ∧ f_ 2 = AV.bool (A) ∧ f_ 3 = AV.ptr b3 0 ∧ f_ 4 = AV.ptr b4 0 ∧ f_ 34 = AV.bool (c)) (fun M hM => ?_) (fun fr2 τz hm => ?_)
  · rcases Bool.eq_false_or_eq_true ((!q)) with y0 | y0
    · have y0' := y0
      try simp at y0'
      have ky0 := condT hc y0
      have ec := Option.some.inj ky0
      simp [go_sem, f2, f3, f4, gb3, gb4, y0, y0']
      refine EWcall_pure (w_law17_awake _ hq) ?_
      simp [go_sem, f2, f3, f4, gb3, gb4, y0, y0']
      refine (hM _ _).2 ⟨rfl, ?_, ?_, ?_, ?_⟩ <;> simp [go_sem, f2, f3, f4, gb3, gb4, y0, y0', ← ec]
    · have y0' := y0
      try simp at y0'
      have ky0 := condF hc y0
      obtain ⟨q1, hq1, ky0⟩ := obind ky0
      rcases Bool.eq_false_or_eq_true ((!q1)) with y2 | y2
      · have y2' := y2
        try simp [y0'] at y2'
        have ky2 := condT ky0 y2
        have ec := Option.some.inj ky2
        simp [go_sem, f2, f3, f4, gb3, gb4, y0, y0', y2, y2']
        refine EWcall_pure (w_law17_awake _ hq) ?_
        simp [go_sem, f2, f3, f4, gb3, gb4, y0, y0', y2, y2']
        refine EWcall_pure (w_ref17_Light F t.t t.p t.g _ hq1) ?_
        simp [go_sem, f2, f3, f4, gb3, gb4, y0, y0', y2, y2']
        refine (hM _ _).2 ⟨rfl, ?_, ?_, ?_, ?_⟩ <;> simp [go_sem, f2, f3, f4, gb3, gb4, y0, y0', y2, y2', ← ec]
      · have y2' := y2
        try simp [y0'] at y2'
        have ky2 := condF ky0 y2
        rcases Bool.eq_false_or_eq_true ((decide (100 < ((o.nodes.length : Nat) : Int)))) with y4 | y4
        · have y4' := y4
          try simp [y0', y2'] at y4'
          have ky4 := condT ky2 y4
          have ec := Option.some.inj ky4
          simp [go_sem, f2, f3, f4, gb3, gb4, y0, y0', y2, y2', y4, y4']
          refine EWcall_pure (w_law17_awake _ hq) ?_
          simp [go_sem, f2, f3, f4, gb3, gb4, y0, y0', y2, y2', y4, y4']
          refine EWcall_pure (w_ref17_Light F t.t t.p t.g _ hq1) ?_
          simp [go_sem, f2, f3, f4, gb3, gb4, y0, y0', y2, y2', y4, y4']
          refine (hM _ _).2 ⟨rfl, ?_, ?_, ?_, ?_⟩ <;> simp [go_sem, f2, f3, f4, gb3, gb4, y0, y0', y2, y2', y4, y4', ← ec]
        · have y4' := y4
          try simp [y0', y2'] at y4'
          have ky4 := condF ky2 y4
          have ec := Option.some.inj ky4
          simp [go_sem, f2, f3, f4, gb3, gb4, y0, y0', y2, y2', y4, y4']
          refine EWcall_pure (w_law17_awake _ hq) ?_
          simp [go_sem, f2, f3, f4, gb3, gb4, y0, y0', y2, y2', y4, y4']
          refine EWcall_pure (w_ref17_Light F t.t t.p t.g _ hq1) ?_
          simp [go_sem, f2, f3, f4, gb3, gb4, y0, y0', y2, y2', y4, y4']
          refine (hM _ _).2 ⟨rfl, ?_, ?_, ?_, ?_⟩ <;> simp [go_sem, f2, f3, f4, gb3, gb4, y0, y0', y2, y2', y4, y4', ← ec]
  clear f2 f3 f4
  obtain ⟨rfl, f2, f3, f4, f34⟩ := hm
  refine SW.cond _ f34 (fun hx => ?_) (fun hx => ?_)
  · have h := condT h hx
    refine SW.seq ?_
    -- region 2
    obtain ⟨q2, hq2, h⟩ := obind h
    refine SW.regX (fun f_ t_ => τ = t_ ∧ f_ 6 = AV.bool (q2)) (fun M hM => ?_) (fun fr3 τz1 hm => ?_)
    · simp [go_sem, f2, f3, f34, f4, gb3, gb4]
      refine EWcall_pure (w_law17_awake _ hq2) ?_
      simp [go_sem, f2, f3, f34, f4, gb3, gb4]
      refine (hM _ _).2 ⟨rfl, ?_⟩ <;> simp [go_sem, f2, f3, f34, f4, gb3, gb4]
    clear f2 f3 f34 f4
    obtain ⟨rfl, f6⟩ := hm
    obtain rfl := Option.some.inj h
    exact SW.ret ⟨AV.bool (q2), by simp [go_sem, f6], .lit _, hK.keeps⟩
  have h := condF h hx
  refine SW.skip ?_
  refine SW.seq ?_
  -- region 3
  obtain ⟨rx, hrx, h⟩ := obind h
  refine SW.regX (fun f_ t_ => τ = t_ ∧ f_ 2 = AV.bool (A) ∧ f_ 3 = AV.ptr b3 0 ∧ f_ 4 = AV.ptr b4 0 ∧ f_ 7 = morphsA (rx.1) ∧ f_ 8 = AV.int (rx.2)) (fun M hM => ?_) (fun fr4 τz2 hm => ?_)
  · simp [go_sem, f2, f3, f34, f4, gb3, gb4]
    refine EWcall_pure (w_search_Extend t.t t.p t.g o A _ hrx) ?_
    simp [go_sem, f2, f3, f34, f4, gb3, gb4]
    refine (hM _ _).2 ⟨rfl, ?_, ?_, ?_, ?_, ?_⟩ <;> simp [go_sem, f2, f3, f34, f4, gb3, gb4]
  clear f2 f3 f34 f4
  obtain ⟨rfl, f2, f3, f4, f7, f8⟩ := hm
  refine SW.seq ?_
  -- region 4
  obtain ⟨rx1, hrx1, h⟩ := obind h
  refine SW.regX (fun f_ t_ => τ = t_ ∧ f_ 7 = morphsA (rx.1) ∧ f_ 8 = AV.int (rx.2) ∧ f_ 9 = morphsA (rx1.1) ∧ f_ 10 = AV.int (rx1.2)) (fun M hM => ?_) (fun fr5 τz3 hm => ?_)
  · simp [go_sem, f2, f3, f4, f7, f8, gb3, gb4]
    refine EWcall_pure (w_ref17_Extend F t.t t.p t.g o A _ hrx1) ?_
    simp [go_sem, f2, f3, f4, f7, f8, gb3, gb4]
    refine (hM _ _).2 ⟨rfl, ?_, ?_, ?_, ?_⟩ <;> simp [go_sem, f2, f3, f4, f7, f8, gb3, gb4]
  clear f2 f3 f4 f7 f8
  obtain ⟨rfl, f7, f8, f9, f10⟩ := hm
  refine SW.seq ?_
  -- region 5
  obtain ⟨c1, hc1, h⟩ := obind h
  refine SW.regX (fun f_ t_ => τ = t_ ∧ f_ 6 = AV.bool (c1)) (fun M hM => ?_) (fun fr6 τz4 hm => ?_)
  · rcases Bool.eq_false_or_eq_true ((decide (rx.2 = rx1.2))) with y0 | y0
    · have y0' := y0
      try simp at y0'
      have ky0 := condT hc1 y0
      obtain ⟨q3, hq3, ky0⟩ := obind ky0
      have ec1 := Option.some.inj ky0
      simp [go_sem, f10, f7, f8, f9, y0, y0']
      refine EWcall_pure (w_ref17_SameAll rx.1 rx1.1 _ hq3) ?_
      simp [go_sem, f10, f7, f8, f9, y0, y0']
      refine (hM _ _).2 ⟨rfl, ?_⟩ <;> simp [go_sem, f10, f7, f8, f9, y0, y0', ← ec1]
    · have y0' := y0
      try simp at y0'
      have ky0 := condF hc1 y0
      have ec1 := Option.some.inj ky0
      simp [go_sem, f10, f7, f8, f9, y0, y0']
      refine (hM _ _).2 ⟨rfl, ?_⟩ <;> simp [go_sem, f10, f7, f8, f9, y0, y0', ← ec1]
  clear f10 f7 f8 f9
  obtain ⟨rfl, f6⟩ := hm
  obtain rfl := Option.some.inj h
  exact SW.ret ⟨AV.bool (c1), by simp [go_sem, f6], .lit _, hK.keeps⟩
end Go.Proofs.YtdacgjleiloooaaGreat
