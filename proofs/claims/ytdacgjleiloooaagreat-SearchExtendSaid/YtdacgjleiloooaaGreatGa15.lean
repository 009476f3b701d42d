/-
  Plain functions and the walks that lead to them, by a program of ours (gen.py): scarfjoint/search.open$1, scarfjoint/search.open, scarfjoint/search.Extend, scarfjoint/scarfjointref17.partly.
-/
import Derived.Test.YtdacgjleiloooaaGreatGd
import Derived.Test.YtdacgjleiloooaaGreatGT
import Derived.Test.YtdacgjleiloooaaGreatB3
import Derived.Test.YtdacgjleiloooaaGreatGa1
set_option linter.unusedSimpArgs false
set_option linter.unusedVariables false
namespace Go.Proofs.YtdacgjleiloooaaGreat
open Go Go.Ew Go.Proofs Go.RowKit
set_option maxRecDepth 100000
set_option maxHeartbeats 4000000 in
theorem w_search_open_c1 (k : Int) (a : Int) (r : (Bool)) (h : s_search_open_c1 k a = some r) : PureA Tryz.prog 66 [AV.int (k), AV.iptr [AV.int (a)]] (AV.bool (r)) := by
  refine pureA_of_SW (N := 11) Tryz.func66 (by kernel_rfl) rfl (by rw [Tryz.ntmps66]; rfl) (fun σ0 => ?_)
  rw [Tryz.results66]
  obtain ⟨fr0, hfr⟩ : ∃ fr, fr = initFr [AV.int (k), AV.iptr [AV.int (a)]] := ⟨_, rfl⟩
  rw [← hfr]
  have f0 : fr0 0 = AV.int (k) := by rw [hfr]; rfl
  have f1 : fr0 1 = AV.iptr [AV.int (a)] := by rw [hfr]; rfl
  clear hfr
  simp only [s_search_open_c1] at h
  refine SW.seq ?_
  -- region 0
  refine SW.regX (fun f_ t_ => σ0 = t_ ∧ f_ 0 = AV.int (k) ∧ f_ 1 = AV.iptr [AV.int (a)]) (fun M hM => ?_) (fun fr1 τz hm => ?_)
  · simp [go_sem, f0, f1]
    refine (hM _ _).2 ⟨rfl, ?_, ?_⟩ <;> simp [go_sem, f0, f1]
  clear f0 f1
  obtain ⟨rfl, f0, f1⟩ := hm
  refine SW.seq ?_
  -- region 1
  refine SW.regX (fun f_ t_ => σ0 = t_ ∧ f_ 3 = AV.bool ((((decide (k < -1))) || ((decide (a ≤ k)))))) (fun M hM => ?_) (fun fr2 τz1 hm => ?_)
  · rcases Bool.eq_false_or_eq_true ((decide (k < -1))) with y0 | y0
    · have y0' := y0
      try simp at y0'
      simp [go_sem, f0, f1, y0, y0']
      refine (hM _ _).2 ⟨rfl, ?_⟩ <;> simp [go_sem, f0, f1, y0, y0']
    · have y0' := y0
      try simp at y0'
      simp [go_sem, f0, f1, y0, y0']
      refine (hM _ _).2 ⟨rfl, ?_⟩ <;> simp [go_sem, f0, f1, y0, y0']
  clear f0 f1
  obtain ⟨rfl, f3⟩ := hm
  obtain rfl := Option.some.inj h
  exact SW.ret ⟨AV.bool ((((decide (k < -1))) || ((decide (a ≤ k))))), by simp [go_sem, f3], .lit _, Keeps.refl _⟩
set_option maxHeartbeats 4000000 in
theorem w_search_open (l : List Int) (n : Int) (r : (Int)) (h : s_search_open l n = some r) : PureA Tryz.prog 46 [intsA (l), AV.int (n)] (AV.int (r)) := by
  refine pureA_of_SW (N := 8) Tryz.func46 (by kernel_rfl) rfl (by rw [Tryz.ntmps46]; rfl) (fun σ0 => ?_)
  rw [Tryz.results46]
  obtain ⟨fr0, hfr⟩ : ∃ fr, fr = initFr [intsA (l), AV.int (n)] := ⟨_, rfl⟩
  rw [← hfr]
  have f0 : fr0 0 = intsA (l) := by rw [hfr]; rfl
  have f1 : fr0 1 = AV.int (n) := by rw [hfr]; rfl
  clear hfr
  simp only [s_search_open] at h
  refine SW.seq ?_
  -- region 0
  refine SW.regX (fun f_ t_ => ∃ b3 : Nat, f_ 0 = intsA (l) ∧ f_ 3 = AV.ptr b3 0 ∧ Kept σ0 t_ ∧ σ0.next ≤ t_.next ∧ t_.get b3 = some [AV.int (n)] ∧ b3 < t_.next ∧ σ0.next ≤ b3) (fun M hM => ?_) (fun fr1 τ hm => ?_)
  · simp [go_sem, f0, f1]
    refine (hM _ _).2 ⟨σ0.next, ?_, ?_, by intro j hj; simp [go_sem, show ¬ j = σ0.next by omega], by first | omega | (simp [go_sem]; done) | (simp [go_sem]; omega), by simp (disch := omega) [get_alloc_ne, get_set_ne, get_kill_ne, go_sem, f0, f1], by first | omega | (simp [go_sem]; done) | (simp [go_sem]; omega), by omega⟩ <;> simp [go_sem, f0, f1]
  clear f0 f1
  obtain ⟨b3, f0, f3, hK, hN, gb3, ub3, wb3⟩ := hm
  refine SW.seq ?_
  refine SW.seq ?_
  -- region 1
  obtain ⟨q, hq, h⟩ := obind h
  refine SW.regX (fun f_ t_ => τ = t_ ∧ f_ 7 = AV.bool (q)) (fun M hM => ?_) (fun fr2 τz hm => ?_)
  · simp [go_sem, f0, f3, gb3]
    refine EWcall_frz (w_slices_ContainsFunc_int l (fun a0 => s_search_open_c1 a0 n) 66 [AV.iptr [AV.int (n)]] (fun a0 r h => w_search_open_c1 a0 n r h) _ hq) rfl (frzL_c ((DataA.imm (DataL.map (fun _ => .lit _) l)) _ _) (frzL_c (frz_fnL (frzL_c (frz_ptrL (Nat.zero_le _) gb3 (frzL_c (.lit _) (frzL_n))) (frzL_n))) (frzL_n))) ?_
    simp [go_sem, f0, f3, gb3]
    refine (hM _ _).2 ⟨rfl, ?_⟩ <;> simp [go_sem, f0, f3, gb3]
  clear f0 f3
  obtain ⟨rfl, f7⟩ := hm
  refine SW.cond _ f7 (fun hx => ?_) (fun hx => ?_)
  · have h := condT h hx
    refine SW.seq ?_
    -- region 2
    refine SW.regX (fun f_ t_ => τ = t_ ∧ f_ 4 = AV.int (6)) (fun M hM => ?_) (fun fr3 τz1 hm => ?_)
    · simp [go_sem, f7]
      refine (hM _ _).2 ⟨rfl, ?_⟩ <;> simp [go_sem, f7]
    clear f7
    obtain ⟨rfl, f4⟩ := hm
    obtain rfl := Option.some.inj h
    exact SW.ret ⟨AV.int (6), by simp [go_sem, f4], .lit _, hK.keeps⟩
  have h := condF h hx
  refine SW.skip ?_
  refine SW.seq ?_
  -- region 3
  refine SW.regX (fun f_ t_ => τ = t_ ∧ f_ 4 = AV.int (0)) (fun M hM => ?_) (fun fr4 τz2 hm => ?_)
  · simp [go_sem, f7]
    refine (hM _ _).2 ⟨rfl, ?_⟩ <;> simp [go_sem, f7]
  clear f7
  obtain ⟨rfl, f4⟩ := hm
  obtain rfl := Option.some.inj h
  exact SW.ret ⟨AV.int (0), by simp [go_sem, f4], .lit _, hK.keeps⟩
set_option maxHeartbeats 4000000 in
theorem w_search_Extend (t : Types) (p : Graph) (g : Graph) (partialx : Morph) (injective : Bool) (r : ((List Morph) × Int)) (h : s_search_Extend t p g partialx injective = some r) : PureA Tryz.prog 18 [AV.agg [nodesA (t.nodes), edgesA (t.edges)], AV.agg [intsA (p.nodes), e3sA (p.edges)], AV.agg [intsA (g.nodes), e3sA (g.edges)], AV.agg [intsA (partialx.nodes), intsA (partialx.edges)], AV.bool (injective)] (AV.tup [morphsA (r.1), AV.int (r.2)]) := by
  refine pureA_of_SW (N := 64) Tryz.func18 (by kernel_rfl) rfl (by rw [Tryz.ntmps18]; rfl) (fun σ0 => ?_)
  rw [Tryz.results18]
  obtain ⟨fr0, hfr⟩ : ∃ fr, fr = initFr [AV.agg [nodesA (t.nodes), edgesA (t.edges)], AV.agg [intsA (p.nodes), e3sA (p.edges)], AV.agg [intsA (g.nodes), e3sA (g.edges)], AV.agg [intsA (partialx.nodes), intsA (partialx.edges)], AV.bool (injective)] := ⟨_, rfl⟩
  rw [← hfr]
  have f0 : fr0 0 = AV.agg [nodesA (t.nodes), edgesA (t.edges)] := by rw [hfr]; rfl
  have f1 : fr0 1 = AV.agg [intsA (p.nodes), e3sA (p.edges)] := by rw [hfr]; rfl
  have f2 : fr0 2 = AV.agg [intsA (g.nodes), e3sA (g.edges)] := by rw [hfr]; rfl
  have f3 : fr0 3 = AV.agg [intsA (partialx.nodes), intsA (partialx.edges)] := by rw [hfr]; rfl
  have f4 : fr0 4 = AV.bool (injective) := by rw [hfr]; rfl
  clear hfr
  simp only [s_search_Extend] at h
  refine SW.seq ?_
  -- region 0
  refine SW.regX (fun f_ t_ => ∃ b5 : Nat, ∃ b6 : Nat, ∃ b7 : Nat, ∃ b8 : Nat, f_ 4 = AV.bool (injective) ∧ f_ 5 = AV.ptr b5 0 ∧ f_ 6 = AV.ptr b6 0 ∧ f_ 7 = AV.ptr b7 0 ∧ f_ 8 = AV.ptr b8 0 ∧ Kept σ0 t_ ∧ σ0.next ≤ t_.next ∧ t_.get b5 = some [nodesA (t.nodes), edgesA (t.edges)] ∧ b5 < t_.next ∧ t_.get b6 = some [intsA (p.nodes), e3sA (p.edges)] ∧ b6 < t_.next ∧ t_.get b7 = some [intsA (g.nodes), e3sA (g.edges)] ∧ b7 < t_.next ∧ t_.get b8 = some [intsA (partialx.nodes), intsA (partialx.edges)] ∧ b8 < t_.next ∧ σ0.next ≤ b5 ∧ σ0.next ≤ b6 ∧ ¬ b5 = b6 ∧ σ0.next ≤ b7 ∧ ¬ b5 = b7 ∧ ¬ b6 = b7 ∧ σ0.next ≤ b8 ∧ ¬ b5 = b8 ∧ ¬ b6 = b8 ∧ ¬ b7 = b8) (fun M hM => ?_) (fun fr1 τ hm => ?_)
  · simp [go_sem, f0, f1, f2, f3, f4]
    refine (hM _ _).2 ⟨σ0.next, (σ0.next + 1), (σ0.next + 2), (σ0.next + 3), ?_, ?_, ?_, ?_, ?_, by intro j hj; simp [go_sem, show ¬ j = σ0.next by omega, show ¬ j = σ0.next + 1 by omega, show ¬ j = σ0.next + 2 by omega, show ¬ j = σ0.next + 3 by omega], by first | omega | (simp [go_sem]; done) | (simp [go_sem]; omega), by simp (disch := omega) [get_alloc_ne, get_set_ne, get_kill_ne, go_sem, f0, f1, f2, f3, f4], by first | omega | (simp [go_sem]; done) | (simp [go_sem]; omega), by simp (disch := omega) [get_alloc_ne, get_set_ne, get_kill_ne, go_sem, f0, f1, f2, f3, f4], by first | omega | (simp [go_sem]; done) | (simp [go_sem]; omega), by simp (disch := omega) [get_alloc_ne, get_set_ne, get_kill_ne, go_sem, f0, f1, f2, f3, f4], by first | omega | (simp [go_sem]; done) | (simp [go_sem]; omega), by simp (disch := omega) [get_alloc_ne, get_set_ne, get_kill_ne, go_sem, f0, f1, f2, f3, f4], by first | omega | (simp [go_sem]; done) | (simp [go_sem]; omega), by omega, by omega, by omega, by omega, by omega, by omega, by omega, by omega, by omega, by omega⟩ <;> simp [go_sem, f0, f1, f2, f3, f4]
  clear f0 f1 f2 f3 f4
  obtain ⟨b5, b6, b7, b8, f4, f5, f6, f7, f8, hK, hN, gb5, ub5, gb6, ub6, gb7, ub7, gb8, ub8, wb5, wb6, eb5b6, wb7, eb5b7, eb6b7, wb8, eb5b8, eb6b8, eb7b8⟩ := hm
  refine SW.seq ?_
  refine SW.seq ?_
  -- region 1
  obtain ⟨n, hn, h⟩ := obind h
  refine SW.regX (fun f_ t_ => τ = t_ ∧ f_ 4 = AV.bool (injective) ∧ f_ 5 = AV.ptr b5 0 ∧ f_ 6 = AV.ptr b6 0 ∧ f_ 7 = AV.ptr b7 0 ∧ f_ 8 = AV.ptr b8 0 ∧ f_ 12 = AV.int (n)) (fun M hM => ?_) (fun fr2 τz hm => ?_)
  · simp [go_sem, f4, f5, f6, f7, f8, gb5, gb6, gb7, gb8]
    refine EWcall_pure (w_search_valid t p g _ hn) ?_
    simp [go_sem, f4, f5, f6, f7, f8, gb5, gb6, gb7, gb8]
    refine (hM _ _).2 ⟨rfl, ?_, ?_, ?_, ?_, ?_, ?_⟩ <;> simp [go_sem, f4, f5, f6, f7, f8, gb5, gb6, gb7, gb8]
  clear f4 f5 f6 f7 f8
  obtain ⟨rfl, f4, f5, f6, f7, f8, f12⟩ := hm
  refine SW.seq ?_
  -- region 2
  refine SW.regX (fun f_ t_ => τ = t_ ∧ f_ 4 = AV.bool (injective) ∧ f_ 5 = AV.ptr b5 0 ∧ f_ 6 = AV.ptr b6 0 ∧ f_ 7 = AV.ptr b7 0 ∧ f_ 8 = AV.ptr b8 0 ∧ f_ 12 = AV.int (n) ∧ f_ 20 = AV.bool ((!decide (n = 0)))) (fun M hM => ?_) (fun fr3 τz1 hm => ?_)
  · simp [go_sem, f12, f4, f5, f6, f7, f8, gb5, gb6, gb7, gb8]
    refine (hM _ _).2 ⟨rfl, ?_, ?_, ?_, ?_, ?_, ?_, ?_⟩ <;> simp [go_sem, f12, f4, f5, f6, f7, f8, gb5, gb6, gb7, gb8]
  clear f12 f4 f5 f6 f7 f8
  obtain ⟨rfl, f4, f5, f6, f7, f8, f12, f20⟩ := hm
  refine SW.cond _ f20 (fun hx => ?_) (fun hx => ?_)
  · have h := condT h hx
    refine SW.seq ?_
    -- region 3
    refine SW.regX (fun f_ t_ => τ = t_ ∧ f_ 10 = AV.nils ∧ f_ 11 = AV.int (n)) (fun M hM => ?_) (fun fr4 τz2 hm => ?_)
    · simp [go_sem, f12, f20, f4, f5, f6, f7, f8, gb5, gb6, gb7, gb8]
      refine (hM _ _).2 ⟨rfl, ?_, ?_⟩ <;> simp [go_sem, f12, f20, f4, f5, f6, f7, f8, gb5, gb6, gb7, gb8]
    clear f12 f20 f4 f5 f6 f7 f8
    obtain ⟨rfl, f10, f11⟩ := hm
    obtain rfl := Option.some.inj h
    exact SW.ret ⟨AV.tup [AV.nils, AV.int (n)], by simp [go_sem, f10, f11], frz_tupL (frzL_c (.nils) (frzL_c (.lit _) (frzL_n))), hK.keeps⟩
  have h := condF h hx
  refine SW.skip ?_
  refine SW.seq ?_
  refine SW.seq ?_
  -- region 4
  refine SW.regX (fun f_ t_ => τ = t_ ∧ f_ 4 = AV.bool (injective) ∧ f_ 5 = AV.ptr b5 0 ∧ f_ 6 = AV.ptr b6 0 ∧ f_ 7 = AV.ptr b7 0 ∧ f_ 8 = AV.ptr b8 0 ∧ f_ 37 = AV.bool ((((!decide (partialx.nodes.length = p.nodes.length))) || ((!decide (partialx.edges.length = p.edges.length)))))) (fun M hM => ?_) (fun fr5 τz3 hm => ?_)
  · rcases Bool.eq_false_or_eq_true ((!decide (partialx.nodes.length = p.nodes.length))) with y0 | y0
    · have y0' := y0
      try simp at y0'
      simp [go_sem, f12, f20, f4, f5, f6, f7, f8, gb5, gb6, gb7, gb8, y0, y0']
      refine (hM _ _).2 ⟨rfl, ?_, ?_, ?_, ?_, ?_, ?_⟩ <;> simp [go_sem, f12, f20, f4, f5, f6, f7, f8, gb5, gb6, gb7, gb8, y0, y0']
    · have y0' := y0
      try simp at y0'
      simp [go_sem, f12, f20, f4, f5, f6, f7, f8, gb5, gb6, gb7, gb8, y0, y0']
      refine (hM _ _).2 ⟨rfl, ?_, ?_, ?_, ?_, ?_, ?_⟩ <;> simp [go_sem, f12, f20, f4, f5, f6, f7, f8, gb5, gb6, gb7, gb8, y0, y0']
  clear f12 f20 f4 f5 f6 f7 f8
  obtain ⟨rfl, f4, f5, f6, f7, f8, f37⟩ := hm
  refine SW.cond _ f37 (fun hx1 => ?_) (fun hx1 => ?_)
  · have h := condT h hx1
    refine SW.seq ?_
    -- region 5
    refine SW.regX (fun f_ t_ => τ = t_ ∧ f_ 10 = AV.nils ∧ f_ 11 = AV.int (20)) (fun M hM => ?_) (fun fr6 τz4 hm => ?_)
    · simp [go_sem, f37, f4, f5, f6, f7, f8, gb5, gb6, gb7, gb8]
      refine (hM _ _).2 ⟨rfl, ?_, ?_⟩ <;> simp [go_sem, f37, f4, f5, f6, f7, f8, gb5, gb6, gb7, gb8]
    clear f37 f4 f5 f6 f7 f8
    obtain ⟨rfl, f10, f11⟩ := hm
    obtain rfl := Option.some.inj h
    exact SW.ret ⟨AV.tup [AV.nils, AV.int (20)], by simp [go_sem, f10, f11], frz_tupL (frzL_c (.nils) (frzL_c (.lit _) (frzL_n))), hK.keeps⟩
  have h := condF h hx1
  refine SW.skip ?_
  refine SW.seq ?_
  refine SW.seq ?_
  -- region 6
  obtain ⟨n1, hn1, h⟩ := obind h
  refine SW.regX (fun f_ t_ => τ = t_ ∧ f_ 4 = AV.bool (injective) ∧ f_ 5 = AV.ptr b5 0 ∧ f_ 6 = AV.ptr b6 0 ∧ f_ 7 = AV.ptr b7 0 ∧ f_ 8 = AV.ptr b8 0 ∧ f_ 13 = AV.int (n1)) (fun M hM => ?_) (fun fr7 τz5 hm => ?_)
  · simp [go_sem, f37, f4, f5, f6, f7, f8, gb5, gb6, gb7, gb8]
    refine EWcall_pure (w_search_open partialx.nodes ((g.nodes.length : Nat) : Int) _ hn1) ?_
    simp [go_sem, f37, f4, f5, f6, f7, f8, gb5, gb6, gb7, gb8]
    refine (hM _ _).2 ⟨rfl, ?_, ?_, ?_, ?_, ?_, ?_⟩ <;> simp [go_sem, f37, f4, f5, f6, f7, f8, gb5, gb6, gb7, gb8]
  clear f37 f4 f5 f6 f7 f8
  obtain ⟨rfl, f4, f5, f6, f7, f8, f13⟩ := hm
  refine SW.seq ?_
  -- region 7
  refine SW.regX (fun f_ t_ => τ = t_ ∧ f_ 4 = AV.bool (injective) ∧ f_ 5 = AV.ptr b5 0 ∧ f_ 6 = AV.ptr b6 0 ∧ f_ 7 = AV.ptr b7 0 ∧ f_ 8 = AV.ptr b8 0 ∧ f_ 13 = AV.int (n1) ∧ f_ 45 = AV.bool ((!decide (n1 = 0)))) (fun M hM => ?_) (fun fr8 τz6 hm => ?_)
  · simp [go_sem, f13, f4, f5, f6, f7, f8, gb5, gb6, gb7, gb8]
    refine (hM _ _).2 ⟨rfl, ?_, ?_, ?_, ?_, ?_, ?_, ?_⟩ <;> simp [go_sem, f13, f4, f5, f6, f7, f8, gb5, gb6, gb7, gb8]
  clear f13 f4 f5 f6 f7 f8
  obtain ⟨rfl, f4, f5, f6, f7, f8, f13, f45⟩ := hm
  refine SW.cond _ f45 (fun hx2 => ?_) (fun hx2 => ?_)
  · have h := condT h hx2
    refine SW.seq ?_
    -- region 8
    refine SW.regX (fun f_ t_ => τ = t_ ∧ f_ 10 = AV.nils ∧ f_ 11 = AV.int (n1)) (fun M hM => ?_) (fun fr9 τz7 hm => ?_)
    · simp [go_sem, f13, f4, f45, f5, f6, f7, f8, gb5, gb6, gb7, gb8]
      refine (hM _ _).2 ⟨rfl, ?_, ?_⟩ <;> simp [go_sem, f13, f4, f45, f5, f6, f7, f8, gb5, gb6, gb7, gb8]
    clear f13 f4 f45 f5 f6 f7 f8
    obtain ⟨rfl, f10, f11⟩ := hm
    obtain rfl := Option.some.inj h
    exact SW.ret ⟨AV.tup [AV.nils, AV.int (n1)], by simp [go_sem, f10, f11], frz_tupL (frzL_c (.nils) (frzL_c (.lit _) (frzL_n))), hK.keeps⟩
  have h := condF h hx2
  refine SW.skip ?_
  refine SW.seq ?_
  refine SW.seq ?_
  -- region 9
  obtain ⟨n2, hn2, h⟩ := obind h
  refine SW.regX (fun f_ t_ => τ = t_ ∧ f_ 4 = AV.bool (injective) ∧ f_ 5 = AV.ptr b5 0 ∧ f_ 6 = AV.ptr b6 0 ∧ f_ 7 = AV.ptr b7 0 ∧ f_ 8 = AV.ptr b8 0 ∧ f_ 14 = AV.int (n2)) (fun M hM => ?_) (fun fr10 τz8 hm => ?_)
  · simp [go_sem, f13, f4, f45, f5, f6, f7, f8, gb5, gb6, gb7, gb8]
    refine EWcall_pure (w_search_open partialx.edges ((g.edges.length : Nat) : Int) _ hn2) ?_
    simp [go_sem, f13, f4, f45, f5, f6, f7, f8, gb5, gb6, gb7, gb8]
    refine (hM _ _).2 ⟨rfl, ?_, ?_, ?_, ?_, ?_, ?_⟩ <;> simp [go_sem, f13, f4, f45, f5, f6, f7, f8, gb5, gb6, gb7, gb8]
  clear f13 f4 f45 f5 f6 f7 f8
  obtain ⟨rfl, f4, f5, f6, f7, f8, f14⟩ := hm
  refine SW.seq ?_
  -- region 10
  refine SW.regX (fun f_ t_ => τ = t_ ∧ f_ 4 = AV.bool (injective) ∧ f_ 5 = AV.ptr b5 0 ∧ f_ 6 = AV.ptr b6 0 ∧ f_ 7 = AV.ptr b7 0 ∧ f_ 8 = AV.ptr b8 0 ∧ f_ 14 = AV.int (n2) ∧ f_ 54 = AV.bool ((!decide (n2 = 0)))) (fun M hM => ?_) (fun fr11 τz9 hm => ?_)
  · simp [go_sem, f14, f4, f5, f6, f7, f8, gb5, gb6, gb7, gb8]
    refine (hM _ _).2 ⟨rfl, ?_, ?_, ?_, ?_, ?_, ?_, ?_⟩ <;> simp [go_sem, f14, f4, f5, f6, f7, f8, gb5, gb6, gb7, gb8]
  clear f14 f4 f5 f6 f7 f8
  obtain ⟨rfl, f4, f5, f6, f7, f8, f14, f54⟩ := hm
  refine SW.cond _ f54 (fun hx3 => ?_) (fun hx3 => ?_)
  · have h := condT h hx3
    refine SW.seq ?_
    -- region 11
    refine SW.regX (fun f_ t_ => τ = t_ ∧ f_ 10 = AV.nils ∧ f_ 11 = AV.int (n2)) (fun M hM => ?_) (fun fr12 τz10 hm => ?_)
    · simp [go_sem, f14, f4, f5, f54, f6, f7, f8, gb5, gb6, gb7, gb8]
      refine (hM _ _).2 ⟨rfl, ?_, ?_⟩ <;> simp [go_sem, f14, f4, f5, f54, f6, f7, f8, gb5, gb6, gb7, gb8]
    clear f14 f4 f5 f54 f6 f7 f8
    obtain ⟨rfl, f10, f11⟩ := hm
    obtain rfl := Option.some.inj h
    exact SW.ret ⟨AV.tup [AV.nils, AV.int (n2)], by simp [go_sem, f10, f11], frz_tupL (frzL_c (.nils) (frzL_c (.lit _) (frzL_n))), hK.keeps⟩
  have h := condF h hx3
  refine SW.skip ?_
  refine SW.seq ?_
  -- region 12
  obtain ⟨rx, hrx, h⟩ := obind h
  refine SW.regX (fun f_ t_ => τ = t_ ∧ f_ 10 = morphsA (rx.1) ∧ f_ 11 = AV.int (rx.2)) (fun M hM => ?_) (fun fr13 τz11 hm => ?_)
  · simp [go_sem, f14, f4, f5, f54, f6, f7, f8, gb5, gb6, gb7, gb8]
    refine EWcall_pure (w_search_all t p g (some partialx) injective _ hrx) ?_
    simp [go_sem, f14, f4, f5, f54, f6, f7, f8, gb5, gb6, gb7, gb8]
    refine (hM _ _).2 ⟨rfl, ?_, ?_⟩ <;> simp [go_sem, f14, f4, f5, f54, f6, f7, f8, gb5, gb6, gb7, gb8]
  clear f14 f4 f5 f54 f6 f7 f8
  obtain ⟨rfl, f10, f11⟩ := hm
  obtain rfl := Option.some.inj h
  exact SW.ret ⟨AV.tup [morphsA (rx.1), AV.int (rx.2)], by simp [go_sem, f10, f11], frz_tupL (frzL_c ((DataA.imm (DataL.flatMap gd_morphC rx.1)) _ _) (frzL_c (.lit _) (frzL_n))), hK.keeps⟩
set_option maxHeartbeats 4000000 in
theorem w_ref17_partly (l : List Int) (count : Int) (n : Int) (r : (Int)) (h : s_ref17_partly l count n = some r) : PureA Tryz.prog 48 [intsA (l), AV.int (count), AV.int (n)] (AV.int (r)) := by
  refine pureA_of_SW (N := 31) Tryz.func48 (by kernel_rfl) rfl (by rw [Tryz.ntmps48]; rfl) (fun σ0 => ?_)
  rw [Tryz.results48]
  obtain ⟨fr0, hfr⟩ : ∃ fr, fr = initFr [intsA (l), AV.int (count), AV.int (n)] := ⟨_, rfl⟩
  rw [← hfr]
  have f0 : fr0 0 = intsA (l) := by rw [hfr]; rfl
  have f1 : fr0 1 = AV.int (count) := by rw [hfr]; rfl
  have f2 : fr0 2 = AV.int (n) := by rw [hfr]; rfl
  clear hfr
  simp only [s_ref17_partly] at h
  refine SW.seq ?_
  -- region 0
  refine SW.regX (fun f_ t_ => σ0 = t_ ∧ f_ 0 = intsA (l) ∧ f_ 1 = AV.int (count) ∧ f_ 2 = AV.int (n)) (fun M hM => ?_) (fun fr1 τz hm => ?_)
  · simp [go_sem, f0, f1, f2]
    refine (hM _ _).2 ⟨rfl, ?_, ?_, ?_⟩ <;> simp [go_sem, f0, f1, f2]
  clear f0 f1 f2
  obtain ⟨rfl, f0, f1, f2⟩ := hm
  refine SW.seq ?_
  refine SW.seq ?_
  -- region 1
  refine SW.regX (fun f_ t_ => σ0 = t_ ∧ f_ 0 = intsA (l) ∧ f_ 2 = AV.int (n) ∧ f_ 11 = AV.bool ((!decide (((l.length : Nat) : Int) = count)))) (fun M hM => ?_) (fun fr2 τz1 hm => ?_)
  · simp [go_sem, f0, f1, f2]
    refine (hM _ _).2 ⟨rfl, ?_, ?_, ?_⟩ <;> simp [go_sem, f0, f1, f2]
  clear f0 f1 f2
  obtain ⟨rfl, f0, f2, f11⟩ := hm
  refine SW.cond _ f11 (fun hx => ?_) (fun hx => ?_)
  · have h := condT h hx
    refine SW.seq ?_
    -- region 2
    refine SW.regX (fun f_ t_ => σ0 = t_ ∧ f_ 6 = AV.int (20)) (fun M hM => ?_) (fun fr3 τz2 hm => ?_)
    · simp [go_sem, f0, f11, f2]
      refine (hM _ _).2 ⟨rfl, ?_⟩ <;> simp [go_sem, f0, f11, f2]
    clear f0 f11 f2
    obtain ⟨rfl, f6⟩ := hm
    obtain rfl := Option.some.inj h
    exact SW.ret ⟨AV.int (20), by simp [go_sem, f6], .lit _, Keeps.refl _⟩
  have h := condF h hx
  refine SW.skip ?_
  refine SW.seq ?_
  refine SW.seq ?_
  -- region 3
  refine SW.regX (fun f_ t_ => σ0 = t_ ∧ f_ 0 = intsA (l) ∧ f_ 2 = AV.int (n) ∧ f_ 7 = AV.int (0)) (fun M hM => ?_) (fun fr4 τz3 hm => ?_)
  · simp [go_sem, f0, f11, f2]
    refine (hM _ _).2 ⟨rfl, ?_, ?_, ?_⟩ <;> simp [go_sem, f0, f11, f2]
  clear f0 f11 f2
  obtain ⟨rfl, f0, f2, f7⟩ := hm
  obtain ⟨oi1, hruni1, hoi1⟩ := obind h
  refine SW.len 0 f0 (fun hbigi1 => ?_)
  obtain ⟨KL, hKL⟩ : ∃ KL : Fr → Mem → Prop, ∀ fr' τ', KL fr' τ' ↔ (oi1 = .done () ∧ σ0 = τ') := ⟨_, fun _ _ => Iff.rfl⟩
  refine SW.cut KL ?_ ?_
  · refine SW.block ?_
    obtain ⟨J, hJ⟩ : ∃ J : Nat → Fr → Mem → Prop, ∀ m_ fr' τ', J m_ fr' τ' ↔ (∃ i : Nat, m_ = l.length - i ∧ forN (b1_ref17_partly l n) (l.length - i) i () = some oi1 ∧ σ0 = τ' ∧ fr' 0 = intsA (l) ∧ fr' 2 = AV.int (n) ∧ fr' 7 = AV.int (((i : Nat) : Int))) := ⟨_, fun _ _ _ => Iff.rfl⟩
    refine SW.loop J (l.length - 0) ((hJ _ _ _).2 ⟨0, rfl, hruni1, rfl, f0, f2, f7⟩) ?_
    clear hruni1
    intro m_ fr5 τ hm
    rw [hJ] at hm
    clear f0 f2 f7
    obtain ⟨i, rfl, hruni1, rfl, f0, f2, f7⟩ := hm
    refine SW.seq ?_
    refine SW.seq ?_
    -- region 4
    refine SW.regX (fun f_ t_ => σ0 = t_ ∧ f_ 0 = intsA (l) ∧ f_ 2 = AV.int (n) ∧ f_ 7 = AV.int (((i : Nat) : Int)) ∧ f_ 15 = AV.bool ((decide (i < l.length)))) (fun M hM => ?_) (fun fr6 τz4 hm => ?_)
    · simp [go_sem, f0, f2, f7]
      refine (hM _ _).2 ⟨rfl, ?_, ?_, ?_, ?_⟩ <;> simp [go_sem, f0, f2, f7]
    clear f0 f2 f7
    obtain ⟨rfl, f0, f2, f7, f15⟩ := hm
    refine SW.cond _ f15 (fun hx1 => ?_) (fun hx1 => ?_)
    rotate_left
    · have hk : ¬ i < l.length := by have := of_decide_eq_false hx1; omega
      refine SW.exit rfl ?_
      exact SW.goal ((hKL _ _).2 ⟨forN_end hruni1 hk, rfl⟩)
    have hki : i < l.length := by have := of_decide_eq_true hx1; omega
    have hwi : IntKind.i64.wrap ((i : Int) + 1) = ((i + 1 : Nat) : Int) := by rw [wrap64_of _ (by omega) (by omega)]; rfl
    obtain ⟨ci1, hbi1, hci1⟩ := forN_step hruni1 hki
    simp only [b1_ref17_partly] at hbi1
    refine SW.skip ?_
    refine SW.seq ?_
    refine SW.block ?_
    refine SW.seq ?_
    -- region 6
    obtain ⟨n1, hn1, hbi1⟩ := obind hbi1
    have xln1 := getN_lt hn1
    have xdn1 := getN_map AV.int hn1
    refine SW.regX (fun f_ t_ => σ0 = t_ ∧ f_ 0 = intsA (l) ∧ f_ 2 = AV.int (n) ∧ f_ 7 = AV.int (((i : Nat) : Int)) ∧ f_ 30 = AV.bool ((((decide (n1 < -1))) || ((decide (n ≤ n1)))))) (fun M hM => ?_) (fun fr7 τz5 hm => ?_)
    · rcases Bool.eq_false_or_eq_true ((decide (n1 < -1))) with y0 | y0
      · have y0' := y0
        try simp at y0'
        simp [go_sem, f0, f15, f2, f7, xln1, xdn1, y0, y0']
        refine (hM _ _).2 ⟨rfl, ?_, ?_, ?_, ?_⟩ <;> simp [go_sem, f0, f15, f2, f7, xln1, xdn1, y0, y0']
      · have y0' := y0
        try simp at y0'
        simp [go_sem, f0, f15, f2, f7, xln1, xdn1, y0, y0', xln1, xdn1]
        refine (hM _ _).2 ⟨rfl, ?_, ?_, ?_, ?_⟩ <;> simp [go_sem, f0, f15, f2, f7, xln1, xdn1, y0, y0', xln1, xdn1]
    clear f0 f15 f2 f7
    obtain ⟨rfl, f0, f2, f7, f30⟩ := hm
    refine SW.cond _ f30 (fun hx2 => ?_) (fun hx2 => ?_)
    · have hbi1 := condT hbi1 hx2
      refine SW.seq ?_
      -- region 7
      refine SW.regX (fun f_ t_ => σ0 = t_ ∧ f_ 6 = AV.int (6)) (fun M hM => ?_) (fun fr8 τz6 hm => ?_)
      · simp [go_sem, f0, f2, f30, f7]
        refine (hM _ _).2 ⟨rfl, ?_⟩ <;> simp [go_sem, f0, f2, f30, f7]
      clear f0 f2 f30 f7
      obtain ⟨rfl, f6⟩ := hm
      obtain rfl := Option.some.inj hbi1
      obtain rfl := Option.some.inj hci1
      obtain rfl := Option.some.inj hoi1
      exact SW.ret ⟨AV.int (6), by simp [go_sem, f6], .lit _, Keeps.refl _⟩
    have hbi1 := condF hbi1 hx2
    refine SW.skip ?_
    refine SW.blk ?_
    -- region 5
    refine SW.regX (fun f_ t_ => σ0 = t_ ∧ f_ 0 = intsA (l) ∧ f_ 2 = AV.int (n) ∧ f_ 7 = AV.int (((i + 1 : Nat) : Int))) (fun M hM => ?_) (fun fr9 τz7 hm => ?_)
    · simp [go_sem, f0, f2, f30, f7, hwi]
      refine (hM _ _).2 ⟨rfl, ?_, ?_, ?_⟩ <;> simp [go_sem, f0, f2, f30, f7, hwi]
    clear f0 f2 f30 f7
    obtain ⟨rfl, f0, f2, f7⟩ := hm
    obtain rfl := Option.some.inj hbi1
    exact SW.goal ⟨l.length - (i + 1), by omega, (hJ _ _ _).2 ⟨i + 1, rfl, hci1, rfl, f0, f2, f7⟩⟩
  intro fr10 τ1 hm
  rw [hKL] at hm
  clear hKL hruni1
  clear f0 f2 f7
  obtain ⟨rfl, rfl⟩ := hm
  simp only [Out.on] at hoi1
  refine SW.seq ?_
  -- region 8
  refine SW.regX (fun f_ t_ => σ0 = t_ ∧ f_ 6 = AV.int (0)) (fun M hM => ?_) (fun fr11 τz8 hm => ?_)
  · simp [go_sem]
    refine (hM _ _).2 ⟨rfl, ?_⟩ <;> simp [go_sem]
  obtain ⟨rfl, f6⟩ := hm
  obtain rfl := Option.some.inj hoi1
  exact SW.ret ⟨AV.int (0), by simp [go_sem, f6], .lit _, Keeps.refl _⟩
end Go.Proofs.YtdacgjleiloooaaGreat
