/-
  Plain functions and the walks that lead to them, by a program of ours (gen.py): scarfjoint/scarfjointref06.Valid.
-/
import Derived.Test.YtdacgjleiloooaaGreatGd
import Derived.Test.YtdacgjleiloooaaGreatGT
import Derived.Test.YtdacgjleiloooaaGreatB3
import Derived.Test.YtdacgjleiloooaaGreatGa10
set_option linter.unusedSimpArgs false
set_option linter.unusedVariables false
namespace Go.Proofs.YtdacgjleiloooaaGreat
open Go Go.Ew Go.Proofs Go.RowKit
set_option maxRecDepth 100000
set_option maxHeartbeats 4000000 in
theorem w_ref06_Valid (t : Graph) (o : Graph) (A : Morph) (r : (Int)) (h : s_ref06_Valid t o A = some r) : PureA Tryz.prog 14 [AV.agg [intsA (t.nodes), e3sA (t.edges)], AV.agg [intsA (o.nodes), e3sA (o.edges)], AV.agg [intsA (A.nodes), intsA (A.edges)]] (AV.int (r)) := by
  refine pureA_of_SW (N := 141) Tryz.func14 (by kernel_rfl) rfl (by rw [Tryz.ntmps14]; rfl) (fun σ0 => ?_)
  rw [Tryz.results14]
  obtain ⟨fr0, hfr⟩ : ∃ fr, fr = initFr [AV.agg [intsA (t.nodes), e3sA (t.edges)], AV.agg [intsA (o.nodes), e3sA (o.edges)], AV.agg [intsA (A.nodes), intsA (A.edges)]] := ⟨_, rfl⟩
  rw [← hfr]
  have f0 : fr0 0 = AV.agg [intsA (t.nodes), e3sA (t.edges)] := by rw [hfr]; rfl
  have f1 : fr0 1 = AV.agg [intsA (o.nodes), e3sA (o.edges)] := by rw [hfr]; rfl
  have f2 : fr0 2 = AV.agg [intsA (A.nodes), intsA (A.edges)] := by rw [hfr]; rfl
  clear hfr
  simp only [s_ref06_Valid] at h
  refine SW.seq ?_
  -- region 0
  refine SW.regX (fun f_ t_ => ∃ b3 : Nat, ∃ b4 : Nat, ∃ b5 : Nat, f_ 3 = AV.ptr b3 0 ∧ f_ 4 = AV.ptr b4 0 ∧ f_ 5 = AV.ptr b5 0 ∧ Kept σ0 t_ ∧ σ0.next ≤ t_.next ∧ t_.get b3 = some [intsA (t.nodes), e3sA (t.edges)] ∧ b3 < t_.next ∧ t_.get b4 = some [intsA (o.nodes), e3sA (o.edges)] ∧ b4 < t_.next ∧ t_.get b5 = some [intsA (A.nodes), intsA (A.edges)] ∧ b5 < t_.next ∧ σ0.next ≤ b3 ∧ σ0.next ≤ b4 ∧ ¬ b3 = b4 ∧ σ0.next ≤ b5 ∧ ¬ b3 = b5 ∧ ¬ b4 = b5) (fun M hM => ?_) (fun fr1 τ hm => ?_)
  · simp [go_sem, f0, f1, f2]
    refine (hM _ _).2 ⟨σ0.next, (σ0.next + 1), (σ0.next + 2), ?_, ?_, ?_, by intro j hj; simp [go_sem, show ¬ j = σ0.next by omega, show ¬ j = σ0.next + 1 by omega, show ¬ j = σ0.next + 2 by omega], by first | omega | (simp [go_sem]; done) | (simp [go_sem]; omega), by simp (disch := omega) [get_alloc_ne, get_set_ne, get_kill_ne, go_sem, f0, f1, f2], by first | omega | (simp [go_sem]; done) | (simp [go_sem]; omega), by simp (disch := omega) [get_alloc_ne, get_set_ne, get_kill_ne, go_sem, f0, f1, f2], by first | omega | (simp [go_sem]; done) | (simp [go_sem]; omega), by simp (disch := omega) [get_alloc_ne, get_set_ne, get_kill_ne, go_sem, f0, f1, f2], by first | omega | (simp [go_sem]; done) | (simp [go_sem]; omega), by omega, by omega, by omega, by omega, by omega, by omega⟩ <;> simp [go_sem, f0, f1, f2]
  clear f0 f1 f2
  obtain ⟨b3, b4, b5, f3, f4, f5, hK, hN, gb3, ub3, gb4, ub4, gb5, ub5, wb3, wb4, eb3b4, wb5, eb3b5, eb4b5⟩ := hm
  refine SW.seq ?_
  refine SW.seq ?_
  -- region 1
  obtain ⟨n, hn, h⟩ := obind h
  refine SW.regX (fun f_ t_ => τ = t_ ∧ f_ 3 = AV.ptr b3 0 ∧ f_ 4 = AV.ptr b4 0 ∧ f_ 5 = AV.ptr b5 0 ∧ f_ 7 = AV.int (n)) (fun M hM => ?_) (fun fr2 τz hm => ?_)
  · simp [go_sem, f3, f4, f5, gb3, gb4, gb5]
    refine EWcall_pure (w_ref05_Valid t _ hn) ?_
    simp [go_sem, f3, f4, f5, gb3, gb4, gb5]
    refine (hM _ _).2 ⟨rfl, ?_, ?_, ?_, ?_⟩ <;> simp [go_sem, f3, f4, f5, gb3, gb4, gb5]
  clear f3 f4 f5
  obtain ⟨rfl, f3, f4, f5, f7⟩ := hm
  refine SW.seq ?_
  -- region 2
  refine SW.regX (fun f_ t_ => τ = t_ ∧ f_ 3 = AV.ptr b3 0 ∧ f_ 4 = AV.ptr b4 0 ∧ f_ 5 = AV.ptr b5 0 ∧ f_ 7 = AV.int (n) ∧ f_ 16 = AV.bool ((!decide (n = 0)))) (fun M hM => ?_) (fun fr3 τz1 hm => ?_)
  · simp [go_sem, f3, f4, f5, f7, gb3, gb4, gb5]
    refine (hM _ _).2 ⟨rfl, ?_, ?_, ?_, ?_, ?_⟩ <;> simp [go_sem, f3, f4, f5, f7, gb3, gb4, gb5]
  clear f3 f4 f5 f7
  obtain ⟨rfl, f3, f4, f5, f7, f16⟩ := hm
  refine SW.cond _ f16 (fun hx => ?_) (fun hx => ?_)
  · have h := condT h hx
    refine SW.seq ?_
    -- region 3
    refine SW.regX (fun f_ t_ => τ = t_ ∧ f_ 6 = AV.int (n)) (fun M hM => ?_) (fun fr4 τz2 hm => ?_)
    · simp [go_sem, f16, f3, f4, f5, f7, gb3, gb4, gb5]
      refine (hM _ _).2 ⟨rfl, ?_⟩ <;> simp [go_sem, f16, f3, f4, f5, f7, gb3, gb4, gb5]
    clear f16 f3 f4 f5 f7
    obtain ⟨rfl, f6⟩ := hm
    obtain rfl := Option.some.inj h
    exact SW.ret ⟨AV.int (n), by simp [go_sem, f6], .lit _, hK.keeps⟩
  have h := condF h hx
  refine SW.skip ?_
  refine SW.seq ?_
  refine SW.seq ?_
  -- region 4
  obtain ⟨n1, hn1, h⟩ := obind h
  refine SW.regX (fun f_ t_ => τ = t_ ∧ f_ 3 = AV.ptr b3 0 ∧ f_ 4 = AV.ptr b4 0 ∧ f_ 5 = AV.ptr b5 0 ∧ f_ 8 = AV.int (n1)) (fun M hM => ?_) (fun fr5 τz3 hm => ?_)
  · simp [go_sem, f16, f3, f4, f5, f7, gb3, gb4, gb5]
    refine EWcall_pure (w_ref05_Valid o _ hn1) ?_
    simp [go_sem, f16, f3, f4, f5, f7, gb3, gb4, gb5]
    refine (hM _ _).2 ⟨rfl, ?_, ?_, ?_, ?_⟩ <;> simp [go_sem, f16, f3, f4, f5, f7, gb3, gb4, gb5]
  clear f16 f3 f4 f5 f7
  obtain ⟨rfl, f3, f4, f5, f8⟩ := hm
  refine SW.seq ?_
  -- region 5
  refine SW.regX (fun f_ t_ => τ = t_ ∧ f_ 3 = AV.ptr b3 0 ∧ f_ 4 = AV.ptr b4 0 ∧ f_ 5 = AV.ptr b5 0 ∧ f_ 8 = AV.int (n1) ∧ f_ 21 = AV.bool ((!decide (n1 = 0)))) (fun M hM => ?_) (fun fr6 τz4 hm => ?_)
  · simp [go_sem, f3, f4, f5, f8, gb3, gb4, gb5]
    refine (hM _ _).2 ⟨rfl, ?_, ?_, ?_, ?_, ?_⟩ <;> simp [go_sem, f3, f4, f5, f8, gb3, gb4, gb5]
  clear f3 f4 f5 f8
  obtain ⟨rfl, f3, f4, f5, f8, f21⟩ := hm
  refine SW.cond _ f21 (fun hx1 => ?_) (fun hx1 => ?_)
  · have h := condT h hx1
    refine SW.seq ?_
    -- region 6
    refine SW.regX (fun f_ t_ => τ = t_ ∧ f_ 6 = AV.int (n1)) (fun M hM => ?_) (fun fr7 τz5 hm => ?_)
    · simp [go_sem, f21, f3, f4, f5, f8, gb3, gb4, gb5]
      refine (hM _ _).2 ⟨rfl, ?_⟩ <;> simp [go_sem, f21, f3, f4, f5, f8, gb3, gb4, gb5]
    clear f21 f3 f4 f5 f8
    obtain ⟨rfl, f6⟩ := hm
    obtain rfl := Option.some.inj h
    exact SW.ret ⟨AV.int (n1), by simp [go_sem, f6], .lit _, hK.keeps⟩
  have h := condF h hx1
  refine SW.skip ?_
  refine SW.seq ?_
  refine SW.seq ?_
  -- region 7
  refine SW.regX (fun f_ t_ => τ = t_ ∧ f_ 3 = AV.ptr b3 0 ∧ f_ 4 = AV.ptr b4 0 ∧ f_ 5 = AV.ptr b5 0 ∧ f_ 38 = AV.bool ((((!decide (A.nodes.length = t.nodes.length))) || ((!decide (A.edges.length = t.edges.length)))))) (fun M hM => ?_) (fun fr8 τz6 hm => ?_)
  · rcases Bool.eq_false_or_eq_true ((!decide (A.nodes.length = t.nodes.length))) with y0 | y0
    · have y0' := y0
      try simp at y0'
      simp [go_sem, f21, f3, f4, f5, f8, gb3, gb4, gb5, y0, y0']
      refine (hM _ _).2 ⟨rfl, ?_, ?_, ?_, ?_⟩ <;> simp [go_sem, f21, f3, f4, f5, f8, gb3, gb4, gb5, y0, y0']
    · have y0' := y0
      try simp at y0'
      simp [go_sem, f21, f3, f4, f5, f8, gb3, gb4, gb5, y0, y0']
      refine (hM _ _).2 ⟨rfl, ?_, ?_, ?_, ?_⟩ <;> simp [go_sem, f21, f3, f4, f5, f8, gb3, gb4, gb5, y0, y0']
  clear f21 f3 f4 f5 f8
  obtain ⟨rfl, f3, f4, f5, f38⟩ := hm
  refine SW.cond _ f38 (fun hx2 => ?_) (fun hx2 => ?_)
  · have h := condT h hx2
    refine SW.seq ?_
    -- region 8
    refine SW.regX (fun f_ t_ => τ = t_ ∧ f_ 6 = AV.int (20)) (fun M hM => ?_) (fun fr9 τz7 hm => ?_)
    · simp [go_sem, f3, f38, f4, f5, gb3, gb4, gb5]
      refine (hM _ _).2 ⟨rfl, ?_⟩ <;> simp [go_sem, f3, f38, f4, f5, gb3, gb4, gb5]
    clear f3 f38 f4 f5
    obtain ⟨rfl, f6⟩ := hm
    obtain rfl := Option.some.inj h
    exact SW.ret ⟨AV.int (20), by simp [go_sem, f6], .lit _, hK.keeps⟩
  have h := condF h hx2
  refine SW.skip ?_
  refine SW.seq ?_
  refine SW.seq ?_
  -- region 9
  refine SW.regX (fun f_ t_ => τ = t_ ∧ f_ 3 = AV.ptr b3 0 ∧ f_ 4 = AV.ptr b4 0 ∧ f_ 5 = AV.ptr b5 0 ∧ f_ 9 = AV.int (0)) (fun M hM => ?_) (fun fr10 τz8 hm => ?_)
  · simp [go_sem, f3, f38, f4, f5, gb3, gb4, gb5]
    refine (hM _ _).2 ⟨rfl, ?_, ?_, ?_, ?_⟩ <;> simp [go_sem, f3, f38, f4, f5, gb3, gb4, gb5]
  clear f3 f38 f4 f5
  obtain ⟨rfl, f3, f4, f5, f9⟩ := hm
  obtain ⟨oi, hruni, hoi⟩ := obind h
  refine SW.lenB b3 0 gb3 rfl (fun hbigi => ?_)
  obtain ⟨KL, hKL⟩ : ∃ KL : Fr → Mem → Prop, ∀ fr' τ', KL fr' τ' ↔ (oi = .done () ∧ τ = τ' ∧ fr' 3 = AV.ptr b3 0 ∧ fr' 4 = AV.ptr b4 0 ∧ fr' 5 = AV.ptr b5 0) := ⟨_, fun _ _ => Iff.rfl⟩
  refine SW.cut KL ?_ ?_
  · refine SW.block ?_
    obtain ⟨J, hJ⟩ : ∃ J : Nat → Fr → Mem → Prop, ∀ m_ fr' τ', J m_ fr' τ' ↔ (∃ k : Nat, m_ = t.nodes.length - k ∧ forN (b1_ref06_Valid t o A) (t.nodes.length - k) k () = some oi ∧ τ = τ' ∧ fr' 3 = AV.ptr b3 0 ∧ fr' 4 = AV.ptr b4 0 ∧ fr' 5 = AV.ptr b5 0 ∧ fr' 9 = AV.int (((k : Nat) : Int))) := ⟨_, fun _ _ _ => Iff.rfl⟩
    refine SW.loop J (t.nodes.length - 0) ((hJ _ _ _).2 ⟨0, rfl, hruni, rfl, f3, f4, f5, f9⟩) ?_
    clear hruni
    intro m_ fr11 τ1 hm
    rw [hJ] at hm
    clear f3 f4 f5 f9
    obtain ⟨k, rfl, hruni, rfl, f3, f4, f5, f9⟩ := hm
    refine SW.seq ?_
    refine SW.seq ?_
    -- region 10
    refine SW.regX (fun f_ t_ => τ = t_ ∧ f_ 3 = AV.ptr b3 0 ∧ f_ 4 = AV.ptr b4 0 ∧ f_ 5 = AV.ptr b5 0 ∧ f_ 9 = AV.int (((k : Nat) : Int)) ∧ f_ 43 = AV.bool ((decide (k < t.nodes.length)))) (fun M hM => ?_) (fun fr12 τz9 hm => ?_)
    · simp [go_sem, f3, f4, f5, f9, gb3, gb4, gb5]
      refine (hM _ _).2 ⟨rfl, ?_, ?_, ?_, ?_, ?_⟩ <;> simp [go_sem, f3, f4, f5, f9, gb3, gb4, gb5]
    clear f3 f4 f5 f9
    obtain ⟨rfl, f3, f4, f5, f9, f43⟩ := hm
    refine SW.cond _ f43 (fun hx3 => ?_) (fun hx3 => ?_)
    rotate_left
    · have hk : ¬ k < t.nodes.length := by have := of_decide_eq_false hx3; omega
      refine SW.exit rfl ?_
      exact SW.goal ((hKL _ _).2 ⟨forN_end hruni hk, rfl, f3, f4, f5⟩)
    have hkk : k < t.nodes.length := by have := of_decide_eq_true hx3; omega
    have hwk : IntKind.i64.wrap ((k : Int) + 1) = ((k + 1 : Nat) : Int) := by rw [wrap64_of _ (by omega) (by omega)]; rfl
    obtain ⟨ci, hbi, hci⟩ := forN_step hruni hkk
    simp only [b1_ref06_Valid] at hbi
    refine SW.skip ?_
    refine SW.seq ?_
    refine SW.block ?_
    refine SW.seq ?_
    refine SW.seq ?_
    -- region 12
    obtain ⟨n2, hn2, hbi⟩ := obind hbi
    have xln2 := getN_lt hn2
    have xdn2 := getN_map AV.int hn2
    refine SW.regX (fun f_ t_ => τ = t_ ∧ f_ 3 = AV.ptr b3 0 ∧ f_ 4 = AV.ptr b4 0 ∧ f_ 5 = AV.ptr b5 0 ∧ f_ 9 = AV.int (((k : Nat) : Int)) ∧ f_ 62 = AV.bool ((((decide (n2 < 0))) || ((decide (((o.nodes.length : Nat) : Int) ≤ n2)))))) (fun M hM => ?_) (fun fr13 τz10 hm => ?_)
    · refine EW_regionD (by kernel_rfl) (by kernel_rfl) ?_
      rcases Bool.eq_false_or_eq_true ((decide (n2 < 0))) with y0 | y0
      · have y0' := y0
        try simp at y0'
        simp [go_sem, f3, f4, f43, f5, f9, gb3, gb4, gb5, xln2, xdn2, y0, y0']
        refine (hM _ _).2 ⟨rfl, ?_, ?_, ?_, ?_, ?_⟩ <;> simp [go_sem, f3, f4, f43, f5, f9, gb3, gb4, gb5, xln2, xdn2, y0, y0']
      · have y0' := y0
        try simp at y0'
        simp [go_sem, f3, f4, f43, f5, f9, gb3, gb4, gb5, xln2, xdn2, y0, y0', xln2, xdn2]
        refine (hM _ _).2 ⟨rfl, ?_, ?_, ?_, ?_, ?_⟩ <;> simp [go_sem, f3, f4, f43, f5, f9, gb3, gb4, gb5, xln2, xdn2, y0, y0', xln2, xdn2]
    clear f3 f4 f43 f5 f9
    obtain ⟨rfl, f3, f4, f5, f9, f62⟩ := hm
    refine SW.cond _ f62 (fun hx4 => ?_) (fun hx4 => ?_)
    · have hbi := condT hbi hx4
      refine SW.seq ?_
      -- region 13
      refine SW.regX (fun f_ t_ => τ = t_ ∧ f_ 6 = AV.int (6)) (fun M hM => ?_) (fun fr14 τz11 hm => ?_)
      · simp [go_sem, f3, f4, f5, f62, f9, gb3, gb4, gb5]
        refine (hM _ _).2 ⟨rfl, ?_⟩ <;> simp [go_sem, f3, f4, f5, f62, f9, gb3, gb4, gb5]
      clear f3 f4 f5 f62 f9
      obtain ⟨rfl, f6⟩ := hm
      obtain rfl := Option.some.inj hbi
      obtain rfl := Option.some.inj hci
      obtain rfl := Option.some.inj hoi
      exact SW.ret ⟨AV.int (6), by simp [go_sem, f6], .lit _, hK.keeps⟩
    have hbi := condF hbi hx4
    refine SW.skip ?_
    refine SW.seq ?_
    -- region 14
    obtain ⟨n5, hn5, hbi⟩ := obind hbi
    have xpn5 := getI_pos hn5
    have xln5 := getI_lt hn5
    have xin5 := getI_N hn5
    have xdn5 := getN_map AV.int xin5
    obtain ⟨n6, hn6, hbi⟩ := obind hbi
    have xln6 := getN_lt hn6
    have xdn6 := getN_map AV.int hn6
    refine SW.regX (fun f_ t_ => τ = t_ ∧ f_ 3 = AV.ptr b3 0 ∧ f_ 4 = AV.ptr b4 0 ∧ f_ 5 = AV.ptr b5 0 ∧ f_ 9 = AV.int (((k : Nat) : Int)) ∧ f_ 77 = AV.bool ((!decide (n5 = n6)))) (fun M hM => ?_) (fun fr15 τz12 hm => ?_)
    · refine EW_regionD (by kernel_rfl) (by kernel_rfl) ?_
      simp [go_sem, f3, f4, f5, f62, f9, gb3, gb4, gb5, xln2, xdn2, xpn5, xln5, xdn5, xln6, xdn6]
      refine (hM _ _).2 ⟨rfl, ?_, ?_, ?_, ?_, ?_⟩ <;> simp [go_sem, f3, f4, f5, f62, f9, gb3, gb4, gb5, xln2, xdn2, xpn5, xln5, xdn5, xln6, xdn6]
    clear f3 f4 f5 f62 f9
    obtain ⟨rfl, f3, f4, f5, f9, f77⟩ := hm
    refine SW.cond _ f77 (fun hx5 => ?_) (fun hx5 => ?_)
    · have hbi := condT hbi hx5
      refine SW.seq ?_
      -- region 15
      refine SW.regX (fun f_ t_ => τ = t_ ∧ f_ 6 = AV.int (13)) (fun M hM => ?_) (fun fr16 τz13 hm => ?_)
      · simp [go_sem, f3, f4, f5, f77, f9, gb3, gb4, gb5]
        refine (hM _ _).2 ⟨rfl, ?_⟩ <;> simp [go_sem, f3, f4, f5, f77, f9, gb3, gb4, gb5]
      clear f3 f4 f5 f77 f9
      obtain ⟨rfl, f6⟩ := hm
      obtain rfl := Option.some.inj hbi
      obtain rfl := Option.some.inj hci
      obtain rfl := Option.some.inj hoi
      exact SW.ret ⟨AV.int (13), by simp [go_sem, f6], .lit _, hK.keeps⟩
    have hbi := condF hbi hx5
    refine SW.skip ?_
    refine SW.blk ?_
    -- region 11
    refine SW.regX (fun f_ t_ => τ = t_ ∧ f_ 3 = AV.ptr b3 0 ∧ f_ 4 = AV.ptr b4 0 ∧ f_ 5 = AV.ptr b5 0 ∧ f_ 9 = AV.int (((k + 1 : Nat) : Int))) (fun M hM => ?_) (fun fr17 τz14 hm => ?_)
    · simp [go_sem, f3, f4, f5, f77, f9, gb3, gb4, gb5, hwk]
      refine (hM _ _).2 ⟨rfl, ?_, ?_, ?_, ?_⟩ <;> simp [go_sem, f3, f4, f5, f77, f9, gb3, gb4, gb5, hwk]
    clear f3 f4 f5 f77 f9
    obtain ⟨rfl, f3, f4, f5, f9⟩ := hm
    obtain rfl := Option.some.inj hbi
    exact SW.goal ⟨t.nodes.length - (k + 1), by omega, (hJ _ _ _).2 ⟨k + 1, rfl, hci, rfl, f3, f4, f5, f9⟩⟩
  intro fr18 τ2 hm
  rw [hKL] at hm
  clear hKL hruni
  clear f3 f4 f5 f9
  obtain ⟨rfl, rfl, f3, f4, f5⟩ := hm
  simp only [Out.on] at hoi
  refine SW.seq ?_
  refine SW.seq ?_
  -- region 16
  refine SW.regX (fun f_ t_ => τ = t_ ∧ f_ 3 = AV.ptr b3 0 ∧ f_ 4 = AV.ptr b4 0 ∧ f_ 5 = AV.ptr b5 0 ∧ f_ 10 = AV.int (0)) (fun M hM => ?_) (fun fr19 τz15 hm => ?_)
  · simp [go_sem, f3, f4, f5, gb3, gb4, gb5]
    refine (hM _ _).2 ⟨rfl, ?_, ?_, ?_, ?_⟩ <;> simp [go_sem, f3, f4, f5, gb3, gb4, gb5]
  clear f3 f4 f5
  obtain ⟨rfl, f3, f4, f5, f10⟩ := hm
  obtain ⟨oi1, hruni1, hoi1⟩ := obind hoi
  refine SW.lenB b3 1 gb3 rfl (fun hbigi1 => ?_)
  obtain ⟨KL, hKL⟩ : ∃ KL : Fr → Mem → Prop, ∀ fr' τ', KL fr' τ' ↔ (oi1 = .done () ∧ Kept σ0 τ' ∧ σ0.next ≤ τ'.next) := ⟨_, fun _ _ => Iff.rfl⟩
  refine SW.cut KL ?_ ?_
  · refine SW.block ?_
    obtain ⟨J, hJ⟩ : ∃ J : Nat → Fr → Mem → Prop, ∀ m_ fr' τ', J m_ fr' τ' ↔ (∃ k1 : Nat, m_ = t.edges.length - k1 ∧ forN (b3_ref06_Valid t o A) (t.edges.length - k1) k1 () = some oi1 ∧ fr' 3 = AV.ptr b3 0 ∧ fr' 4 = AV.ptr b4 0 ∧ fr' 5 = AV.ptr b5 0 ∧ fr' 10 = AV.int (((k1 : Nat) : Int)) ∧ Kept σ0 τ' ∧ σ0.next ≤ τ'.next ∧ τ'.get b3 = some [intsA (t.nodes), e3sA (t.edges)] ∧ b3 < τ'.next ∧ τ'.get b4 = some [intsA (o.nodes), e3sA (o.edges)] ∧ b4 < τ'.next ∧ τ'.get b5 = some [intsA (A.nodes), intsA (A.edges)] ∧ b5 < τ'.next) := ⟨_, fun _ _ _ => Iff.rfl⟩
    refine SW.loop J (t.edges.length - 0) ((hJ _ _ _).2 ⟨0, rfl, hruni1, f3, f4, f5, f10, hK, hN, gb3, ub3, gb4, ub4, gb5, ub5⟩) ?_
    clear hruni1
    intro m_ fr20 τ3 hm
    rw [hJ] at hm
    clear f10 f3 f4 f5 hK hN gb3 ub3 gb4 ub4 gb5 ub5
    obtain ⟨k1, rfl, hruni1, f3, f4, f5, f10, hK, hN, gb3, ub3, gb4, ub4, gb5, ub5⟩ := hm
    refine SW.seq ?_
    refine SW.seq ?_
    -- region 17
    refine SW.regX (fun f_ t_ => τ3 = t_ ∧ f_ 3 = AV.ptr b3 0 ∧ f_ 4 = AV.ptr b4 0 ∧ f_ 5 = AV.ptr b5 0 ∧ f_ 10 = AV.int (((k1 : Nat) : Int)) ∧ f_ 82 = AV.bool ((decide (k1 < t.edges.length)))) (fun M hM => ?_) (fun fr21 τz16 hm => ?_)
    · simp [go_sem, f10, f3, f4, f5, gb3, gb4, gb5]
      refine (hM _ _).2 ⟨rfl, ?_, ?_, ?_, ?_, ?_⟩ <;> simp [go_sem, f10, f3, f4, f5, gb3, gb4, gb5]
    clear f10 f3 f4 f5
    obtain ⟨rfl, f3, f4, f5, f10, f82⟩ := hm
    refine SW.cond _ f82 (fun hx6 => ?_) (fun hx6 => ?_)
    rotate_left
    · have hk : ¬ k1 < t.edges.length := by have := of_decide_eq_false hx6; omega
      refine SW.exit rfl ?_
      exact SW.goal ((hKL _ _).2 ⟨forN_end hruni1 hk, hK, hN⟩)
    have hkk1 : k1 < t.edges.length := by have := of_decide_eq_true hx6; omega
    have hwk1 : IntKind.i64.wrap ((k1 : Int) + 1) = ((k1 + 1 : Nat) : Int) := by rw [wrap64_of _ (by omega) (by omega)]; rfl
    obtain ⟨ci1, hbi1, hci1⟩ := forN_step hruni1 hkk1
    simp only [b3_ref06_Valid] at hbi1
    refine SW.skip ?_
    refine SW.seq ?_
    refine SW.block ?_
    refine SW.seq ?_
    refine SW.seq ?_
    -- region 19
    obtain ⟨n7, hn7, hbi1⟩ := obind hbi1
    have xln7 := getN_lt hn7
    have xdn7 := getN_map AV.int hn7
    refine SW.regX (fun f_ t_ => τ3 = t_ ∧ f_ 3 = AV.ptr b3 0 ∧ f_ 4 = AV.ptr b4 0 ∧ f_ 5 = AV.ptr b5 0 ∧ f_ 10 = AV.int (((k1 : Nat) : Int)) ∧ f_ 101 = AV.bool ((((decide (n7 < 0))) || ((decide (((o.edges.length : Nat) : Int) ≤ n7)))))) (fun M hM => ?_) (fun fr22 τz17 hm => ?_)
    · refine EW_regionD (by kernel_rfl) (by kernel_rfl) ?_
      rcases Bool.eq_false_or_eq_true ((decide (n7 < 0))) with y0 | y0
      · have y0' := y0
        try simp at y0'
        simp [go_sem, f10, f3, f4, f5, f82, gb3, gb4, gb5, xln7, xdn7, y0, y0']
        refine (hM _ _).2 ⟨rfl, ?_, ?_, ?_, ?_, ?_⟩ <;> simp [go_sem, f10, f3, f4, f5, f82, gb3, gb4, gb5, xln7, xdn7, y0, y0']
      · have y0' := y0
        try simp at y0'
        simp [go_sem, f10, f3, f4, f5, f82, gb3, gb4, gb5, xln7, xdn7, y0, y0', xln7, xdn7]
        refine (hM _ _).2 ⟨rfl, ?_, ?_, ?_, ?_, ?_⟩ <;> simp [go_sem, f10, f3, f4, f5, f82, gb3, gb4, gb5, xln7, xdn7, y0, y0', xln7, xdn7]
    clear f10 f3 f4 f5 f82
    obtain ⟨rfl, f3, f4, f5, f10, f101⟩ := hm
    refine SW.cond _ f101 (fun hx7 => ?_) (fun hx7 => ?_)
    · have hbi1 := condT hbi1 hx7
      refine SW.seq ?_
      -- region 20
      refine SW.regX (fun f_ t_ => τ3 = t_ ∧ f_ 6 = AV.int (6)) (fun M hM => ?_) (fun fr23 τz18 hm => ?_)
      · simp [go_sem, f10, f101, f3, f4, f5, gb3, gb4, gb5]
        refine (hM _ _).2 ⟨rfl, ?_⟩ <;> simp [go_sem, f10, f101, f3, f4, f5, gb3, gb4, gb5]
      clear f10 f101 f3 f4 f5
      obtain ⟨rfl, f6⟩ := hm
      obtain rfl := Option.some.inj hbi1
      obtain rfl := Option.some.inj hci1
      obtain rfl := Option.some.inj hoi1
      exact SW.ret ⟨AV.int (6), by simp [go_sem, f6], .lit _, hK.keeps⟩
    have hbi1 := condF hbi1 hx7
    refine SW.skip ?_
    refine SW.seq ?_
    -- region 21
    obtain ⟨x, hx, hbi1⟩ := obind hbi1
    have xlx := getN_lt hx
    have xdx := getN_flat e3C 3 (fun _ => rfl) hx
    obtain ⟨x1, hx1, hbi1⟩ := obind hbi1
    have xpx1 := getI_pos hx1
    have xlx1 := getI_lt hx1
    have xix1 := getI_N hx1
    have xdx1 := getN_flat e3C 3 (fun _ => rfl) xix1
    refine SW.regX (fun f_ t_ => ∃ b11 : Nat, ∃ b12 : Nat, f_ 3 = AV.ptr b3 0 ∧ f_ 4 = AV.ptr b4 0 ∧ f_ 5 = AV.ptr b5 0 ∧ f_ 10 = AV.int (((k1 : Nat) : Int)) ∧ f_ 11 = AV.ptr b11 0 ∧ f_ 12 = AV.ptr b12 0 ∧ Kept σ0 t_ ∧ σ0.next ≤ t_.next ∧ t_.get b3 = some [intsA (t.nodes), e3sA (t.edges)] ∧ b3 < t_.next ∧ t_.get b4 = some [intsA (o.nodes), e3sA (o.edges)] ∧ b4 < t_.next ∧ t_.get b5 = some [intsA (A.nodes), intsA (A.edges)] ∧ b5 < t_.next ∧ t_.get b11 = some [AV.int (x.kind), AV.int (x.src), AV.int (x.tgt)] ∧ b11 < t_.next ∧ t_.get b12 = some [AV.int (x1.kind), AV.int (x1.src), AV.int (x1.tgt)] ∧ b12 < t_.next ∧ σ0.next ≤ b11 ∧ ¬ b3 = b11 ∧ ¬ b4 = b11 ∧ ¬ b5 = b11 ∧ σ0.next ≤ b12 ∧ ¬ b3 = b12 ∧ ¬ b4 = b12 ∧ ¬ b5 = b12 ∧ ¬ b11 = b12) (fun M hM => ?_) (fun fr24 τ4 hm => ?_)
    · have nb3_0 : ¬ b3 = τ3.next := by omega
      have nb3_1 : ¬ b3 = τ3.next + 1 := by omega
      have nb4_0 : ¬ b4 = τ3.next := by omega
      have nb4_1 : ¬ b4 = τ3.next + 1 := by omega
      have nb5_0 : ¬ b5 = τ3.next := by omega
      have nb5_1 : ¬ b5 = τ3.next + 1 := by omega
      have nb3_b4 : ¬ b3 = b4 := by omega
      have nb3_b5 : ¬ b3 = b5 := by omega
      have nb4_b3 : ¬ b4 = b3 := by omega
      have nb4_b5 : ¬ b4 = b5 := by omega
      have nb5_b3 : ¬ b5 = b3 := by omega
      have nb5_b4 : ¬ b5 = b4 := by omega
      refine EW_regionY τ3 18 (.q false 0 (.q false 1 (.q false 2 (.q false 3 (.q false 4 (.q false 5 (.q false 6 (.q false 7 (.q false 8 (.q false 9 (.q false 10 (.q false 11 (.q false 12 (.q false 13 (.both (.s 14 (.s 15 (.s 16 (.s 17 .done)))) (.s 15 (.s 14 (.s 16 (.s 17 .done))))))))))))))))))) (by kernel_rfl) (by kernel_rfl) (fun _ _ h => h) (fun hfin => ?_)
      have m0_ : τ3.get (τ3.next) = none := hfin _ (by omega)
      have m1_ : τ3.get (τ3.next + 1) = none := hfin _ (by omega)
      have hsub : Sub τ3 τ3 := (fun _ _ h => h)
      simp (maxDischargeDepth := 12) [go_sem, f10, f101, f3, f4, f5, gb3, gb4, gb5, xlx, xdx, e3C, xln7, xdn7, xpx1, xlx1, xdx1, e3C, nb3_0, nb3_1, nb4_0, nb4_1, nb5_0, nb5_1, nb3_b4, nb3_b5, nb4_b3, nb4_b5, nb5_b3, nb5_b4, m0_, m1_, sub_set, sub_killAll, hsub]
      refine ⟨?_, ?_⟩
      · refine (hM _ _).2 ⟨τ3.next, (τ3.next + 1), ?_, ?_, ?_, ?_, ?_, ?_, by intro j hj; have hj_ := hK j hj; simp [go_sem, hj_.1, hj_.2, show ¬ j = τ3.next by omega, show ¬ j = τ3.next + 1 by omega], by first | omega | (simp [go_sem]; done) | (simp [go_sem]; omega), by simp (disch := omega) [get_alloc_ne, get_set_ne, get_kill_ne, go_sem, f10, f101, f3, f4, f5, gb3, gb4, gb5, xlx, xdx, e3C, xln7, xdn7, xpx1, xlx1, xdx1, e3C, nb3_0, nb3_1, nb4_0, nb4_1, nb5_0, nb5_1, nb3_b4, nb3_b5, nb4_b3, nb4_b5, nb5_b3, nb5_b4, m0_, m1_, sub_set, sub_killAll, hsub], by first | omega | (simp [go_sem]; done) | (simp [go_sem]; omega), by simp (disch := omega) [get_alloc_ne, get_set_ne, get_kill_ne, go_sem, f10, f101, f3, f4, f5, gb3, gb4, gb5, xlx, xdx, e3C, xln7, xdn7, xpx1, xlx1, xdx1, e3C, nb3_0, nb3_1, nb4_0, nb4_1, nb5_0, nb5_1, nb3_b4, nb3_b5, nb4_b3, nb4_b5, nb5_b3, nb5_b4, m0_, m1_, sub_set, sub_killAll, hsub], by first | omega | (simp [go_sem]; done) | (simp [go_sem]; omega), by simp (disch := omega) [get_alloc_ne, get_set_ne, get_kill_ne, go_sem, f10, f101, f3, f4, f5, gb3, gb4, gb5, xlx, xdx, e3C, xln7, xdn7, xpx1, xlx1, xdx1, e3C, nb3_0, nb3_1, nb4_0, nb4_1, nb5_0, nb5_1, nb3_b4, nb3_b5, nb4_b3, nb4_b5, nb5_b3, nb5_b4, m0_, m1_, sub_set, sub_killAll, hsub], by first | omega | (simp [go_sem]; done) | (simp [go_sem]; omega), by simp (disch := omega) [get_alloc_ne, get_set_ne, get_kill_ne, go_sem, f10, f101, f3, f4, f5, gb3, gb4, gb5, xlx, xdx, e3C, xln7, xdn7, xpx1, xlx1, xdx1, e3C, nb3_0, nb3_1, nb4_0, nb4_1, nb5_0, nb5_1, nb3_b4, nb3_b5, nb4_b3, nb4_b5, nb5_b3, nb5_b4, m0_, m1_, sub_set, sub_killAll, hsub], by first | omega | (simp [go_sem]; done) | (simp [go_sem]; omega), by simp (disch := omega) [get_alloc_ne, get_set_ne, get_kill_ne, go_sem, f10, f101, f3, f4, f5, gb3, gb4, gb5, xlx, xdx, e3C, xln7, xdn7, xpx1, xlx1, xdx1, e3C, nb3_0, nb3_1, nb4_0, nb4_1, nb5_0, nb5_1, nb3_b4, nb3_b5, nb4_b3, nb4_b5, nb5_b3, nb5_b4, m0_, m1_, sub_set, sub_killAll, hsub], by first | omega | (simp [go_sem]; done) | (simp [go_sem]; omega), by omega, by omega, by omega, by omega, by omega, by omega, by omega, by omega, by omega⟩ <;> simp [go_sem, f10, f101, f3, f4, f5, gb3, gb4, gb5, xlx, xdx, e3C, xln7, xdn7, xpx1, xlx1, xdx1, e3C, nb3_0, nb3_1, nb4_0, nb4_1, nb5_0, nb5_1, nb3_b4, nb3_b5, nb4_b3, nb4_b5, nb5_b3, nb5_b4, m0_, m1_, sub_set, sub_killAll, hsub]
      · refine (hM _ _).2 ⟨(τ3.next + 1), τ3.next, ?_, ?_, ?_, ?_, ?_, ?_, by intro j hj; have hj_ := hK j hj; simp [go_sem, hj_.1, hj_.2, show ¬ j = τ3.next by omega, show ¬ j = τ3.next + 1 by omega], by first | omega | (simp [go_sem]; done) | (simp [go_sem]; omega), by simp (disch := omega) [get_alloc_ne, get_set_ne, get_kill_ne, go_sem, f10, f101, f3, f4, f5, gb3, gb4, gb5, xlx, xdx, e3C, xln7, xdn7, xpx1, xlx1, xdx1, e3C, nb3_0, nb3_1, nb4_0, nb4_1, nb5_0, nb5_1, nb3_b4, nb3_b5, nb4_b3, nb4_b5, nb5_b3, nb5_b4, m0_, m1_, sub_set, sub_killAll, hsub], by first | omega | (simp [go_sem]; done) | (simp [go_sem]; omega), by simp (disch := omega) [get_alloc_ne, get_set_ne, get_kill_ne, go_sem, f10, f101, f3, f4, f5, gb3, gb4, gb5, xlx, xdx, e3C, xln7, xdn7, xpx1, xlx1, xdx1, e3C, nb3_0, nb3_1, nb4_0, nb4_1, nb5_0, nb5_1, nb3_b4, nb3_b5, nb4_b3, nb4_b5, nb5_b3, nb5_b4, m0_, m1_, sub_set, sub_killAll, hsub], by first | omega | (simp [go_sem]; done) | (simp [go_sem]; omega), by simp (disch := omega) [get_alloc_ne, get_set_ne, get_kill_ne, go_sem, f10, f101, f3, f4, f5, gb3, gb4, gb5, xlx, xdx, e3C, xln7, xdn7, xpx1, xlx1, xdx1, e3C, nb3_0, nb3_1, nb4_0, nb4_1, nb5_0, nb5_1, nb3_b4, nb3_b5, nb4_b3, nb4_b5, nb5_b3, nb5_b4, m0_, m1_, sub_set, sub_killAll, hsub], by first | omega | (simp [go_sem]; done) | (simp [go_sem]; omega), by simp (disch := omega) [get_alloc_ne, get_set_ne, get_kill_ne, go_sem, f10, f101, f3, f4, f5, gb3, gb4, gb5, xlx, xdx, e3C, xln7, xdn7, xpx1, xlx1, xdx1, e3C, nb3_0, nb3_1, nb4_0, nb4_1, nb5_0, nb5_1, nb3_b4, nb3_b5, nb4_b3, nb4_b5, nb5_b3, nb5_b4, m0_, m1_, sub_set, sub_killAll, hsub], by first | omega | (simp [go_sem]; done) | (simp [go_sem]; omega), by simp (disch := omega) [get_alloc_ne, get_set_ne, get_kill_ne, go_sem, f10, f101, f3, f4, f5, gb3, gb4, gb5, xlx, xdx, e3C, xln7, xdn7, xpx1, xlx1, xdx1, e3C, nb3_0, nb3_1, nb4_0, nb4_1, nb5_0, nb5_1, nb3_b4, nb3_b5, nb4_b3, nb4_b5, nb5_b3, nb5_b4, m0_, m1_, sub_set, sub_killAll, hsub], by first | omega | (simp [go_sem]; done) | (simp [go_sem]; omega), by omega, by omega, by omega, by omega, by omega, by omega, by omega, by omega, by omega⟩ <;> simp [go_sem, f10, f101, f3, f4, f5, gb3, gb4, gb5, xlx, xdx, e3C, xln7, xdn7, xpx1, xlx1, xdx1, e3C, nb3_0, nb3_1, nb4_0, nb4_1, nb5_0, nb5_1, nb3_b4, nb3_b5, nb4_b3, nb4_b5, nb5_b3, nb5_b4, m0_, m1_, sub_set, sub_killAll, hsub]
    clear f10 f101 f3 f4 f5 hK hN gb3 ub3 gb4 ub4 gb5 ub5
    obtain ⟨b11, b12, f3, f4, f5, f10, f11, f12, hK, hN, gb3, ub3, gb4, ub4, gb5, ub5, gb11, ub11, gb12, ub12, wb11, eb3b11, eb4b11, eb5b11, wb12, eb3b12, eb4b12, eb5b12, eb11b12⟩ := hm
    refine SW.seq ?_
    refine SW.seq ?_
    -- region 22
    refine SW.regX (fun f_ t_ => τ4 = t_ ∧ f_ 3 = AV.ptr b3 0 ∧ f_ 4 = AV.ptr b4 0 ∧ f_ 5 = AV.ptr b5 0 ∧ f_ 10 = AV.int (((k1 : Nat) : Int)) ∧ f_ 11 = AV.ptr b11 0 ∧ f_ 12 = AV.ptr b12 0 ∧ f_ 120 = AV.bool ((!decide (x.kind = x1.kind)))) (fun M hM => ?_) (fun fr25 τz19 hm => ?_)
    · simp [go_sem, f10, f11, f12, f3, f4, f5, gb3, gb4, gb5, gb11, gb12]
      refine (hM _ _).2 ⟨rfl, ?_, ?_, ?_, ?_, ?_, ?_, ?_⟩ <;> simp [go_sem, f10, f11, f12, f3, f4, f5, gb3, gb4, gb5, gb11, gb12]
    clear f10 f11 f12 f3 f4 f5
    obtain ⟨rfl, f3, f4, f5, f10, f11, f12, f120⟩ := hm
    refine SW.cond _ f120 (fun hx8 => ?_) (fun hx8 => ?_)
    · have hbi1 := condT hbi1 hx8
      refine SW.seq ?_
      -- region 23
      refine SW.regX (fun f_ t_ => τ4 = t_ ∧ f_ 6 = AV.int (13)) (fun M hM => ?_) (fun fr26 τz20 hm => ?_)
      · simp [go_sem, f10, f11, f12, f120, f3, f4, f5, gb3, gb4, gb5, gb11, gb12]
        refine (hM _ _).2 ⟨rfl, ?_⟩ <;> simp [go_sem, f10, f11, f12, f120, f3, f4, f5, gb3, gb4, gb5, gb11, gb12]
      clear f10 f11 f12 f120 f3 f4 f5
      obtain ⟨rfl, f6⟩ := hm
      obtain rfl := Option.some.inj hbi1
      obtain rfl := Option.some.inj hci1
      obtain rfl := Option.some.inj hoi1
      exact SW.ret ⟨AV.int (13), by simp [go_sem, f6], .lit _, hK.keeps⟩
    have hbi1 := condF hbi1 hx8
    refine SW.skip ?_
    refine SW.seq ?_
    -- region 24
    obtain ⟨n10, hn10, hbi1⟩ := obind hbi1
    have xpn10 := getI_pos hn10
    have xln10 := getI_lt hn10
    have xin10 := getI_N hn10
    have xdn10 := getN_map AV.int xin10
    obtain ⟨c, hc, hbi1⟩ := obind hbi1
    refine SW.regX (fun f_ t_ => τ4 = t_ ∧ f_ 3 = AV.ptr b3 0 ∧ f_ 4 = AV.ptr b4 0 ∧ f_ 5 = AV.ptr b5 0 ∧ f_ 10 = AV.int (((k1 : Nat) : Int)) ∧ f_ 140 = AV.bool (c)) (fun M hM => ?_) (fun fr27 τz21 hm => ?_)
    · refine EW_regionD (by kernel_rfl) (by kernel_rfl) ?_
      rcases Bool.eq_false_or_eq_true ((!decide (n10 = x1.src))) with y0 | y0
      · have y0' := y0
        try simp at y0'
        have ky0 := condT hc y0
        have ec := Option.some.inj ky0
        simp [go_sem, f10, f11, f12, f120, f3, f4, f5, gb3, gb4, gb5, gb11, gb12, xpn10, xln10, xdn10, y0, y0']
        refine (hM _ _).2 ⟨rfl, ?_, ?_, ?_, ?_, ?_⟩ <;> simp [go_sem, f10, f11, f12, f120, f3, f4, f5, gb3, gb4, gb5, gb11, gb12, xpn10, xln10, xdn10, y0, y0', ← ec]
      · have y0' := y0
        try simp at y0'
        have ky0 := condF hc y0
        obtain ⟨n11, hn11, ky0⟩ := obind ky0
        have xpn11 := getI_pos hn11
        have xln11 := getI_lt hn11
        have xin11 := getI_N hn11
        have xdn11 := getN_map AV.int xin11
        have ec := Option.some.inj ky0
        simp [go_sem, f10, f11, f12, f120, f3, f4, f5, gb3, gb4, gb5, gb11, gb12, xpn10, xln10, xdn10, y0, y0', xpn11, xln11, xdn11]
        refine (hM _ _).2 ⟨rfl, ?_, ?_, ?_, ?_, ?_⟩ <;> simp [go_sem, f10, f11, f12, f120, f3, f4, f5, gb3, gb4, gb5, gb11, gb12, xpn10, xln10, xdn10, y0, y0', xpn11, xln11, xdn11, ← ec]
    clear f10 f11 f12 f120 f3 f4 f5
    obtain ⟨rfl, f3, f4, f5, f10, f140⟩ := hm
    refine SW.cond _ f140 (fun hx9 => ?_) (fun hx9 => ?_)
    · have hbi1 := condT hbi1 hx9
      refine SW.seq ?_
      -- region 25
      refine SW.regX (fun f_ t_ => τ4 = t_ ∧ f_ 6 = AV.int (11)) (fun M hM => ?_) (fun fr28 τz22 hm => ?_)
      · simp [go_sem, f10, f140, f3, f4, f5, gb3, gb4, gb5]
        refine (hM _ _).2 ⟨rfl, ?_⟩ <;> simp [go_sem, f10, f140, f3, f4, f5, gb3, gb4, gb5]
      clear f10 f140 f3 f4 f5
      obtain ⟨rfl, f6⟩ := hm
      obtain rfl := Option.some.inj hbi1
      obtain rfl := Option.some.inj hci1
      obtain rfl := Option.some.inj hoi1
      exact SW.ret ⟨AV.int (11), by simp [go_sem, f6], .lit _, hK.keeps⟩
    have hbi1 := condF hbi1 hx9
    refine SW.skip ?_
    refine SW.blk ?_
    -- region 18
    refine SW.regX (fun f_ t_ => τ4 = t_ ∧ f_ 3 = AV.ptr b3 0 ∧ f_ 4 = AV.ptr b4 0 ∧ f_ 5 = AV.ptr b5 0 ∧ f_ 10 = AV.int (((k1 + 1 : Nat) : Int))) (fun M hM => ?_) (fun fr29 τz23 hm => ?_)
    · simp [go_sem, f10, f140, f3, f4, f5, gb3, gb4, gb5, hwk1]
      refine (hM _ _).2 ⟨rfl, ?_, ?_, ?_, ?_⟩ <;> simp [go_sem, f10, f140, f3, f4, f5, gb3, gb4, gb5, hwk1]
    clear f10 f140 f3 f4 f5
    obtain ⟨rfl, f3, f4, f5, f10⟩ := hm
    obtain rfl := Option.some.inj hbi1
    exact SW.goal ⟨t.edges.length - (k1 + 1), by omega, (hJ _ _ _).2 ⟨k1 + 1, rfl, hci1, f3, f4, f5, f10, hK, hN, gb3, ub3, gb4, ub4, gb5, ub5⟩⟩
  intro fr30 τ5 hm
  rw [hKL] at hm
  clear hKL hruni1
  clear f10 f3 f4 f5 hK hN gb3 ub3 gb4 ub4 gb5 ub5
  obtain ⟨rfl, hK, hN⟩ := hm
  simp only [Out.on] at hoi1
  refine SW.seq ?_
  -- region 26
  refine SW.regX (fun f_ t_ => τ5 = t_ ∧ f_ 6 = AV.int (0)) (fun M hM => ?_) (fun fr31 τz24 hm => ?_)
  · simp [go_sem]
    refine (hM _ _).2 ⟨rfl, ?_⟩ <;> simp [go_sem]
  obtain ⟨rfl, f6⟩ := hm
  obtain rfl := Option.some.inj hoi1
  exact SW.ret ⟨AV.int (0), by simp [go_sem, f6], .lit _, hK.keeps⟩
end Go.Proofs.YtdacgjleiloooaaGreat
