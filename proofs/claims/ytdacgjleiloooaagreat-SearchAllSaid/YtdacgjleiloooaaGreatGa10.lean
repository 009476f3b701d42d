/-
  Plain functions and the walks that lead to them, by a program of ours (gen.py): scarfjoint/scarfjointref05.right, scarfjoint/scarfjointref05.Valid, scarfjoint/scarfjointref17.Typed.
-/
import Derived.Test.YtdacgjleiloooaaGreatGd
import Derived.Test.YtdacgjleiloooaaGreatGT
import Derived.Test.YtdacgjleiloooaaGreatB3
import Derived.Test.YtdacgjleiloooaaGreatGS
import Derived.Test.YtdacgjleiloooaaGreatGa9
set_option linter.unusedSimpArgs false
set_option linter.unusedVariables false
namespace Go.Proofs.YtdacgjleiloooaaGreat
open Go Go.Ew Go.Proofs Go.RowKit
set_option maxRecDepth 100000
set_option maxHeartbeats 4000000 in
theorem w_ref05_right (e : E3) (nodes : Int) (r : (Bool)) (h : s_ref05_right e nodes = some r) : PureA Tryz.prog 62 [AV.agg [AV.int (e.kind), AV.int (e.src), AV.int (e.tgt)], AV.int (nodes)] (AV.bool (r)) := by
 refine pureA_of_SW (N := 30) Tryz.func62 (by kernel_rfl) rfl (by rw [Tryz.ntmps62]; rfl) (fun σ0 => ?_)
 rw [Tryz.results62]
 obtain ⟨fr0, hfr⟩ : ∃ fr, fr = initFr [AV.agg [AV.int (e.kind), AV.int (e.src), AV.int (e.tgt)], AV.int (nodes)] := ⟨_, rfl⟩
 rw [← hfr]
 have f0 : fr0 0 = AV.agg [AV.int (e.kind), AV.int (e.src), AV.int (e.tgt)] := by rw [hfr]; rfl
 have f1 : fr0 1 = AV.int (nodes) := by rw [hfr]; rfl
 clear hfr
 simp only [s_ref05_right] at h
 refine SW.seq ?_
 refine SW.regX (fun f_ t_ => ∃ b2 : Nat, f_ 1 = AV.int (nodes) ∧ f_ 2 = AV.ptr b2 0 ∧ Kept σ0 t_ ∧ σ0.next ≤ t_.next ∧ t_.get b2 = some [AV.int (e.kind), AV.int (e.src), AV.int (e.tgt)] ∧ b2 < t_.next ∧ σ0.next ≤ b2) (fun M hM => ?_) (fun fr1 τ hm => ?_)
 ·simp [go_sem, f0, f1]
  refine (hM _ _).2 ⟨σ0.next, ?_, ?_, by intro j hj; simp [go_sem, show ¬ j = σ0.next by omega], by first | omega | (simp [go_sem]; done) | (simp [go_sem]; omega), by simp (disch := omega) [get_alloc_ne, get_set_ne, get_kill_ne, go_sem, f0, f1], by first | omega | (simp [go_sem]; done) | (simp [go_sem]; omega), by omega⟩ <;> simp [go_sem, f0, f1]
 clear f0 f1
 obtain ⟨b2, f1, f2, hK, hN, gb2, ub2, wb2⟩ := hm
 refine SW.seq ?_
 obtain ⟨q, hq, h⟩ := obind h
 refine SW.regX (fun f_ t_ => τ = t_ ∧ f_ 4 = AV.bool ((q && ((((decide (0 ≤ e.src))) && ((((decide (e.src < nodes))) && ((((decide (0 ≤ e.tgt))) && ((decide (e.tgt < nodes)))))))))))) (fun M hM => ?_) (fun fr2 τz hm => ?_)
 ·rcases Bool.eq_false_or_eq_true q with y0 | y0
  ·have y0' := y0
   try simp at y0'
   rcases Bool.eq_false_or_eq_true ((decide (0 ≤ e.src))) with y2 | y2
   ·have y2' := y2
    try simp [y0'] at y2'
    rcases Bool.eq_false_or_eq_true ((decide (e.src < nodes))) with y4 | y4
    ·have y4' := y4
     try simp [y0', y2'] at y4'
     rcases Bool.eq_false_or_eq_true ((decide (0 ≤ e.tgt))) with y6 | y6
     ·have y6' := y6
      try simp [y0', y2', y4'] at y6'
      simp [go_sem, f1, f2, gb2, y0, y0', y2, y2', y4, y4', y6, y6']
      refine EWcall_pure (w_ref05_kind e.kind _ hq) ?_
      simp [go_sem, f1, f2, gb2, y0, y0', y2, y2', y4, y4', y6, y6']
      refine (hM _ _).2 ⟨rfl, ?_⟩ <;> simp [go_sem, f1, f2, gb2, y0, y0', y2, y2', y4, y4', y6, y6']
     ·have y6' := y6
      try simp [y0', y2', y4'] at y6'
      simp [go_sem, f1, f2, gb2, y0, y0', y2, y2', y4, y4', y6, y6']
      refine EWcall_pure (w_ref05_kind e.kind _ hq) ?_
      simp [go_sem, f1, f2, gb2, y0, y0', y2, y2', y4, y4', y6, y6']
      refine (hM _ _).2 ⟨rfl, ?_⟩ <;> simp [go_sem, f1, f2, gb2, y0, y0', y2, y2', y4, y4', y6, y6']
    ·have y4' := y4
     try simp [y0', y2'] at y4'
     simp [go_sem, f1, f2, gb2, y0, y0', y2, y2', y4, y4']
     refine EWcall_pure (w_ref05_kind e.kind _ hq) ?_
     simp [go_sem, f1, f2, gb2, y0, y0', y2, y2', y4, y4']
     refine (hM _ _).2 ⟨rfl, ?_⟩ <;> simp [go_sem, f1, f2, gb2, y0, y0', y2, y2', y4, y4']
   ·have y2' := y2
    try simp [y0'] at y2'
    simp [go_sem, f1, f2, gb2, y0, y0', y2, y2']
    refine EWcall_pure (w_ref05_kind e.kind _ hq) ?_
    simp [go_sem, f1, f2, gb2, y0, y0', y2, y2']
    refine (hM _ _).2 ⟨rfl, ?_⟩ <;> simp [go_sem, f1, f2, gb2, y0, y0', y2, y2']
  ·have y0' := y0
   try simp at y0'
   simp [go_sem, f1, f2, gb2, y0, y0']
   refine EWcall_pure (w_ref05_kind e.kind _ hq) ?_
   simp [go_sem, f1, f2, gb2, y0, y0']
   refine (hM _ _).2 ⟨rfl, ?_⟩ <;> simp [go_sem, f1, f2, gb2, y0, y0']
 clear f1 f2
 obtain ⟨rfl, f4⟩ := hm
 obtain rfl := Option.some.inj h
 exact SW.ret ⟨AV.bool ((q && ((((decide (0 ≤ e.src))) && ((((decide (e.src < nodes))) && ((((decide (0 ≤ e.tgt))) && ((decide (e.tgt < nodes))))))))))), by simp [go_sem, f4], .lit _, hK.keeps⟩
set_option maxHeartbeats 4000000 in
theorem w_ref05_Valid (g : Graph) (r : (Int)) (h : s_ref05_Valid g = some r) : PureA Tryz.prog 41 [AV.agg [intsA (g.nodes), e3sA (g.edges)]] (AV.int (r)) := by
 refine pureA_of_SW (N := 46) Tryz.func41 (by kernel_rfl) rfl (by rw [Tryz.ntmps41]; rfl) (fun σ0 => ?_)
 rw [Tryz.results41]
 obtain ⟨fr0, hfr⟩ : ∃ fr, fr = initFr [AV.agg [intsA (g.nodes), e3sA (g.edges)]] := ⟨_, rfl⟩
 rw [← hfr]
 have f0 : fr0 0 = AV.agg [intsA (g.nodes), e3sA (g.edges)] := by rw [hfr]; rfl
 clear hfr
 simp only [s_ref05_Valid] at h
 refine SW.seq ?_
 refine SW.regX (fun f_ t_ => ∃ b1 : Nat, f_ 1 = AV.ptr b1 0 ∧ Kept σ0 t_ ∧ σ0.next ≤ t_.next ∧ t_.get b1 = some [intsA (g.nodes), e3sA (g.edges)] ∧ b1 < t_.next ∧ σ0.next ≤ b1) (fun M hM => ?_) (fun fr1 τ hm => ?_)
 ·simp [go_sem, f0]
  refine (hM _ _).2 ⟨σ0.next, ?_, by intro j hj; simp [go_sem, show ¬ j = σ0.next by omega], by first | omega | (simp [go_sem]; done) | (simp [go_sem]; omega), by simp (disch := omega) [get_alloc_ne, get_set_ne, get_kill_ne, go_sem, f0], by first | omega | (simp [go_sem]; done) | (simp [go_sem]; omega), by omega⟩ <;> simp [go_sem, f0]
 clear f0
 obtain ⟨b1, f1, hK, hN, gb1, ub1, wb1⟩ := hm
 refine SW.seq ?_
 refine SW.seq ?_
 refine SW.regX (fun f_ t_ => τ = t_ ∧ f_ 1 = AV.ptr b1 0 ∧ f_ 14 = AV.bool ((((decide (40 < ((g.nodes.length : Nat) : Int)))) || ((decide (80 < ((g.edges.length : Nat) : Int))))))) (fun M hM => ?_) (fun fr2 τz hm => ?_)
 ·rcases Bool.eq_false_or_eq_true ((decide (40 < ((g.nodes.length : Nat) : Int)))) with y0 | y0
  ·have y0' := y0
   try simp at y0'
   simp [go_sem, f1, gb1, y0, y0']
   refine (hM _ _).2 ⟨rfl, ?_, ?_⟩ <;> simp [go_sem, f1, gb1, y0, y0']
  ·have y0' := y0
   try simp at y0'
   simp [go_sem, f1, gb1, y0, y0']
   refine (hM _ _).2 ⟨rfl, ?_, ?_⟩ <;> simp [go_sem, f1, gb1, y0, y0']
 clear f1
 obtain ⟨rfl, f1, f14⟩ := hm
 refine SW.cond _ f14 (fun hx => ?_) (fun hx => ?_)
 ·have h := condT h hx
  refine SW.seq ?_
  refine SW.regX (fun f_ t_ => τ = t_ ∧ f_ 2 = AV.int (3)) (fun M hM => ?_) (fun fr3 τz1 hm => ?_)
  ·simp [go_sem, f1, f14, gb1]
   refine (hM _ _).2 ⟨rfl, ?_⟩ <;> simp [go_sem, f1, f14, gb1]
  clear f1 f14
  obtain ⟨rfl, f2⟩ := hm
  obtain rfl := Option.some.inj h
  exact SW.ret ⟨AV.int (3), by simp [go_sem, f2], .lit _, hK.keeps⟩
 have h := condF h hx
 refine SW.skip ?_
 refine SW.seq ?_
 refine SW.seq ?_
 refine SW.regX (fun f_ t_ => τ = t_ ∧ f_ 1 = AV.ptr b1 0 ∧ f_ 3 = AV.int (0)) (fun M hM => ?_) (fun fr4 τz2 hm => ?_)
 ·simp [go_sem, f1, f14, gb1]
  refine (hM _ _).2 ⟨rfl, ?_, ?_⟩ <;> simp [go_sem, f1, f14, gb1]
 clear f1 f14
 obtain ⟨rfl, f1, f3⟩ := hm
 obtain ⟨oi1, hruni1, hoi1⟩ := obind h
 refine SW.lenB b1 0 gb1 rfl (fun hbigi1 => ?_)
 obtain ⟨KL, hKL⟩ : ∃ KL : Fr → Mem → Prop, ∀ fr' τ', KL fr' τ' ↔ (oi1 = .done () ∧ τ = τ' ∧ fr' 1 = AV.ptr b1 0) := ⟨_, fun _ _ => Iff.rfl⟩
 refine SW.cut KL ?_ ?_
 ·refine SW.block ?_
  obtain ⟨J, hJ⟩ : ∃ J : Nat → Fr → Mem → Prop, ∀ m_ fr' τ', J m_ fr' τ' ↔ (∃ i : Nat, m_ = g.nodes.length - i ∧ forN (b1_ref05_Valid g) (g.nodes.length - i) i () = some oi1 ∧ τ = τ' ∧ fr' 1 = AV.ptr b1 0 ∧ fr' 3 = AV.int (((i : Nat) : Int))) := ⟨_, fun _ _ _ => Iff.rfl⟩
  refine SW.loop J (g.nodes.length - 0) ((hJ _ _ _).2 ⟨0, rfl, hruni1, rfl, f1, f3⟩) ?_
  clear hruni1
  intro m_ fr5 τ1 hm
  rw [hJ] at hm
  clear f1 f3
  obtain ⟨i, rfl, hruni1, rfl, f1, f3⟩ := hm
  refine SW.seq ?_
  refine SW.seq ?_
  refine SW.regX (fun f_ t_ => τ = t_ ∧ f_ 1 = AV.ptr b1 0 ∧ f_ 3 = AV.int (((i : Nat) : Int)) ∧ f_ 19 = AV.bool ((decide (i < g.nodes.length)))) (fun M hM => ?_) (fun fr6 τz3 hm => ?_)
  ·simp [go_sem, f1, f3, gb1]
   refine (hM _ _).2 ⟨rfl, ?_, ?_, ?_⟩ <;> simp [go_sem, f1, f3, gb1]
  clear f1 f3
  obtain ⟨rfl, f1, f3, f19⟩ := hm
  refine SW.cond _ f19 (fun hx1 => ?_) (fun hx1 => ?_)
  rotate_left
  ·have hk : ¬ i < g.nodes.length := by have := of_decide_eq_false hx1; omega
   refine SW.exit rfl ?_
   exact SW.goal ((hKL _ _).2 ⟨forN_end hruni1 hk, rfl, f1⟩)
  have hki : i < g.nodes.length := by have := of_decide_eq_true hx1; omega
  have hwi : IntKind.i64.wrap ((i : Int) + 1) = ((i + 1 : Nat) : Int) := by rw [wrap64_of _ (by omega) (by omega)]; rfl
  obtain ⟨ci1, hbi1, hci1⟩ := forN_step hruni1 hki
  simp only [b1_ref05_Valid] at hbi1
  refine SW.skip ?_
  refine SW.seq ?_
  refine SW.block ?_
  refine SW.seq ?_
  obtain ⟨n, hn, hbi1⟩ := obind hbi1
  have xln := getN_lt hn
  have xdn := getN_map AV.int hn
  obtain ⟨q, hq, hbi1⟩ := obind hbi1
  refine SW.regX (fun f_ t_ => τ = t_ ∧ f_ 1 = AV.ptr b1 0 ∧ f_ 3 = AV.int (((i : Nat) : Int)) ∧ f_ 28 = AV.bool ((!q))) (fun M hM => ?_) (fun fr7 τz4 hm => ?_)
  ·simp [go_sem, f1, f19, f3, gb1, xln, xdn]
   refine EWcall_pure (w_ref05_kind n _ hq) ?_
   simp [go_sem, f1, f19, f3, gb1, xln, xdn]
   refine (hM _ _).2 ⟨rfl, ?_, ?_, ?_⟩ <;> simp [go_sem, f1, f19, f3, gb1, xln, xdn]
  clear f1 f19 f3
  obtain ⟨rfl, f1, f3, f28⟩ := hm
  refine SW.cond _ f28 (fun hx2 => ?_) (fun hx2 => ?_)
  ·have hbi1 := condT hbi1 hx2
   refine SW.seq ?_
   refine SW.regX (fun f_ t_ => τ = t_ ∧ f_ 2 = AV.int (6)) (fun M hM => ?_) (fun fr8 τz5 hm => ?_)
   ·simp [go_sem, f1, f28, f3, gb1]
    refine (hM _ _).2 ⟨rfl, ?_⟩ <;> simp [go_sem, f1, f28, f3, gb1]
   clear f1 f28 f3
   obtain ⟨rfl, f2⟩ := hm
   obtain rfl := Option.some.inj hbi1
   obtain rfl := Option.some.inj hci1
   obtain rfl := Option.some.inj hoi1
   exact SW.ret ⟨AV.int (6), by simp [go_sem, f2], .lit _, hK.keeps⟩
  have hbi1 := condF hbi1 hx2
  refine SW.skip ?_
  refine SW.blk ?_
  refine SW.regX (fun f_ t_ => τ = t_ ∧ f_ 1 = AV.ptr b1 0 ∧ f_ 3 = AV.int (((i + 1 : Nat) : Int))) (fun M hM => ?_) (fun fr9 τz6 hm => ?_)
  ·simp [go_sem, f1, f28, f3, gb1, hwi]
   refine (hM _ _).2 ⟨rfl, ?_, ?_⟩ <;> simp [go_sem, f1, f28, f3, gb1, hwi]
  clear f1 f28 f3
  obtain ⟨rfl, f1, f3⟩ := hm
  obtain rfl := Option.some.inj hbi1
  exact SW.goal ⟨g.nodes.length - (i + 1), by omega, (hJ _ _ _).2 ⟨i + 1, rfl, hci1, rfl, f1, f3⟩⟩
 intro fr10 τ2 hm
 rw [hKL] at hm
 clear hKL hruni1
 clear f1 f3
 obtain ⟨rfl, rfl, f1⟩ := hm
 simp only [Out.on] at hoi1
 refine SW.seq ?_
 refine SW.seq ?_
 refine SW.regX (fun f_ t_ => τ = t_ ∧ f_ 1 = AV.ptr b1 0 ∧ f_ 4 = AV.int (0)) (fun M hM => ?_) (fun fr11 τz7 hm => ?_)
 ·simp [go_sem, f1, gb1]
  refine (hM _ _).2 ⟨rfl, ?_, ?_⟩ <;> simp [go_sem, f1, gb1]
 clear f1
 obtain ⟨rfl, f1, f4⟩ := hm
 obtain ⟨oi3, hruni3, hoi3⟩ := obind hoi1
 refine SW.lenB b1 1 gb1 rfl (fun hbigi3 => ?_)
 obtain ⟨KL, hKL⟩ : ∃ KL : Fr → Mem → Prop, ∀ fr' τ', KL fr' τ' ↔ (oi3 = .done () ∧ τ = τ') := ⟨_, fun _ _ => Iff.rfl⟩
 refine SW.cut KL ?_ ?_
 ·refine SW.block ?_
  obtain ⟨J, hJ⟩ : ∃ J : Nat → Fr → Mem → Prop, ∀ m_ fr' τ', J m_ fr' τ' ↔ (∃ i2 : Nat, m_ = g.edges.length - i2 ∧ forN (b3_ref05_Valid g) (g.edges.length - i2) i2 () = some oi3 ∧ τ = τ' ∧ fr' 1 = AV.ptr b1 0 ∧ fr' 4 = AV.int (((i2 : Nat) : Int))) := ⟨_, fun _ _ _ => Iff.rfl⟩
  refine SW.loop J (g.edges.length - 0) ((hJ _ _ _).2 ⟨0, rfl, hruni3, rfl, f1, f4⟩) ?_
  clear hruni3
  intro m_ fr12 τ3 hm
  rw [hJ] at hm
  clear f1 f4
  obtain ⟨i2, rfl, hruni3, rfl, f1, f4⟩ := hm
  refine SW.seq ?_
  refine SW.seq ?_
  refine SW.regX (fun f_ t_ => τ = t_ ∧ f_ 1 = AV.ptr b1 0 ∧ f_ 4 = AV.int (((i2 : Nat) : Int)) ∧ f_ 33 = AV.bool ((decide (i2 < g.edges.length)))) (fun M hM => ?_) (fun fr13 τz8 hm => ?_)
  ·simp [go_sem, f1, f4, gb1]
   refine (hM _ _).2 ⟨rfl, ?_, ?_, ?_⟩ <;> simp [go_sem, f1, f4, gb1]
  clear f1 f4
  obtain ⟨rfl, f1, f4, f33⟩ := hm
  refine SW.cond _ f33 (fun hx3 => ?_) (fun hx3 => ?_)
  rotate_left
  ·have hk : ¬ i2 < g.edges.length := by have := of_decide_eq_false hx3; omega
   refine SW.exit rfl ?_
   exact SW.goal ((hKL _ _).2 ⟨forN_end hruni3 hk, rfl⟩)
  have hki2 : i2 < g.edges.length := by have := of_decide_eq_true hx3; omega
  have hwi2 : IntKind.i64.wrap ((i2 : Int) + 1) = ((i2 + 1 : Nat) : Int) := by rw [wrap64_of _ (by omega) (by omega)]; rfl
  obtain ⟨ci3, hbi3, hci3⟩ := forN_step hruni3 hki2
  simp only [b3_ref05_Valid] at hbi3
  refine SW.skip ?_
  refine SW.seq ?_
  refine SW.block ?_
  refine SW.seq ?_
  obtain ⟨x, hx, hbi3⟩ := obind hbi3
  have xlx := getN_lt hx
  have xdx := getN_flat e3C 3 (fun _ => rfl) hx
  obtain ⟨q1, hq1, hbi3⟩ := obind hbi3
  refine SW.regX (fun f_ t_ => τ = t_ ∧ f_ 1 = AV.ptr b1 0 ∧ f_ 4 = AV.int (((i2 : Nat) : Int)) ∧ f_ 45 = AV.bool ((!q1))) (fun M hM => ?_) (fun fr14 τz9 hm => ?_)
  ·refine EW_regionD (by kernel_rfl) (by kernel_rfl) ?_
   simp [go_sem, f1, f33, f4, gb1, xlx, xdx, e3C]
   refine EWqcall_pure (w_ref05_right x ((g.nodes.length : Nat) : Int) _ hq1) rfl ?_
   simp [go_sem, f1, f33, f4, gb1, xlx, xdx, e3C]
   refine (hM _ _).2 ⟨rfl, ?_, ?_, ?_⟩ <;> simp [go_sem, f1, f33, f4, gb1, xlx, xdx, e3C]
  clear f1 f33 f4
  obtain ⟨rfl, f1, f4, f45⟩ := hm
  refine SW.cond _ f45 (fun hx4 => ?_) (fun hx4 => ?_)
  ·have hbi3 := condT hbi3 hx4
   refine SW.seq ?_
   refine SW.regX (fun f_ t_ => τ = t_ ∧ f_ 2 = AV.int (6)) (fun M hM => ?_) (fun fr15 τz10 hm => ?_)
   ·simp [go_sem, f1, f4, f45, gb1]
    refine (hM _ _).2 ⟨rfl, ?_⟩ <;> simp [go_sem, f1, f4, f45, gb1]
   clear f1 f4 f45
   obtain ⟨rfl, f2⟩ := hm
   obtain rfl := Option.some.inj hbi3
   obtain rfl := Option.some.inj hci3
   obtain rfl := Option.some.inj hoi3
   exact SW.ret ⟨AV.int (6), by simp [go_sem, f2], .lit _, hK.keeps⟩
  have hbi3 := condF hbi3 hx4
  refine SW.skip ?_
  refine SW.blk ?_
  refine SW.regX (fun f_ t_ => τ = t_ ∧ f_ 1 = AV.ptr b1 0 ∧ f_ 4 = AV.int (((i2 + 1 : Nat) : Int))) (fun M hM => ?_) (fun fr16 τz11 hm => ?_)
  ·simp [go_sem, f1, f4, f45, gb1, hwi2]
   refine (hM _ _).2 ⟨rfl, ?_, ?_⟩ <;> simp [go_sem, f1, f4, f45, gb1, hwi2]
  clear f1 f4 f45
  obtain ⟨rfl, f1, f4⟩ := hm
  obtain rfl := Option.some.inj hbi3
  exact SW.goal ⟨g.edges.length - (i2 + 1), by omega, (hJ _ _ _).2 ⟨i2 + 1, rfl, hci3, rfl, f1, f4⟩⟩
 intro fr17 τ4 hm
 rw [hKL] at hm
 clear hKL hruni3
 clear f1 f4
 obtain ⟨rfl, rfl⟩ := hm
 simp only [Out.on] at hoi3
 refine SW.seq ?_
 refine SW.regX (fun f_ t_ => τ = t_ ∧ f_ 2 = AV.int (0)) (fun M hM => ?_) (fun fr18 τz12 hm => ?_)
 ·simp [go_sem]
  refine (hM _ _).2 ⟨rfl, ?_⟩ <;> simp [go_sem]
 obtain ⟨rfl, f2⟩ := hm
 obtain rfl := Option.some.inj hoi3
 exact SW.ret ⟨AV.int (0), by simp [go_sem, f2], .lit _, hK.keeps⟩
set_option maxHeartbeats 4000000 in
theorem w_ref17_Typed (t : Types) (g : Graph) (r : (Bool)) (h : s_ref17_Typed t g = some r) : PureA Tryz.prog 56 [AV.agg [nodesA (t.nodes), edgesA (t.edges)], AV.agg [intsA (g.nodes), e3sA (g.edges)]] (AV.bool (r)) := by
 refine pureA_of_SW (N := 57) Tryz.func56 (by kernel_rfl) rfl (by rw [Tryz.ntmps56]; rfl) (fun σ0 => ?_)
 rw [Tryz.results56]
 obtain ⟨fr0, hfr⟩ : ∃ fr, fr = initFr [AV.agg [nodesA (t.nodes), edgesA (t.edges)], AV.agg [intsA (g.nodes), e3sA (g.edges)]] := ⟨_, rfl⟩
 rw [← hfr]
 have f0 : fr0 0 = AV.agg [nodesA (t.nodes), edgesA (t.edges)] := by rw [hfr]; rfl
 have f1 : fr0 1 = AV.agg [intsA (g.nodes), e3sA (g.edges)] := by rw [hfr]; rfl
 clear hfr
 simp only [s_ref17_Typed] at h
 refine SW.seq ?_
 refine SW.regX (fun f_ t_ => ∃ b2 : Nat, ∃ b3 : Nat, f_ 2 = AV.ptr b2 0 ∧ f_ 3 = AV.ptr b3 0 ∧ Kept σ0 t_ ∧ σ0.next ≤ t_.next ∧ t_.get b2 = some [nodesA (t.nodes), edgesA (t.edges)] ∧ b2 < t_.next ∧ t_.get b3 = some [intsA (g.nodes), e3sA (g.edges)] ∧ b3 < t_.next ∧ σ0.next ≤ b2 ∧ σ0.next ≤ b3 ∧ ¬ b2 = b3) (fun M hM => ?_) (fun fr1 τ hm => ?_)
 ·simp [go_sem, f0, f1]
  refine (hM _ _).2 ⟨σ0.next, (σ0.next + 1), ?_, ?_, by intro j hj; simp [go_sem, show ¬ j = σ0.next by omega, show ¬ j = σ0.next + 1 by omega], by first | omega | (simp [go_sem]; done) | (simp [go_sem]; omega), by simp (disch := omega) [get_alloc_ne, get_set_ne, get_kill_ne, go_sem, f0, f1], by first | omega | (simp [go_sem]; done) | (simp [go_sem]; omega), by simp (disch := omega) [get_alloc_ne, get_set_ne, get_kill_ne, go_sem, f0, f1], by first | omega | (simp [go_sem]; done) | (simp [go_sem]; omega), by omega, by omega, by omega⟩ <;> simp [go_sem, f0, f1]
 clear f0 f1
 obtain ⟨b2, b3, f2, f3, hK, hN, gb2, ub2, gb3, ub3, wb2, wb3, eb2b3⟩ := hm
 refine SW.seq ?_
 refine SW.seq ?_
 refine SW.regX (fun f_ t_ => τ = t_ ∧ f_ 2 = AV.ptr b2 0 ∧ f_ 3 = AV.ptr b3 0 ∧ f_ 5 = AV.int (0)) (fun M hM => ?_) (fun fr2 τz hm => ?_)
 ·simp [go_sem, f2, f3, gb2, gb3]
  refine (hM _ _).2 ⟨rfl, ?_, ?_, ?_⟩ <;> simp [go_sem, f2, f3, gb2, gb3]
 clear f2 f3
 obtain ⟨rfl, f2, f3, f5⟩ := hm
 obtain ⟨oi1, hruni1, hoi1⟩ := obind h
 refine SW.lenB b3 0 gb3 rfl (fun hbigi1 => ?_)
 obtain ⟨KL, hKL⟩ : ∃ KL : Fr → Mem → Prop, ∀ fr' τ', KL fr' τ' ↔ (oi1 = .done () ∧ τ = τ' ∧ fr' 2 = AV.ptr b2 0 ∧ fr' 3 = AV.ptr b3 0) := ⟨_, fun _ _ => Iff.rfl⟩
 refine SW.cut KL ?_ ?_
 ·refine SW.block ?_
  obtain ⟨J, hJ⟩ : ∃ J : Nat → Fr → Mem → Prop, ∀ m_ fr' τ', J m_ fr' τ' ↔ (∃ i : Nat, m_ = g.nodes.length - i ∧ forN (b1_ref17_Typed t g) (g.nodes.length - i) i () = some oi1 ∧ τ = τ' ∧ fr' 2 = AV.ptr b2 0 ∧ fr' 3 = AV.ptr b3 0 ∧ fr' 5 = AV.int (((i : Nat) : Int))) := ⟨_, fun _ _ _ => Iff.rfl⟩
  refine SW.loop J (g.nodes.length - 0) ((hJ _ _ _).2 ⟨0, rfl, hruni1, rfl, f2, f3, f5⟩) ?_
  clear hruni1
  intro m_ fr3 τ1 hm
  rw [hJ] at hm
  clear f2 f3 f5
  obtain ⟨i, rfl, hruni1, rfl, f2, f3, f5⟩ := hm
  refine SW.seq ?_
  refine SW.seq ?_
  refine SW.regX (fun f_ t_ => τ = t_ ∧ f_ 2 = AV.ptr b2 0 ∧ f_ 3 = AV.ptr b3 0 ∧ f_ 5 = AV.int (((i : Nat) : Int)) ∧ f_ 11 = AV.bool ((decide (i < g.nodes.length)))) (fun M hM => ?_) (fun fr4 τz1 hm => ?_)
  ·simp [go_sem, f2, f3, f5, gb2, gb3]
   refine (hM _ _).2 ⟨rfl, ?_, ?_, ?_, ?_⟩ <;> simp [go_sem, f2, f3, f5, gb2, gb3]
  clear f2 f3 f5
  obtain ⟨rfl, f2, f3, f5, f11⟩ := hm
  refine SW.cond _ f11 (fun hx => ?_) (fun hx => ?_)
  rotate_left
  ·have hk : ¬ i < g.nodes.length := by have := of_decide_eq_false hx; omega
   refine SW.exit rfl ?_
   exact SW.goal ((hKL _ _).2 ⟨forN_end hruni1 hk, rfl, f2, f3⟩)
  have hki : i < g.nodes.length := by have := of_decide_eq_true hx; omega
  have hwi : IntKind.i64.wrap ((i : Int) + 1) = ((i + 1 : Nat) : Int) := by rw [wrap64_of _ (by omega) (by omega)]; rfl
  obtain ⟨ci1, hbi1, hci1⟩ := forN_step hruni1 hki
  simp only [b1_ref17_Typed] at hbi1
  refine SW.skip ?_
  refine SW.seq ?_
  refine SW.block ?_
  refine SW.seq ?_
  obtain ⟨n, hn, hbi1⟩ := obind hbi1
  have xln := getN_lt hn
  have xdn := getN_map AV.int hn
  refine SW.regX (fun f_ t_ => τ = t_ ∧ f_ 2 = AV.ptr b2 0 ∧ f_ 3 = AV.ptr b3 0 ∧ f_ 5 = AV.int (((i : Nat) : Int)) ∧ f_ 30 = AV.bool ((((decide (n < 0))) || ((decide (((t.nodes.length : Nat) : Int) ≤ n)))))) (fun M hM => ?_) (fun fr5 τz2 hm => ?_)
  ·refine EW_regionD (by kernel_rfl) (by kernel_rfl) ?_
   rcases Bool.eq_false_or_eq_true ((decide (n < 0))) with y0 | y0
   ·have y0' := y0
    try simp at y0'
    simp [go_sem, f11, f2, f3, f5, gb2, gb3, xln, xdn, y0, y0']
    refine (hM _ _).2 ⟨rfl, ?_, ?_, ?_, ?_⟩ <;> simp [go_sem, f11, f2, f3, f5, gb2, gb3, xln, xdn, y0, y0']
   ·have y0' := y0
    try simp at y0'
    simp [go_sem, f11, f2, f3, f5, gb2, gb3, xln, xdn, y0, y0', xln, xdn]
    refine (hM _ _).2 ⟨rfl, ?_, ?_, ?_, ?_⟩ <;> simp [go_sem, f11, f2, f3, f5, gb2, gb3, xln, xdn, y0, y0', xln, xdn]
  clear f11 f2 f3 f5
  obtain ⟨rfl, f2, f3, f5, f30⟩ := hm
  refine SW.cond _ f30 (fun hx1 => ?_) (fun hx1 => ?_)
  ·have hbi1 := condT hbi1 hx1
   refine SW.seq ?_
   refine SW.regX (fun f_ t_ => τ = t_ ∧ f_ 4 = AV.bool (false)) (fun M hM => ?_) (fun fr6 τz3 hm => ?_)
   ·simp [go_sem, f2, f3, f30, f5, gb2, gb3]
    refine (hM _ _).2 ⟨rfl, ?_⟩ <;> simp [go_sem, f2, f3, f30, f5, gb2, gb3]
   clear f2 f3 f30 f5
   obtain ⟨rfl, f4⟩ := hm
   obtain rfl := Option.some.inj hbi1
   obtain rfl := Option.some.inj hci1
   obtain rfl := Option.some.inj hoi1
   exact SW.ret ⟨AV.bool (false), by simp [go_sem, f4], .lit _, hK.keeps⟩
  have hbi1 := condF hbi1 hx1
  refine SW.skip ?_
  refine SW.blk ?_
  refine SW.regX (fun f_ t_ => τ = t_ ∧ f_ 2 = AV.ptr b2 0 ∧ f_ 3 = AV.ptr b3 0 ∧ f_ 5 = AV.int (((i + 1 : Nat) : Int))) (fun M hM => ?_) (fun fr7 τz4 hm => ?_)
  ·simp [go_sem, f2, f3, f30, f5, gb2, gb3, hwi]
   refine (hM _ _).2 ⟨rfl, ?_, ?_, ?_⟩ <;> simp [go_sem, f2, f3, f30, f5, gb2, gb3, hwi]
  clear f2 f3 f30 f5
  obtain ⟨rfl, f2, f3, f5⟩ := hm
  obtain rfl := Option.some.inj hbi1
  exact SW.goal ⟨g.nodes.length - (i + 1), by omega, (hJ _ _ _).2 ⟨i + 1, rfl, hci1, rfl, f2, f3, f5⟩⟩
 intro fr8 τ2 hm
 rw [hKL] at hm
 clear hKL hruni1
 clear f2 f3 f5
 obtain ⟨rfl, rfl, f2, f3⟩ := hm
 simp only [Out.on] at hoi1
 refine SW.seq ?_
 refine SW.seq ?_
 refine SW.regX (fun f_ t_ => τ = t_ ∧ f_ 2 = AV.ptr b2 0 ∧ f_ 3 = AV.ptr b3 0 ∧ f_ 6 = AV.int (0)) (fun M hM => ?_) (fun fr9 τz5 hm => ?_)
 ·simp [go_sem, f2, f3, gb2, gb3]
  refine (hM _ _).2 ⟨rfl, ?_, ?_, ?_⟩ <;> simp [go_sem, f2, f3, gb2, gb3]
 clear f2 f3
 obtain ⟨rfl, f2, f3, f6⟩ := hm
 obtain ⟨oi3, hruni3, hoi3⟩ := obind hoi1
 refine SW.lenB b3 1 gb3 rfl (fun hbigi3 => ?_)
 obtain ⟨KL, hKL⟩ : ∃ KL : Fr → Mem → Prop, ∀ fr' τ', KL fr' τ' ↔ (oi3 = .done () ∧ τ = τ') := ⟨_, fun _ _ => Iff.rfl⟩
 refine SW.cut KL ?_ ?_
 ·refine SW.block ?_
  obtain ⟨J, hJ⟩ : ∃ J : Nat → Fr → Mem → Prop, ∀ m_ fr' τ', J m_ fr' τ' ↔ (∃ i2 : Nat, m_ = g.edges.length - i2 ∧ forN (b3_ref17_Typed t g) (g.edges.length - i2) i2 () = some oi3 ∧ τ = τ' ∧ fr' 2 = AV.ptr b2 0 ∧ fr' 3 = AV.ptr b3 0 ∧ fr' 6 = AV.int (((i2 : Nat) : Int))) := ⟨_, fun _ _ _ => Iff.rfl⟩
  refine SW.loop J (g.edges.length - 0) ((hJ _ _ _).2 ⟨0, rfl, hruni3, rfl, f2, f3, f6⟩) ?_
  clear hruni3
  intro m_ fr10 τ3 hm
  rw [hJ] at hm
  clear f2 f3 f6
  obtain ⟨i2, rfl, hruni3, rfl, f2, f3, f6⟩ := hm
  refine SW.seq ?_
  refine SW.seq ?_
  refine SW.regX (fun f_ t_ => τ = t_ ∧ f_ 2 = AV.ptr b2 0 ∧ f_ 3 = AV.ptr b3 0 ∧ f_ 6 = AV.int (((i2 : Nat) : Int)) ∧ f_ 35 = AV.bool ((decide (i2 < g.edges.length)))) (fun M hM => ?_) (fun fr11 τz6 hm => ?_)
  ·simp [go_sem, f2, f3, f6, gb2, gb3]
   refine (hM _ _).2 ⟨rfl, ?_, ?_, ?_, ?_⟩ <;> simp [go_sem, f2, f3, f6, gb2, gb3]
  clear f2 f3 f6
  obtain ⟨rfl, f2, f3, f6, f35⟩ := hm
  refine SW.cond _ f35 (fun hx2 => ?_) (fun hx2 => ?_)
  rotate_left
  ·have hk : ¬ i2 < g.edges.length := by have := of_decide_eq_false hx2; omega
   refine SW.exit rfl ?_
   exact SW.goal ((hKL _ _).2 ⟨forN_end hruni3 hk, rfl⟩)
  have hki2 : i2 < g.edges.length := by have := of_decide_eq_true hx2; omega
  have hwi2 : IntKind.i64.wrap ((i2 : Int) + 1) = ((i2 + 1 : Nat) : Int) := by rw [wrap64_of _ (by omega) (by omega)]; rfl
  obtain ⟨ci3, hbi3, hci3⟩ := forN_step hruni3 hki2
  simp only [b3_ref17_Typed] at hbi3
  refine SW.skip ?_
  refine SW.seq ?_
  refine SW.block ?_
  refine SW.seq ?_
  obtain ⟨x, hx, hbi3⟩ := obind hbi3
  have xlx := getN_lt hx
  have xdx := getN_flat e3C 3 (fun _ => rfl) hx
  refine SW.regX (fun f_ t_ => τ = t_ ∧ f_ 2 = AV.ptr b2 0 ∧ f_ 3 = AV.ptr b3 0 ∧ f_ 6 = AV.int (((i2 : Nat) : Int)) ∧ f_ 56 = AV.bool ((((decide (x.kind < 0))) || ((decide (((t.edges.length : Nat) : Int) ≤ x.kind)))))) (fun M hM => ?_) (fun fr12 τz7 hm => ?_)
  ·refine EW_regionD (by kernel_rfl) (by kernel_rfl) ?_
   rcases Bool.eq_false_or_eq_true ((decide (x.kind < 0))) with y0 | y0
   ·have y0' := y0
    try simp at y0'
    simp [go_sem, f2, f3, f35, f6, gb2, gb3, xlx, xdx, e3C, y0, y0']
    refine (hM _ _).2 ⟨rfl, ?_, ?_, ?_, ?_⟩ <;> simp [go_sem, f2, f3, f35, f6, gb2, gb3, xlx, xdx, e3C, y0, y0']
   ·have y0' := y0
    try simp at y0'
    simp [go_sem, f2, f3, f35, f6, gb2, gb3, xlx, xdx, e3C, y0, y0', xlx, xdx, e3C]
    refine (hM _ _).2 ⟨rfl, ?_, ?_, ?_, ?_⟩ <;> simp [go_sem, f2, f3, f35, f6, gb2, gb3, xlx, xdx, e3C, y0, y0', xlx, xdx, e3C]
  clear f2 f3 f35 f6
  obtain ⟨rfl, f2, f3, f6, f56⟩ := hm
  refine SW.cond _ f56 (fun hx3 => ?_) (fun hx3 => ?_)
  ·have hbi3 := condT hbi3 hx3
   refine SW.seq ?_
   refine SW.regX (fun f_ t_ => τ = t_ ∧ f_ 4 = AV.bool (false)) (fun M hM => ?_) (fun fr13 τz8 hm => ?_)
   ·simp [go_sem, f2, f3, f56, f6, gb2, gb3]
    refine (hM _ _).2 ⟨rfl, ?_⟩ <;> simp [go_sem, f2, f3, f56, f6, gb2, gb3]
   clear f2 f3 f56 f6
   obtain ⟨rfl, f4⟩ := hm
   obtain rfl := Option.some.inj hbi3
   obtain rfl := Option.some.inj hci3
   obtain rfl := Option.some.inj hoi3
   exact SW.ret ⟨AV.bool (false), by simp [go_sem, f4], .lit _, hK.keeps⟩
  have hbi3 := condF hbi3 hx3
  refine SW.skip ?_
  refine SW.blk ?_
  refine SW.regX (fun f_ t_ => τ = t_ ∧ f_ 2 = AV.ptr b2 0 ∧ f_ 3 = AV.ptr b3 0 ∧ f_ 6 = AV.int (((i2 + 1 : Nat) : Int))) (fun M hM => ?_) (fun fr14 τz9 hm => ?_)
  ·simp [go_sem, f2, f3, f56, f6, gb2, gb3, hwi2]
   refine (hM _ _).2 ⟨rfl, ?_, ?_, ?_⟩ <;> simp [go_sem, f2, f3, f56, f6, gb2, gb3, hwi2]
  clear f2 f3 f56 f6
  obtain ⟨rfl, f2, f3, f6⟩ := hm
  obtain rfl := Option.some.inj hbi3
  exact SW.goal ⟨g.edges.length - (i2 + 1), by omega, (hJ _ _ _).2 ⟨i2 + 1, rfl, hci3, rfl, f2, f3, f6⟩⟩
 intro fr15 τ4 hm
 rw [hKL] at hm
 clear hKL hruni3
 clear f2 f3 f6
 obtain ⟨rfl, rfl⟩ := hm
 simp only [Out.on] at hoi3
 refine SW.seq ?_
 refine SW.regX (fun f_ t_ => τ = t_ ∧ f_ 4 = AV.bool (true)) (fun M hM => ?_) (fun fr16 τz10 hm => ?_)
 ·simp [go_sem]
  refine (hM _ _).2 ⟨rfl, ?_⟩ <;> simp [go_sem]
 obtain ⟨rfl, f4⟩ := hm
 obtain rfl := Option.some.inj hoi3
 exact SW.ret ⟨AV.bool (true), by simp [go_sem, f4], .lit _, hK.keeps⟩
end Go.Proofs.YtdacgjleiloooaaGreat
