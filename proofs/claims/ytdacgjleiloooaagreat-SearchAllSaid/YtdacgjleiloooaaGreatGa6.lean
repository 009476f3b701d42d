/-
  Plain functions and the walks that lead to them, by a program of ours (gen.py): scarfjoint/scarfjointref04.Few, scarfjoint/scarfjointref05.Few, scarfjoint/scarfjointref04.in.
-/
import Derived.Test.YtdacgjleiloooaaGreatGd
import Derived.Test.YtdacgjleiloooaaGreatGT
import Derived.Test.YtdacgjleiloooaaGreatB3
import Derived.Test.YtdacgjleiloooaaGreatGS
set_option linter.unusedSimpArgs false
set_option linter.unusedVariables false
namespace Go.Proofs.YtdacgjleiloooaaGreat
open Go Go.Ew Go.Proofs Go.RowKit
set_option maxRecDepth 100000
set_option maxHeartbeats 4000000 in
theorem w_ref04_Few (t : Types) (r : (Bool)) (h : s_ref04_Few t = some r) : PureA Tryz.prog 33 [AV.agg [nodesA (t.nodes), edgesA (t.edges)]] (AV.bool (r)) := by
 refine pureA_of_SW (N := 106) Tryz.func33 (by kernel_rfl) rfl (by rw [Tryz.ntmps33]; rfl) (fun σ0 => ?_)
 rw [Tryz.results33]
 obtain ⟨fr0, hfr⟩ : ∃ fr, fr = initFr [AV.agg [nodesA (t.nodes), edgesA (t.edges)]] := ⟨_, rfl⟩
 rw [← hfr]
 have f0 : fr0 0 = AV.agg [nodesA (t.nodes), edgesA (t.edges)] := by rw [hfr]; rfl
 clear hfr
 simp only [s_ref04_Few] at h
 refine SW.seq ?_
 refine SW.regX (fun f_ t_ => ∃ b1 : Nat, f_ 1 = AV.ptr b1 0 ∧ Kept σ0 t_ ∧ σ0.next ≤ t_.next ∧ t_.get b1 = some [nodesA (t.nodes), edgesA (t.edges)] ∧ b1 < t_.next ∧ σ0.next ≤ b1) (fun M hM => ?_) (fun fr1 τ hm => ?_)
 ·simp [go_sem, f0]
  refine (hM _ _).2 ⟨σ0.next, ?_, by intro j hj; simp [go_sem, show ¬ j = σ0.next by omega], by first | omega | (simp [go_sem]; done) | (simp [go_sem]; omega), by simp (disch := omega) [get_alloc_ne, get_set_ne, get_kill_ne, go_sem, f0], by first | omega | (simp [go_sem]; done) | (simp [go_sem]; omega), by omega⟩ <;> simp [go_sem, f0]
 clear f0
 obtain ⟨b1, f1, hK, hN, gb1, ub1, wb1⟩ := hm
 refine SW.seq ?_
 refine SW.seq ?_
 refine SW.regX (fun f_ t_ => τ = t_ ∧ f_ 1 = AV.ptr b1 0 ∧ f_ 18 = AV.bool ((((decide (20 < ((t.nodes.length : Nat) : Int)))) || ((decide (30 < ((t.edges.length : Nat) : Int))))))) (fun M hM => ?_) (fun fr2 τz hm => ?_)
 ·rcases Bool.eq_false_or_eq_true ((decide (20 < ((t.nodes.length : Nat) : Int)))) with y0 | y0
  ·have y0' := y0
   try simp at y0'
   simp [go_sem, f1, gb1, y0, y0']
   refine (hM _ _).2 ⟨rfl, ?_, ?_⟩ <;> simp [go_sem, f1, gb1, y0, y0']
  ·have y0' := y0
   try simp at y0'
   simp [go_sem, f1, gb1, y0, y0']
   refine (hM _ _).2 ⟨rfl, ?_, ?_⟩ <;> simp [go_sem, f1, gb1, y0, y0']
 clear f1
 obtain ⟨rfl, f1, f18⟩ := hm
 refine SW.cond _ f18 (fun hx => ?_) (fun hx => ?_)
 ·have h := condT h hx
  refine SW.seq ?_
  refine SW.regX (fun f_ t_ => τ = t_ ∧ f_ 2 = AV.bool (false)) (fun M hM => ?_) (fun fr3 τz1 hm => ?_)
  ·simp [go_sem, f1, f18, gb1]
   refine (hM _ _).2 ⟨rfl, ?_⟩ <;> simp [go_sem, f1, f18, gb1]
  clear f1 f18
  obtain ⟨rfl, f2⟩ := hm
  obtain rfl := Option.some.inj h
  exact SW.ret ⟨AV.bool (false), by simp [go_sem, f2], .lit _, hK.keeps⟩
 have h := condF h hx
 refine SW.skip ?_
 refine SW.seq ?_
 refine SW.regX (fun f_ t_ => τ = t_ ∧ f_ 1 = AV.ptr b1 0 ∧ f_ 3 = AV.int (0)) (fun M hM => ?_) (fun fr4 τz2 hm => ?_)
 ·simp [go_sem, f1, f18, gb1]
  refine (hM _ _).2 ⟨rfl, ?_, ?_⟩ <;> simp [go_sem, f1, f18, gb1]
 clear f1 f18
 obtain ⟨rfl, f1, f3⟩ := hm
 refine SW.seq ?_
 refine SW.seq ?_
 refine SW.regX (fun f_ t_ => τ = t_ ∧ f_ 1 = AV.ptr b1 0 ∧ f_ 3 = AV.int (0) ∧ f_ 4 = AV.int (0)) (fun M hM => ?_) (fun fr5 τz3 hm => ?_)
 ·simp [go_sem, f1, f3, gb1]
  refine (hM _ _).2 ⟨rfl, ?_, ?_, ?_⟩ <;> simp [go_sem, f1, f3, gb1]
 clear f1 f3
 obtain ⟨rfl, f1, f3, f4⟩ := hm
 obtain ⟨oi, hruni, hoi⟩ := obind h
 refine SW.lenB b1 0 gb1 rfl (fun hbigi => ?_)
 obtain ⟨KL, hKL⟩ : ∃ KL : Fr → Mem → Prop, ∀ fr' τ', KL fr' τ' ↔ (∃ rx1 : Int, oi = .done rx1 ∧ fr' 1 = AV.ptr b1 0 ∧ Kept σ0 τ' ∧ σ0.next ≤ τ'.next ∧ τ'.get b1 = some [nodesA (t.nodes), edgesA (t.edges)] ∧ b1 < τ'.next) := ⟨_, fun _ _ => Iff.rfl⟩
 refine SW.cut KL ?_ ?_
 ·refine SW.block ?_
  obtain ⟨J, hJ⟩ : ∃ J : Nat → Fr → Mem → Prop, ∀ m_ fr' τ', J m_ fr' τ' ↔ (∃ rx : Nat, ∃ rx1 : Int, m_ = t.nodes.length - rx ∧ forN (b1_ref04_Few t) (t.nodes.length - rx) rx rx1 = some oi ∧ fr' 1 = AV.ptr b1 0 ∧ fr' 3 = AV.int (rx1) ∧ fr' 4 = AV.int (((rx : Nat) : Int)) ∧ Kept σ0 τ' ∧ σ0.next ≤ τ'.next ∧ τ'.get b1 = some [nodesA (t.nodes), edgesA (t.edges)] ∧ b1 < τ'.next) := ⟨_, fun _ _ _ => Iff.rfl⟩
  refine SW.loop J (t.nodes.length - 0) ((hJ _ _ _).2 ⟨0, 0, rfl, hruni, f1, f3, f4, hK, hN, gb1, ub1⟩) ?_
  clear hruni
  intro m_ fr6 τ1 hm
  rw [hJ] at hm
  clear f1 f3 f4 hK hN gb1 ub1
  obtain ⟨rx, rx1, rfl, hruni, f1, f3, f4, hK, hN, gb1, ub1⟩ := hm
  refine SW.seq ?_
  refine SW.seq ?_
  refine SW.regX (fun f_ t_ => τ1 = t_ ∧ f_ 1 = AV.ptr b1 0 ∧ f_ 3 = AV.int (rx1) ∧ f_ 4 = AV.int (((rx : Nat) : Int)) ∧ f_ 23 = AV.bool ((decide (rx < t.nodes.length)))) (fun M hM => ?_) (fun fr7 τz4 hm => ?_)
  ·simp [go_sem, f1, f3, f4, gb1]
   refine (hM _ _).2 ⟨rfl, ?_, ?_, ?_, ?_⟩ <;> simp [go_sem, f1, f3, f4, gb1]
  clear f1 f3 f4
  obtain ⟨rfl, f1, f3, f4, f23⟩ := hm
  refine SW.cond _ f23 (fun hx1 => ?_) (fun hx1 => ?_)
  rotate_left
  ·have hk : ¬ rx < t.nodes.length := by have := of_decide_eq_false hx1; omega
   refine SW.exit rfl ?_
   exact SW.goal ((hKL _ _).2 ⟨rx1, forN_end hruni hk, f1, hK, hN, gb1, ub1⟩)
  have hkrx : rx < t.nodes.length := by have := of_decide_eq_true hx1; omega
  have hwrx : IntKind.i64.wrap ((rx : Int) + 1) = ((rx + 1 : Nat) : Int) := by rw [wrap64_of _ (by omega) (by omega)]; rfl
  obtain ⟨ci, hbi, hci⟩ := forN_step hruni hkrx
  simp only [b1_ref04_Few] at hbi
  refine SW.skip ?_
  refine SW.seq ?_
  refine SW.block ?_
  refine SW.seq ?_
  obtain ⟨x, hx, hbi⟩ := obind hbi
  have xlx := getN_lt hx
  have xdx := getN_flat nodeC 4 (fun _ => rfl) hx
  refine SW.regX (fun f_ t_ => τ1 = t_ ∧ f_ 1 = AV.ptr b1 0 ∧ f_ 3 = AV.int ((IntKind.i64.wrap (rx1 + ((x.attrs.length : Nat) : Int)))) ∧ f_ 4 = AV.int (((rx : Nat) : Int))) (fun M hM => ?_) (fun fr8 τz5 hm => ?_)
  ·simp [go_sem, f1, f23, f3, f4, gb1, xlx, xdx, nodeC]
   refine (hM _ _).2 ⟨rfl, ?_, ?_, ?_⟩ <;> simp [go_sem, f1, f23, f3, f4, gb1, xlx, xdx, nodeC]
  clear f1 f23 f3 f4
  obtain ⟨rfl, f1, f3, f4⟩ := hm
  refine SW.seq ?_
  refine SW.seq ?_
  refine SW.regX (fun f_ t_ => τ1 = t_ ∧ f_ 1 = AV.ptr b1 0 ∧ f_ 3 = AV.int ((IntKind.i64.wrap (rx1 + ((x.attrs.length : Nat) : Int)))) ∧ f_ 4 = AV.int (((rx : Nat) : Int)) ∧ f_ 46 = AV.bool ((((decide (30 < (IntKind.i64.wrap (rx1 + ((x.attrs.length : Nat) : Int)))))) || ((decide (40 < ((x.name.length : Nat) : Int))))))) (fun M hM => ?_) (fun fr9 τz6 hm => ?_)
  ·rcases Bool.eq_false_or_eq_true ((decide (30 < (IntKind.i64.wrap (rx1 + ((x.attrs.length : Nat) : Int)))))) with y0 | y0
   ·have y0' := y0
    try simp at y0'
    simp [go_sem, f1, f3, f4, gb1, y0, y0']
    refine (hM _ _).2 ⟨rfl, ?_, ?_, ?_, ?_⟩ <;> simp [go_sem, f1, f3, f4, gb1, y0, y0']
   ·have y0' := y0
    try simp at y0'
    simp [go_sem, f1, f3, f4, gb1, y0, y0', xlx, xdx, nodeC]
    refine (hM _ _).2 ⟨rfl, ?_, ?_, ?_, ?_⟩ <;> simp [go_sem, f1, f3, f4, gb1, y0, y0', xlx, xdx, nodeC]
  clear f1 f3 f4
  obtain ⟨rfl, f1, f3, f4, f46⟩ := hm
  refine SW.cond _ f46 (fun hx2 => ?_) (fun hx2 => ?_)
  ·have hbi := condT hbi hx2
   refine SW.seq ?_
   refine SW.regX (fun f_ t_ => τ1 = t_ ∧ f_ 2 = AV.bool (false)) (fun M hM => ?_) (fun fr10 τz7 hm => ?_)
   ·simp [go_sem, f1, f3, f4, f46, gb1]
    refine (hM _ _).2 ⟨rfl, ?_⟩ <;> simp [go_sem, f1, f3, f4, f46, gb1]
   clear f1 f3 f4 f46
   obtain ⟨rfl, f2⟩ := hm
   obtain rfl := Option.some.inj hbi
   obtain rfl := Option.some.inj hci
   obtain rfl := Option.some.inj hoi
   exact SW.ret ⟨AV.bool (false), by simp [go_sem, f2], .lit _, hK.keeps⟩
  have hbi := condF hbi hx2
  refine SW.skip ?_
  refine SW.seq ?_
  refine SW.regX (fun f_ t_ => τ1 = t_ ∧ f_ 1 = AV.ptr b1 0 ∧ f_ 3 = AV.int ((IntKind.i64.wrap (rx1 + ((x.attrs.length : Nat) : Int)))) ∧ f_ 4 = AV.int (((rx : Nat) : Int)) ∧ f_ 5 = AV.int (0)) (fun M hM => ?_) (fun fr11 τz8 hm => ?_)
  ·simp [go_sem, f1, f3, f4, f46, gb1]
   refine (hM _ _).2 ⟨rfl, ?_, ?_, ?_, ?_⟩ <;> simp [go_sem, f1, f3, f4, f46, gb1]
  clear f1 f3 f4 f46
  obtain ⟨rfl, f1, f3, f4, f5⟩ := hm
  obtain ⟨oi1, hruni1, hoi1⟩ := obind hbi
  obtain ⟨hbigi1, hruni1⟩ := forR_run hruni1
  obtain ⟨KL, hKL⟩ : ∃ KL : Fr → Mem → Prop, ∀ fr' τ', KL fr' τ' ↔ (oi1 = .done () ∧ fr' 1 = AV.ptr b1 0 ∧ fr' 3 = AV.int ((IntKind.i64.wrap (rx1 + ((x.attrs.length : Nat) : Int)))) ∧ fr' 4 = AV.int (((rx : Nat) : Int)) ∧ Kept σ0 τ' ∧ σ0.next ≤ τ'.next ∧ τ'.get b1 = some [nodesA (t.nodes), edgesA (t.edges)] ∧ b1 < τ'.next) := ⟨_, fun _ _ => Iff.rfl⟩
  refine SW.cut KL ?_ ?_
  ·refine SW.block ?_
   obtain ⟨J, hJ⟩ : ∃ J : Nat → Fr → Mem → Prop, ∀ m_ fr' τ', J m_ fr' τ' ↔ (∃ a : Nat, m_ = x.attrs.length - a ∧ forN (b2_ref04_Few x) (x.attrs.length - a) a () = some oi1 ∧ fr' 1 = AV.ptr b1 0 ∧ fr' 3 = AV.int ((IntKind.i64.wrap (rx1 + ((x.attrs.length : Nat) : Int)))) ∧ fr' 4 = AV.int (((rx : Nat) : Int)) ∧ fr' 5 = AV.int (((a : Nat) : Int)) ∧ Kept σ0 τ' ∧ σ0.next ≤ τ'.next ∧ τ'.get b1 = some [nodesA (t.nodes), edgesA (t.edges)] ∧ b1 < τ'.next) := ⟨_, fun _ _ _ => Iff.rfl⟩
   refine SW.loop J (x.attrs.length - 0) ((hJ _ _ _).2 ⟨0, rfl, hruni1, f1, f3, f4, f5, hK, hN, gb1, ub1⟩) ?_
   clear hruni1
   intro m_ fr12 τ2 hm
   rw [hJ] at hm
   clear f1 f3 f4 f5 hK hN gb1 ub1
   obtain ⟨a, rfl, hruni1, f1, f3, f4, f5, hK, hN, gb1, ub1⟩ := hm
   refine SW.seq ?_
   refine SW.seq ?_
   refine SW.regX (fun f_ t_ => τ2 = t_ ∧ f_ 1 = AV.ptr b1 0 ∧ f_ 3 = AV.int ((IntKind.i64.wrap (rx1 + ((x.attrs.length : Nat) : Int)))) ∧ f_ 4 = AV.int (((rx : Nat) : Int)) ∧ f_ 5 = AV.int (((a : Nat) : Int)) ∧ f_ 55 = AV.bool ((decide (a < x.attrs.length)))) (fun M hM => ?_) (fun fr13 τz9 hm => ?_)
   ·simp [go_sem, f1, f3, f4, f5, gb1, xlx, xdx, nodeC]
    refine (hM _ _).2 ⟨rfl, ?_, ?_, ?_, ?_, ?_⟩ <;> simp [go_sem, f1, f3, f4, f5, gb1, xlx, xdx, nodeC]
   clear f1 f3 f4 f5
   obtain ⟨rfl, f1, f3, f4, f5, f55⟩ := hm
   refine SW.cond _ f55 (fun hx3 => ?_) (fun hx3 => ?_)
   rotate_left
   ·have hk : ¬ a < x.attrs.length := by have := of_decide_eq_false hx3; omega
    refine SW.exit rfl ?_
    exact SW.goal ((hKL _ _).2 ⟨forN_end hruni1 hk, f1, f3, f4, hK, hN, gb1, ub1⟩)
   have hka : a < x.attrs.length := by have := of_decide_eq_true hx3; omega
   have hwa : IntKind.i64.wrap ((a : Int) + 1) = ((a + 1 : Nat) : Int) := by rw [wrap64_of _ (by omega) (by omega)]; rfl
   obtain ⟨ci1, hbi1, hci1⟩ := forN_step hruni1 hka
   simp only [b2_ref04_Few] at hbi1
   refine SW.skip ?_
   refine SW.seq ?_
   refine SW.block ?_
   refine SW.seq ?_
   obtain ⟨x5, hx5, hbi1⟩ := obind hbi1
   have xlx5 := getN_lt hx5
   have xdx5 := getN_flat attrC 4 (fun _ => rfl) hx5
   refine SW.regX (fun f_ t_ => ∃ b6 : Nat, f_ 1 = AV.ptr b1 0 ∧ f_ 3 = AV.int ((IntKind.i64.wrap (rx1 + ((x.attrs.length : Nat) : Int)))) ∧ f_ 4 = AV.int (((rx : Nat) : Int)) ∧ f_ 5 = AV.int (((a : Nat) : Int)) ∧ f_ 6 = AV.ptr b6 0 ∧ Kept σ0 t_ ∧ σ0.next ≤ t_.next ∧ t_.get b1 = some [nodesA (t.nodes), edgesA (t.edges)] ∧ b1 < t_.next ∧ t_.get b6 = some [AV.str (x5.name), AV.int (x5.low), AV.int (x5.high), strsA (x5.names)] ∧ b6 < t_.next ∧ σ0.next ≤ b6 ∧ ¬ b1 = b6) (fun M hM => ?_) (fun fr14 τ3 hm => ?_)
   ·have nb1_0 : ¬ b1 = τ2.next := by omega
    simp [go_sem, f1, f3, f4, f5, f55, gb1, xlx, xdx, nodeC, xlx5, xdx5, attrC, nb1_0]
    refine (hM _ _).2 ⟨τ2.next, ?_, ?_, ?_, ?_, ?_, by intro j hj; have hj_ := hK j hj; simp [go_sem, hj_.1, hj_.2, show ¬ j = τ2.next by omega], by first | omega | (simp [go_sem]; done) | (simp [go_sem]; omega), by simp (disch := omega) [get_alloc_ne, get_set_ne, get_kill_ne, go_sem, f1, f3, f4, f5, f55, gb1, xlx, xdx, nodeC, xlx5, xdx5, attrC, nb1_0], by first | omega | (simp [go_sem]; done) | (simp [go_sem]; omega), by simp (disch := omega) [get_alloc_ne, get_set_ne, get_kill_ne, go_sem, f1, f3, f4, f5, f55, gb1, xlx, xdx, nodeC, xlx5, xdx5, attrC, nb1_0], by first | omega | (simp [go_sem]; done) | (simp [go_sem]; omega), by omega, by omega⟩ <;> simp [go_sem, f1, f3, f4, f5, f55, gb1, xlx, xdx, nodeC, xlx5, xdx5, attrC, nb1_0]
   clear f1 f3 f4 f5 f55 hK hN gb1 ub1
   obtain ⟨b6, f1, f3, f4, f5, f6, hK, hN, gb1, ub1, gb6, ub6, wb6, eb1b6⟩ := hm
   refine SW.seq ?_
   refine SW.seq ?_
   refine SW.regX (fun f_ t_ => τ3 = t_ ∧ f_ 1 = AV.ptr b1 0 ∧ f_ 3 = AV.int ((IntKind.i64.wrap (rx1 + ((x.attrs.length : Nat) : Int)))) ∧ f_ 4 = AV.int (((rx : Nat) : Int)) ∧ f_ 5 = AV.int (((a : Nat) : Int)) ∧ f_ 6 = AV.ptr b6 0 ∧ f_ 76 = AV.bool ((((decide (40 < ((x5.name.length : Nat) : Int)))) || ((decide (25 < ((x5.names.length : Nat) : Int))))))) (fun M hM => ?_) (fun fr15 τz10 hm => ?_)
   ·rcases Bool.eq_false_or_eq_true ((decide (40 < ((x5.name.length : Nat) : Int)))) with y0 | y0
    ·have y0' := y0
     try simp at y0'
     simp [go_sem, f1, f3, f4, f5, f6, gb1, gb6, y0, y0']
     refine (hM _ _).2 ⟨rfl, ?_, ?_, ?_, ?_, ?_, ?_⟩ <;> simp [go_sem, f1, f3, f4, f5, f6, gb1, gb6, y0, y0']
    ·have y0' := y0
     try simp at y0'
     simp [go_sem, f1, f3, f4, f5, f6, gb1, gb6, y0, y0']
     refine (hM _ _).2 ⟨rfl, ?_, ?_, ?_, ?_, ?_, ?_⟩ <;> simp [go_sem, f1, f3, f4, f5, f6, gb1, gb6, y0, y0']
   clear f1 f3 f4 f5 f6
   obtain ⟨rfl, f1, f3, f4, f5, f6, f76⟩ := hm
   refine SW.cond _ f76 (fun hx4 => ?_) (fun hx4 => ?_)
   ·have hbi1 := condT hbi1 hx4
    refine SW.seq ?_
    refine SW.regX (fun f_ t_ => τ3 = t_ ∧ f_ 2 = AV.bool (false)) (fun M hM => ?_) (fun fr16 τz11 hm => ?_)
    ·simp [go_sem, f1, f3, f4, f5, f6, f76, gb1, gb6]
     refine (hM _ _).2 ⟨rfl, ?_⟩ <;> simp [go_sem, f1, f3, f4, f5, f6, f76, gb1, gb6]
    clear f1 f3 f4 f5 f6 f76
    obtain ⟨rfl, f2⟩ := hm
    obtain rfl := Option.some.inj hbi1
    obtain rfl := Option.some.inj hci1
    obtain rfl := Option.some.inj hoi1
    obtain rfl := Option.some.inj hci
    obtain rfl := Option.some.inj hoi
    exact SW.ret ⟨AV.bool (false), by simp [go_sem, f2], .lit _, hK.keeps⟩
   have hbi1 := condF hbi1 hx4
   refine SW.skip ?_
   refine SW.seq ?_
   refine SW.regX (fun f_ t_ => τ3 = t_ ∧ f_ 1 = AV.ptr b1 0 ∧ f_ 3 = AV.int ((IntKind.i64.wrap (rx1 + ((x.attrs.length : Nat) : Int)))) ∧ f_ 4 = AV.int (((rx : Nat) : Int)) ∧ f_ 5 = AV.int (((a : Nat) : Int)) ∧ f_ 6 = AV.ptr b6 0 ∧ f_ 7 = AV.int (0)) (fun M hM => ?_) (fun fr17 τz12 hm => ?_)
   ·simp [go_sem, f1, f3, f4, f5, f6, f76, gb1, gb6]
    refine (hM _ _).2 ⟨rfl, ?_, ?_, ?_, ?_, ?_, ?_⟩ <;> simp [go_sem, f1, f3, f4, f5, f6, f76, gb1, gb6]
   clear f1 f3 f4 f5 f6 f76
   obtain ⟨rfl, f1, f3, f4, f5, f6, f7⟩ := hm
   obtain ⟨oi2, hruni2, hoi2⟩ := obind hbi1
   refine SW.lenB b6 3 gb6 rfl (fun hbigi2 => ?_)
   obtain ⟨KL, hKL⟩ : ∃ KL : Fr → Mem → Prop, ∀ fr' τ', KL fr' τ' ↔ (oi2 = .done () ∧ τ3 = τ' ∧ fr' 1 = AV.ptr b1 0 ∧ fr' 3 = AV.int ((IntKind.i64.wrap (rx1 + ((x.attrs.length : Nat) : Int)))) ∧ fr' 4 = AV.int (((rx : Nat) : Int)) ∧ fr' 5 = AV.int (((a : Nat) : Int))) := ⟨_, fun _ _ => Iff.rfl⟩
   refine SW.cut KL ?_ ?_
   ·refine SW.block ?_
    obtain ⟨J, hJ⟩ : ∃ J : Nat → Fr → Mem → Prop, ∀ m_ fr' τ', J m_ fr' τ' ↔ (∃ k : Nat, m_ = x5.names.length - k ∧ forN (b3_ref04_Few x5) (x5.names.length - k) k () = some oi2 ∧ τ3 = τ' ∧ fr' 1 = AV.ptr b1 0 ∧ fr' 3 = AV.int ((IntKind.i64.wrap (rx1 + ((x.attrs.length : Nat) : Int)))) ∧ fr' 4 = AV.int (((rx : Nat) : Int)) ∧ fr' 5 = AV.int (((a : Nat) : Int)) ∧ fr' 6 = AV.ptr b6 0 ∧ fr' 7 = AV.int (((k : Nat) : Int))) := ⟨_, fun _ _ _ => Iff.rfl⟩
    refine SW.loop J (x5.names.length - 0) ((hJ _ _ _).2 ⟨0, rfl, hruni2, rfl, f1, f3, f4, f5, f6, f7⟩) ?_
    clear hruni2
    intro m_ fr18 τ4 hm
    rw [hJ] at hm
    clear f1 f3 f4 f5 f6 f7
    obtain ⟨k, rfl, hruni2, rfl, f1, f3, f4, f5, f6, f7⟩ := hm
    refine SW.seq ?_
    refine SW.seq ?_
    refine SW.regX (fun f_ t_ => τ3 = t_ ∧ f_ 1 = AV.ptr b1 0 ∧ f_ 3 = AV.int ((IntKind.i64.wrap (rx1 + ((x.attrs.length : Nat) : Int)))) ∧ f_ 4 = AV.int (((rx : Nat) : Int)) ∧ f_ 5 = AV.int (((a : Nat) : Int)) ∧ f_ 6 = AV.ptr b6 0 ∧ f_ 7 = AV.int (((k : Nat) : Int)) ∧ f_ 81 = AV.bool ((decide (k < x5.names.length)))) (fun M hM => ?_) (fun fr19 τz13 hm => ?_)
    ·simp [go_sem, f1, f3, f4, f5, f6, f7, gb1, gb6]
     refine (hM _ _).2 ⟨rfl, ?_, ?_, ?_, ?_, ?_, ?_, ?_⟩ <;> simp [go_sem, f1, f3, f4, f5, f6, f7, gb1, gb6]
    clear f1 f3 f4 f5 f6 f7
    obtain ⟨rfl, f1, f3, f4, f5, f6, f7, f81⟩ := hm
    refine SW.cond _ f81 (fun hx5 => ?_) (fun hx5 => ?_)
    rotate_left
    ·have hk : ¬ k < x5.names.length := by have := of_decide_eq_false hx5; omega
     refine SW.exit rfl ?_
     exact SW.goal ((hKL _ _).2 ⟨forN_end hruni2 hk, rfl, f1, f3, f4, f5⟩)
    have hkk : k < x5.names.length := by have := of_decide_eq_true hx5; omega
    have hwk : IntKind.i64.wrap ((k : Int) + 1) = ((k + 1 : Nat) : Int) := by rw [wrap64_of _ (by omega) (by omega)]; rfl
    obtain ⟨ci2, hbi2, hci2⟩ := forN_step hruni2 hkk
    simp only [b3_ref04_Few] at hbi2
    refine SW.skip ?_
    refine SW.seq ?_
    refine SW.block ?_
    refine SW.seq ?_
    obtain ⟨w, hw, hbi2⟩ := obind hbi2
    have xlw := getN_lt hw
    have xdw := getN_map AV.str hw
    refine SW.regX (fun f_ t_ => τ3 = t_ ∧ f_ 1 = AV.ptr b1 0 ∧ f_ 3 = AV.int ((IntKind.i64.wrap (rx1 + ((x.attrs.length : Nat) : Int)))) ∧ f_ 4 = AV.int (((rx : Nat) : Int)) ∧ f_ 5 = AV.int (((a : Nat) : Int)) ∧ f_ 6 = AV.ptr b6 0 ∧ f_ 7 = AV.int (((k : Nat) : Int)) ∧ f_ 90 = AV.bool ((decide (40 < ((w.length : Nat) : Int))))) (fun M hM => ?_) (fun fr20 τz14 hm => ?_)
    ·simp [go_sem, f1, f3, f4, f5, f6, f7, f81, gb1, gb6, xlw, xdw]
     refine (hM _ _).2 ⟨rfl, ?_, ?_, ?_, ?_, ?_, ?_, ?_⟩ <;> simp [go_sem, f1, f3, f4, f5, f6, f7, f81, gb1, gb6, xlw, xdw]
    clear f1 f3 f4 f5 f6 f7 f81
    obtain ⟨rfl, f1, f3, f4, f5, f6, f7, f90⟩ := hm
    refine SW.cond _ f90 (fun hx6 => ?_) (fun hx6 => ?_)
    ·have hbi2 := condT hbi2 hx6
     refine SW.seq ?_
     refine SW.regX (fun f_ t_ => τ3 = t_ ∧ f_ 2 = AV.bool (false)) (fun M hM => ?_) (fun fr21 τz15 hm => ?_)
     ·simp [go_sem, f1, f3, f4, f5, f6, f7, f90, gb1, gb6]
      refine (hM _ _).2 ⟨rfl, ?_⟩ <;> simp [go_sem, f1, f3, f4, f5, f6, f7, f90, gb1, gb6]
     clear f1 f3 f4 f5 f6 f7 f90
     obtain ⟨rfl, f2⟩ := hm
     obtain rfl := Option.some.inj hbi2
     obtain rfl := Option.some.inj hci2
     obtain rfl := Option.some.inj hoi2
     obtain rfl := Option.some.inj hci1
     obtain rfl := Option.some.inj hoi1
     obtain rfl := Option.some.inj hci
     obtain rfl := Option.some.inj hoi
     exact SW.ret ⟨AV.bool (false), by simp [go_sem, f2], .lit _, hK.keeps⟩
    have hbi2 := condF hbi2 hx6
    refine SW.skip ?_
    refine SW.blk ?_
    refine SW.regX (fun f_ t_ => τ3 = t_ ∧ f_ 1 = AV.ptr b1 0 ∧ f_ 3 = AV.int ((IntKind.i64.wrap (rx1 + ((x.attrs.length : Nat) : Int)))) ∧ f_ 4 = AV.int (((rx : Nat) : Int)) ∧ f_ 5 = AV.int (((a : Nat) : Int)) ∧ f_ 6 = AV.ptr b6 0 ∧ f_ 7 = AV.int (((k + 1 : Nat) : Int))) (fun M hM => ?_) (fun fr22 τz16 hm => ?_)
    ·simp [go_sem, f1, f3, f4, f5, f6, f7, f90, gb1, gb6, hwk]
     refine (hM _ _).2 ⟨rfl, ?_, ?_, ?_, ?_, ?_, ?_⟩ <;> simp [go_sem, f1, f3, f4, f5, f6, f7, f90, gb1, gb6, hwk]
    clear f1 f3 f4 f5 f6 f7 f90
    obtain ⟨rfl, f1, f3, f4, f5, f6, f7⟩ := hm
    obtain rfl := Option.some.inj hbi2
    exact SW.goal ⟨x5.names.length - (k + 1), by omega, (hJ _ _ _).2 ⟨k + 1, rfl, hci2, rfl, f1, f3, f4, f5, f6, f7⟩⟩
   intro fr23 τ5 hm
   rw [hKL] at hm
   clear hKL hruni2
   clear f1 f3 f4 f5 f6 f7
   obtain ⟨rfl, rfl, f1, f3, f4, f5⟩ := hm
   simp only [Out.on] at hoi2
   refine SW.blk ?_
   refine SW.regX (fun f_ t_ => τ3 = t_ ∧ f_ 1 = AV.ptr b1 0 ∧ f_ 3 = AV.int ((IntKind.i64.wrap (rx1 + ((x.attrs.length : Nat) : Int)))) ∧ f_ 4 = AV.int (((rx : Nat) : Int)) ∧ f_ 5 = AV.int (((a + 1 : Nat) : Int))) (fun M hM => ?_) (fun fr24 τz17 hm => ?_)
   ·simp [go_sem, f1, f3, f4, f5, gb1, hwa]
    refine (hM _ _).2 ⟨rfl, ?_, ?_, ?_, ?_⟩ <;> simp [go_sem, f1, f3, f4, f5, gb1, hwa]
   clear f1 f3 f4 f5
   obtain ⟨rfl, f1, f3, f4, f5⟩ := hm
   obtain rfl := Option.some.inj hoi2
   exact SW.goal ⟨x.attrs.length - (a + 1), by omega, (hJ _ _ _).2 ⟨a + 1, rfl, hci1, f1, f3, f4, f5, hK, hN, gb1, ub1⟩⟩
  intro fr25 τ6 hm
  rw [hKL] at hm
  clear hKL hruni1
  clear f1 f3 f4 f5 hK hN gb1 ub1
  obtain ⟨rfl, f1, f3, f4, hK, hN, gb1, ub1⟩ := hm
  simp only [Out.on] at hoi1
  refine SW.blk ?_
  refine SW.regX (fun f_ t_ => τ6 = t_ ∧ f_ 1 = AV.ptr b1 0 ∧ f_ 3 = AV.int ((IntKind.i64.wrap (rx1 + ((x.attrs.length : Nat) : Int)))) ∧ f_ 4 = AV.int (((rx + 1 : Nat) : Int))) (fun M hM => ?_) (fun fr26 τz18 hm => ?_)
  ·simp [go_sem, f1, f3, f4, gb1, hwrx]
   refine (hM _ _).2 ⟨rfl, ?_, ?_, ?_⟩ <;> simp [go_sem, f1, f3, f4, gb1, hwrx]
  clear f1 f3 f4
  obtain ⟨rfl, f1, f3, f4⟩ := hm
  obtain rfl := Option.some.inj hoi1
  exact SW.goal ⟨t.nodes.length - (rx + 1), by omega, (hJ _ _ _).2 ⟨rx + 1, (IntKind.i64.wrap (rx1 + ((x.attrs.length : Nat) : Int))), rfl, hci, f1, f3, f4, hK, hN, gb1, ub1⟩⟩
 intro fr27 τ7 hm
 rw [hKL] at hm
 clear hKL hruni
 clear f1 f3 f4 hK hN gb1 ub1
 obtain ⟨rx1, rfl, f1, hK, hN, gb1, ub1⟩ := hm
 simp only [Out.on] at hoi
 refine SW.seq ?_
 refine SW.seq ?_
 refine SW.regX (fun f_ t_ => τ7 = t_ ∧ f_ 1 = AV.ptr b1 0 ∧ f_ 8 = AV.int (0)) (fun M hM => ?_) (fun fr28 τz19 hm => ?_)
 ·simp [go_sem, f1, gb1]
  refine (hM _ _).2 ⟨rfl, ?_, ?_⟩ <;> simp [go_sem, f1, gb1]
 clear f1
 obtain ⟨rfl, f1, f8⟩ := hm
 obtain ⟨oi3, hruni3, hoi3⟩ := obind hoi
 refine SW.lenB b1 1 gb1 rfl (fun hbigi3 => ?_)
 obtain ⟨KL, hKL⟩ : ∃ KL : Fr → Mem → Prop, ∀ fr' τ', KL fr' τ' ↔ (oi3 = .done () ∧ τ7 = τ') := ⟨_, fun _ _ => Iff.rfl⟩
 refine SW.cut KL ?_ ?_
 ·refine SW.block ?_
  obtain ⟨J, hJ⟩ : ∃ J : Nat → Fr → Mem → Prop, ∀ m_ fr' τ', J m_ fr' τ' ↔ (∃ k1 : Nat, m_ = t.edges.length - k1 ∧ forN (b7_ref04_Few t) (t.edges.length - k1) k1 () = some oi3 ∧ τ7 = τ' ∧ fr' 1 = AV.ptr b1 0 ∧ fr' 8 = AV.int (((k1 : Nat) : Int))) := ⟨_, fun _ _ _ => Iff.rfl⟩
  refine SW.loop J (t.edges.length - 0) ((hJ _ _ _).2 ⟨0, rfl, hruni3, rfl, f1, f8⟩) ?_
  clear hruni3
  intro m_ fr29 τ8 hm
  rw [hJ] at hm
  clear f1 f8
  obtain ⟨k1, rfl, hruni3, rfl, f1, f8⟩ := hm
  refine SW.seq ?_
  refine SW.seq ?_
  refine SW.regX (fun f_ t_ => τ7 = t_ ∧ f_ 1 = AV.ptr b1 0 ∧ f_ 8 = AV.int (((k1 : Nat) : Int)) ∧ f_ 95 = AV.bool ((decide (k1 < t.edges.length)))) (fun M hM => ?_) (fun fr30 τz20 hm => ?_)
  ·simp [go_sem, f1, f8, gb1]
   refine (hM _ _).2 ⟨rfl, ?_, ?_, ?_⟩ <;> simp [go_sem, f1, f8, gb1]
  clear f1 f8
  obtain ⟨rfl, f1, f8, f95⟩ := hm
  refine SW.cond _ f95 (fun hx7 => ?_) (fun hx7 => ?_)
  rotate_left
  ·have hk : ¬ k1 < t.edges.length := by have := of_decide_eq_false hx7; omega
   refine SW.exit rfl ?_
   exact SW.goal ((hKL _ _).2 ⟨forN_end hruni3 hk, rfl⟩)
  have hkk1 : k1 < t.edges.length := by have := of_decide_eq_true hx7; omega
  have hwk1 : IntKind.i64.wrap ((k1 : Int) + 1) = ((k1 + 1 : Nat) : Int) := by rw [wrap64_of _ (by omega) (by omega)]; rfl
  obtain ⟨ci3, hbi3, hci3⟩ := forN_step hruni3 hkk1
  simp only [b7_ref04_Few] at hbi3
  refine SW.skip ?_
  refine SW.seq ?_
  refine SW.block ?_
  refine SW.seq ?_
  obtain ⟨x6, hx6, hbi3⟩ := obind hbi3
  have xlx6 := getN_lt hx6
  have xdx6 := getN_flat edgeC 7 (fun _ => rfl) hx6
  refine SW.regX (fun f_ t_ => τ7 = t_ ∧ f_ 1 = AV.ptr b1 0 ∧ f_ 8 = AV.int (((k1 : Nat) : Int)) ∧ f_ 105 = AV.bool ((decide (40 < ((x6.name.length : Nat) : Int))))) (fun M hM => ?_) (fun fr31 τz21 hm => ?_)
  ·simp [go_sem, f1, f8, f95, gb1, xlx6, xdx6, edgeC]
   refine (hM _ _).2 ⟨rfl, ?_, ?_, ?_⟩ <;> simp [go_sem, f1, f8, f95, gb1, xlx6, xdx6, edgeC]
  clear f1 f8 f95
  obtain ⟨rfl, f1, f8, f105⟩ := hm
  refine SW.cond _ f105 (fun hx8 => ?_) (fun hx8 => ?_)
  ·have hbi3 := condT hbi3 hx8
   refine SW.seq ?_
   refine SW.regX (fun f_ t_ => τ7 = t_ ∧ f_ 2 = AV.bool (false)) (fun M hM => ?_) (fun fr32 τz22 hm => ?_)
   ·simp [go_sem, f1, f105, f8, gb1]
    refine (hM _ _).2 ⟨rfl, ?_⟩ <;> simp [go_sem, f1, f105, f8, gb1]
   clear f1 f105 f8
   obtain ⟨rfl, f2⟩ := hm
   obtain rfl := Option.some.inj hbi3
   obtain rfl := Option.some.inj hci3
   obtain rfl := Option.some.inj hoi3
   exact SW.ret ⟨AV.bool (false), by simp [go_sem, f2], .lit _, hK.keeps⟩
  have hbi3 := condF hbi3 hx8
  refine SW.skip ?_
  refine SW.blk ?_
  refine SW.regX (fun f_ t_ => τ7 = t_ ∧ f_ 1 = AV.ptr b1 0 ∧ f_ 8 = AV.int (((k1 + 1 : Nat) : Int))) (fun M hM => ?_) (fun fr33 τz23 hm => ?_)
  ·simp [go_sem, f1, f105, f8, gb1, hwk1]
   refine (hM _ _).2 ⟨rfl, ?_, ?_⟩ <;> simp [go_sem, f1, f105, f8, gb1, hwk1]
  clear f1 f105 f8
  obtain ⟨rfl, f1, f8⟩ := hm
  obtain rfl := Option.some.inj hbi3
  exact SW.goal ⟨t.edges.length - (k1 + 1), by omega, (hJ _ _ _).2 ⟨k1 + 1, rfl, hci3, rfl, f1, f8⟩⟩
 intro fr34 τ9 hm
 rw [hKL] at hm
 clear hKL hruni3
 clear f1 f8
 obtain ⟨rfl, rfl⟩ := hm
 simp only [Out.on] at hoi3
 refine SW.seq ?_
 refine SW.regX (fun f_ t_ => τ7 = t_ ∧ f_ 2 = AV.bool (true)) (fun M hM => ?_) (fun fr35 τz24 hm => ?_)
 ·simp [go_sem]
  refine (hM _ _).2 ⟨rfl, ?_⟩ <;> simp [go_sem]
 obtain ⟨rfl, f2⟩ := hm
 obtain rfl := Option.some.inj hoi3
 exact SW.ret ⟨AV.bool (true), by simp [go_sem, f2], .lit _, hK.keeps⟩
set_option maxHeartbeats 4000000 in
theorem w_ref05_Few (g : Graph) (r : (Bool)) (h : s_ref05_Few g = some r) : PureA Tryz.prog 34 [AV.agg [intsA (g.nodes), e3sA (g.edges)]] (AV.bool (r)) := by
 refine pureA_of_SW (N := 13) Tryz.func34 (by kernel_rfl) rfl (by rw [Tryz.ntmps34]; rfl) (fun σ0 => ?_)
 rw [Tryz.results34]
 obtain ⟨fr0, hfr⟩ : ∃ fr, fr = initFr [AV.agg [intsA (g.nodes), e3sA (g.edges)]] := ⟨_, rfl⟩
 rw [← hfr]
 have f0 : fr0 0 = AV.agg [intsA (g.nodes), e3sA (g.edges)] := by rw [hfr]; rfl
 clear hfr
 simp only [s_ref05_Few] at h
 refine SW.seq ?_
 refine SW.regX (fun f_ t_ => ∃ b1 : Nat, f_ 1 = AV.ptr b1 0 ∧ Kept σ0 t_ ∧ σ0.next ≤ t_.next ∧ t_.get b1 = some [intsA (g.nodes), e3sA (g.edges)] ∧ b1 < t_.next ∧ σ0.next ≤ b1) (fun M hM => ?_) (fun fr1 τ hm => ?_)
 ·simp [go_sem, f0]
  refine (hM _ _).2 ⟨σ0.next, ?_, by intro j hj; simp [go_sem, show ¬ j = σ0.next by omega], by first | omega | (simp [go_sem]; done) | (simp [go_sem]; omega), by simp (disch := omega) [get_alloc_ne, get_set_ne, get_kill_ne, go_sem, f0], by first | omega | (simp [go_sem]; done) | (simp [go_sem]; omega), by omega⟩ <;> simp [go_sem, f0]
 clear f0
 obtain ⟨b1, f1, hK, hN, gb1, ub1, wb1⟩ := hm
 refine SW.seq ?_
 refine SW.regX (fun f_ t_ => τ = t_ ∧ f_ 2 = AV.bool ((((decide (((g.nodes.length : Nat) : Int) ≤ 45))) && ((decide (((g.edges.length : Nat) : Int) ≤ 90)))))) (fun M hM => ?_) (fun fr2 τz hm => ?_)
 ·rcases Bool.eq_false_or_eq_true ((decide (((g.nodes.length : Nat) : Int) ≤ 45))) with y0 | y0
  ·have y0' := y0
   try simp at y0'
   simp [go_sem, f1, gb1, y0, y0']
   refine (hM _ _).2 ⟨rfl, ?_⟩ <;> simp [go_sem, f1, gb1, y0, y0']
  ·have y0' := y0
   try simp at y0'
   simp [go_sem, f1, gb1, y0, y0']
   refine (hM _ _).2 ⟨rfl, ?_⟩ <;> simp [go_sem, f1, gb1, y0, y0']
 clear f1
 obtain ⟨rfl, f2⟩ := hm
 obtain rfl := Option.some.inj h
 exact SW.ret ⟨AV.bool ((((decide (((g.nodes.length : Nat) : Int) ≤ 45))) && ((decide (((g.edges.length : Nat) : Int) ≤ 90))))), by simp [go_sem, f2], .lit _, hK.keeps⟩
set_option maxHeartbeats 4000000 in
theorem w_ref04_in (n : Int) (low : Int) (high : Int) (r : (Bool)) (h : s_ref04_in n low high = some r) : PureA Tryz.prog 99 [AV.int (n), AV.int (low), AV.int (high)] (AV.bool (r)) := by
 refine pureA_of_SW (N := 15) Tryz.func99 (by kernel_rfl) rfl (by rw [Tryz.ntmps99]; rfl) (fun σ0 => ?_)
 rw [Tryz.results99]
 obtain ⟨fr0, hfr⟩ : ∃ fr, fr = initFr [AV.int (n), AV.int (low), AV.int (high)] := ⟨_, rfl⟩
 rw [← hfr]
 have f0 : fr0 0 = AV.int (n) := by rw [hfr]; rfl
 have f1 : fr0 1 = AV.int (low) := by rw [hfr]; rfl
 have f2 : fr0 2 = AV.int (high) := by rw [hfr]; rfl
 clear hfr
 simp only [s_ref04_in] at h
 refine SW.seq ?_
 refine SW.regX (fun f_ t_ => σ0 = t_ ∧ f_ 0 = AV.int (n) ∧ f_ 1 = AV.int (low) ∧ f_ 2 = AV.int (high)) (fun M hM => ?_) (fun fr1 τz hm => ?_)
 ·simp [go_sem, f0, f1, f2]
  refine (hM _ _).2 ⟨rfl, ?_, ?_, ?_⟩ <;> simp [go_sem, f0, f1, f2]
 clear f0 f1 f2
 obtain ⟨rfl, f0, f1, f2⟩ := hm
 refine SW.seq ?_
 refine SW.regX (fun f_ t_ => σ0 = t_ ∧ f_ 6 = AV.bool ((((decide (low ≤ n))) && ((decide (n ≤ high)))))) (fun M hM => ?_) (fun fr2 τz1 hm => ?_)
 ·rcases Bool.eq_false_or_eq_true ((decide (low ≤ n))) with y0 | y0
  ·have y0' := y0
   try simp at y0'
   simp [go_sem, f0, f1, f2, y0, y0']
   refine (hM _ _).2 ⟨rfl, ?_⟩ <;> simp [go_sem, f0, f1, f2, y0, y0']
  ·have y0' := y0
   try simp at y0'
   simp [go_sem, f0, f1, f2, y0, y0']
   refine (hM _ _).2 ⟨rfl, ?_⟩ <;> simp [go_sem, f0, f1, f2, y0, y0']
 clear f0 f1 f2
 obtain ⟨rfl, f6⟩ := hm
 obtain rfl := Option.some.inj h
 exact SW.ret ⟨AV.bool ((((decide (low ≤ n))) && ((decide (n ≤ high))))), by simp [go_sem, f6], .lit _, Keeps.refl _⟩
end Go.Proofs.YtdacgjleiloooaaGreat
