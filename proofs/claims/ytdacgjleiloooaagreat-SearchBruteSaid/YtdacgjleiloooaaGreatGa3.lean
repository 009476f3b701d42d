/-
  Plain functions and the walks that lead to them, by a program of ours (gen.py): scarfjoint/search.shape.
-/
import Derived.Test.YtdacgjleiloooaaGreatGd
import Derived.Test.YtdacgjleiloooaaGreatGT
import Derived.Test.YtdacgjleiloooaaGreatB3
import Derived.Test.YtdacgjleiloooaaGreatGS
set_option linter.unusedSimpArgs false
set_option linter.unusedVariables false
namespace Go.Proofs.YtdacgjleiloooaaGreat
open Go Go.Ew Go.Proofs Go.RowKit
set_option maxRecDepth 100000
set_option maxHeartbeats 4000000 in
theorem w_search_shape (t : Types) (o : Graph) (A : Graph) (rx : Morph) (r : (Int)) (h : s_search_shape t o A rx = some r) : PureA Tryz.prog 37 [AV.agg [nodesA (t.nodes), edgesA (t.edges)], AV.agg [intsA (o.nodes), e3sA (o.edges)], AV.agg [intsA (A.nodes), e3sA (A.edges)], AV.agg [intsA (rx.nodes), intsA (rx.edges)]] (AV.int (r)) := by
 refine pureA_of_SW (N := 121) Tryz.func37 (by kernel_rfl) rfl (by rw [Tryz.ntmps37]; rfl) (fun σ0 => ?_)
 rw [Tryz.results37]
 obtain ⟨fr0, hfr⟩ : ∃ fr, fr = initFr [AV.agg [nodesA (t.nodes), edgesA (t.edges)], AV.agg [intsA (o.nodes), e3sA (o.edges)], AV.agg [intsA (A.nodes), e3sA (A.edges)], AV.agg [intsA (rx.nodes), intsA (rx.edges)]] := ⟨_, rfl⟩
 rw [← hfr]
 have f0 : fr0 0 = AV.agg [nodesA (t.nodes), edgesA (t.edges)] := by rw [hfr]; rfl
 have f1 : fr0 1 = AV.agg [intsA (o.nodes), e3sA (o.edges)] := by rw [hfr]; rfl
 have f2 : fr0 2 = AV.agg [intsA (A.nodes), e3sA (A.edges)] := by rw [hfr]; rfl
 have f3 : fr0 3 = AV.agg [intsA (rx.nodes), intsA (rx.edges)] := by rw [hfr]; rfl
 clear hfr
 simp only [s_search_shape] at h
 refine SW.seq ?_
 refine SW.regX (fun f_ t_ => ∃ b4 : Nat, ∃ b5 : Nat, ∃ b6 : Nat, ∃ b7 : Nat, f_ 4 = AV.ptr b4 0 ∧ f_ 5 = AV.ptr b5 0 ∧ f_ 6 = AV.ptr b6 0 ∧ f_ 7 = AV.ptr b7 0 ∧ Kept σ0 t_ ∧ σ0.next ≤ t_.next ∧ t_.get b4 = some [nodesA (t.nodes), edgesA (t.edges)] ∧ b4 < t_.next ∧ t_.get b5 = some [intsA (o.nodes), e3sA (o.edges)] ∧ b5 < t_.next ∧ t_.get b6 = some [intsA (A.nodes), e3sA (A.edges)] ∧ b6 < t_.next ∧ t_.get b7 = some [intsA (rx.nodes), intsA (rx.edges)] ∧ b7 < t_.next ∧ σ0.next ≤ b4 ∧ σ0.next ≤ b5 ∧ ¬ b4 = b5 ∧ σ0.next ≤ b6 ∧ ¬ b4 = b6 ∧ ¬ b5 = b6 ∧ σ0.next ≤ b7 ∧ ¬ b4 = b7 ∧ ¬ b5 = b7 ∧ ¬ b6 = b7) (fun M hM => ?_) (fun fr1 τ hm => ?_)
 ·simp [go_sem, f0, f1, f2, f3]
  refine (hM _ _).2 ⟨σ0.next, (σ0.next + 1), (σ0.next + 2), (σ0.next + 3), ?_, ?_, ?_, ?_, by intro j hj; simp [go_sem, show ¬ j = σ0.next by omega, show ¬ j = σ0.next + 1 by omega, show ¬ j = σ0.next + 2 by omega, show ¬ j = σ0.next + 3 by omega], by first | omega | (simp [go_sem]; done) | (simp [go_sem]; omega), by simp (disch := omega) [get_alloc_ne, get_set_ne, get_kill_ne, go_sem, f0, f1, f2, f3], by first | omega | (simp [go_sem]; done) | (simp [go_sem]; omega), by simp (disch := omega) [get_alloc_ne, get_set_ne, get_kill_ne, go_sem, f0, f1, f2, f3], by first | omega | (simp [go_sem]; done) | (simp [go_sem]; omega), by simp (disch := omega) [get_alloc_ne, get_set_ne, get_kill_ne, go_sem, f0, f1, f2, f3], by first | omega | (simp [go_sem]; done) | (simp [go_sem]; omega), by simp (disch := omega) [get_alloc_ne, get_set_ne, get_kill_ne, go_sem, f0, f1, f2, f3], by first | omega | (simp [go_sem]; done) | (simp [go_sem]; omega), by omega, by omega, by omega, by omega, by omega, by omega, by omega, by omega, by omega, by omega⟩ <;> simp [go_sem, f0, f1, f2, f3]
 clear f0 f1 f2 f3
 obtain ⟨b4, b5, b6, b7, f4, f5, f6, f7, hK, hN, gb4, ub4, gb5, ub5, gb6, ub6, gb7, ub7, wb4, wb5, eb4b5, wb6, eb4b6, eb5b6, wb7, eb4b7, eb5b7, eb6b7⟩ := hm
 refine SW.seq ?_
 refine SW.seq ?_
 refine SW.regX (fun f_ t_ => τ = t_ ∧ f_ 4 = AV.ptr b4 0 ∧ f_ 5 = AV.ptr b5 0 ∧ f_ 6 = AV.ptr b6 0 ∧ f_ 7 = AV.ptr b7 0 ∧ f_ 31 = AV.bool ((((!decide (rx.nodes.length = o.nodes.length))) || ((!decide (rx.edges.length = o.edges.length)))))) (fun M hM => ?_) (fun fr2 τz hm => ?_)
 ·rcases Bool.eq_false_or_eq_true ((!decide (rx.nodes.length = o.nodes.length))) with y0 | y0
  ·have y0' := y0
   try simp at y0'
   simp [go_sem, f4, f5, f6, f7, gb4, gb5, gb6, gb7, y0, y0']
   refine (hM _ _).2 ⟨rfl, ?_, ?_, ?_, ?_, ?_⟩ <;> simp [go_sem, f4, f5, f6, f7, gb4, gb5, gb6, gb7, y0, y0']
  ·have y0' := y0
   try simp at y0'
   simp [go_sem, f4, f5, f6, f7, gb4, gb5, gb6, gb7, y0, y0']
   refine (hM _ _).2 ⟨rfl, ?_, ?_, ?_, ?_, ?_⟩ <;> simp [go_sem, f4, f5, f6, f7, gb4, gb5, gb6, gb7, y0, y0']
 clear f4 f5 f6 f7
 obtain ⟨rfl, f4, f5, f6, f7, f31⟩ := hm
 refine SW.cond _ f31 (fun hx => ?_) (fun hx => ?_)
 ·have h := condT h hx
  refine SW.seq ?_
  refine SW.regX (fun f_ t_ => τ = t_ ∧ f_ 8 = AV.int (20)) (fun M hM => ?_) (fun fr3 τz1 hm => ?_)
  ·simp [go_sem, f31, f4, f5, f6, f7, gb4, gb5, gb6, gb7]
   refine (hM _ _).2 ⟨rfl, ?_⟩ <;> simp [go_sem, f31, f4, f5, f6, f7, gb4, gb5, gb6, gb7]
  clear f31 f4 f5 f6 f7
  obtain ⟨rfl, f8⟩ := hm
  obtain rfl := Option.some.inj h
  exact SW.ret ⟨AV.int (20), by simp [go_sem, f8], .lit _, hK.keeps⟩
 have h := condF h hx
 refine SW.skip ?_
 refine SW.seq ?_
 obtain ⟨rx1, hrx1, h⟩ := obind h
 refine SW.regX (fun f_ t_ => τ = t_ ∧ f_ 5 = AV.ptr b5 0 ∧ f_ 6 = AV.ptr b6 0 ∧ f_ 7 = AV.ptr b7 0 ∧ f_ 9 = boolssA (rx1)) (fun M hM => ?_) (fun fr4 τz2 hm => ?_)
 ·simp [go_sem, f31, f4, f5, f6, f7, gb4, gb5, gb6, gb7]
  refine EWcall_pure (w_search_below t _ hrx1) ?_
  simp [go_sem, f31, f4, f5, f6, f7, gb4, gb5, gb6, gb7]
  refine (hM _ _).2 ⟨rfl, ?_, ?_, ?_, ?_⟩ <;> simp [go_sem, f31, f4, f5, f6, f7, gb4, gb5, gb6, gb7]
 clear f31 f4 f5 f6 f7
 obtain ⟨rfl, f5, f6, f7, f9⟩ := hm
 refine SW.seq ?_
 refine SW.seq ?_
 refine SW.regX (fun f_ t_ => τ = t_ ∧ f_ 5 = AV.ptr b5 0 ∧ f_ 6 = AV.ptr b6 0 ∧ f_ 7 = AV.ptr b7 0 ∧ f_ 9 = boolssA (rx1) ∧ f_ 35 = intsA (rx.nodes) ∧ f_ 36 = AV.int (((rx.nodes.length : Nat) : Int)) ∧ f_ 37 = AV.int (0)) (fun M hM => ?_) (fun fr5 τz3 hm => ?_)
 ·simp [go_sem, f5, f6, f7, f9, gb5, gb6, gb7]
  refine (hM _ _).2 ⟨rfl, ?_, ?_, ?_, ?_, ?_, ?_, ?_⟩ <;> simp [go_sem, f5, f6, f7, f9, gb5, gb6, gb7]
 clear f5 f6 f7 f9
 obtain ⟨rfl, f5, f6, f7, f9, f35, f36, f37⟩ := hm
 obtain ⟨oi, hruni, hoi⟩ := obind h
 refine SW.len 35 f35 (fun hbigi => ?_)
 obtain ⟨KL, hKL⟩ : ∃ KL : Fr → Mem → Prop, ∀ fr' τ', KL fr' τ' ↔ (oi = .done () ∧ τ = τ' ∧ fr' 5 = AV.ptr b5 0 ∧ fr' 6 = AV.ptr b6 0 ∧ fr' 7 = AV.ptr b7 0) := ⟨_, fun _ _ => Iff.rfl⟩
 refine SW.cut KL ?_ ?_
 ·refine SW.block ?_
  obtain ⟨J, hJ⟩ : ∃ J : Nat → Fr → Mem → Prop, ∀ m_ fr' τ', J m_ fr' τ' ↔ (∃ k : Nat, m_ = rx.nodes.length - k ∧ forN (b1_search_shape o A rx rx1) (rx.nodes.length - k) k () = some oi ∧ τ = τ' ∧ fr' 5 = AV.ptr b5 0 ∧ fr' 6 = AV.ptr b6 0 ∧ fr' 7 = AV.ptr b7 0 ∧ fr' 9 = boolssA (rx1) ∧ fr' 35 = intsA (rx.nodes) ∧ fr' 36 = AV.int (((rx.nodes.length : Nat) : Int)) ∧ fr' 37 = AV.int (((k : Nat) : Int))) := ⟨_, fun _ _ _ => Iff.rfl⟩
  refine SW.loop J (rx.nodes.length - 0) ((hJ _ _ _).2 ⟨0, rfl, hruni, rfl, f5, f6, f7, f9, f35, f36, f37⟩) ?_
  clear hruni
  intro m_ fr6 τ1 hm
  rw [hJ] at hm
  clear f35 f36 f37 f5 f6 f7 f9
  obtain ⟨k, rfl, hruni, rfl, f5, f6, f7, f9, f35, f36, f37⟩ := hm
  refine SW.seq ?_
  refine SW.regX (fun f_ t_ => τ = t_ ∧ f_ 5 = AV.ptr b5 0 ∧ f_ 6 = AV.ptr b6 0 ∧ f_ 7 = AV.ptr b7 0 ∧ f_ 9 = boolssA (rx1) ∧ f_ 35 = intsA (rx.nodes) ∧ f_ 36 = AV.int (((rx.nodes.length : Nat) : Int)) ∧ f_ 37 = AV.int (((k : Nat) : Int)) ∧ f_ 38 = AV.bool ((decide (k < rx.nodes.length)))) (fun M hM => ?_) (fun fr7 τz4 hm => ?_)
  ·simp [go_sem, f35, f36, f37, f5, f6, f7, f9, gb5, gb6, gb7]
   refine (hM _ _).2 ⟨rfl, ?_, ?_, ?_, ?_, ?_, ?_, ?_, ?_⟩ <;> simp [go_sem, f35, f36, f37, f5, f6, f7, f9, gb5, gb6, gb7]
  clear f35 f36 f37 f5 f6 f7 f9
  obtain ⟨rfl, f5, f6, f7, f9, f35, f36, f37, f38⟩ := hm
  refine SW.seq ?_
  refine SW.cond _ f38 (fun hx1 => ?_) (fun hx1 => ?_)
  rotate_left
  ·have hk : ¬ k < rx.nodes.length := by have := of_decide_eq_false hx1; omega
   refine SW.exit rfl ?_
   exact SW.goal ((hKL _ _).2 ⟨forN_end hruni hk, rfl, f5, f6, f7⟩)
  have hkk : k < rx.nodes.length := by have := of_decide_eq_true hx1; omega
  have hwk : IntKind.i64.wrap ((k : Int) + 1) = ((k + 1 : Nat) : Int) := by rw [wrap64_of _ (by omega) (by omega)]; rfl
  obtain ⟨ci, hbi, hci⟩ := forN_step hruni hkk
  simp only [b1_search_shape] at hbi
  refine SW.skip ?_
  refine SW.seq ?_
  refine SW.block ?_
  refine SW.seq ?_
  obtain ⟨n, hn, hbi⟩ := obind hbi
  have xln := getN_lt hn
  have xdn := getN_map AV.int hn
  refine SW.regX (fun f_ t_ => τ = t_ ∧ f_ 5 = AV.ptr b5 0 ∧ f_ 6 = AV.ptr b6 0 ∧ f_ 7 = AV.ptr b7 0 ∧ f_ 9 = boolssA (rx1) ∧ f_ 10 = AV.int (((k : Nat) : Int)) ∧ f_ 11 = AV.int (n) ∧ f_ 35 = intsA (rx.nodes) ∧ f_ 36 = AV.int (((rx.nodes.length : Nat) : Int)) ∧ f_ 37 = AV.int (((k : Nat) : Int))) (fun M hM => ?_) (fun fr8 τz5 hm => ?_)
  ·simp [go_sem, f35, f36, f37, f38, f5, f6, f7, f9, gb5, gb6, gb7, xln, xdn]
   refine (hM _ _).2 ⟨rfl, ?_, ?_, ?_, ?_, ?_, ?_, ?_, ?_, ?_⟩ <;> simp [go_sem, f35, f36, f37, f38, f5, f6, f7, f9, gb5, gb6, gb7, xln, xdn]
  clear f35 f36 f37 f38 f5 f6 f7 f9
  obtain ⟨rfl, f5, f6, f7, f9, f10, f11, f35, f36, f37⟩ := hm
  refine SW.seq ?_
  refine SW.seq ?_
  refine SW.regX (fun f_ t_ => τ = t_ ∧ f_ 5 = AV.ptr b5 0 ∧ f_ 6 = AV.ptr b6 0 ∧ f_ 7 = AV.ptr b7 0 ∧ f_ 9 = boolssA (rx1) ∧ f_ 10 = AV.int (((k : Nat) : Int)) ∧ f_ 11 = AV.int (n) ∧ f_ 35 = intsA (rx.nodes) ∧ f_ 36 = AV.int (((rx.nodes.length : Nat) : Int)) ∧ f_ 37 = AV.int (((k : Nat) : Int)) ∧ f_ 50 = AV.bool ((((decide (n < 0))) || ((decide (((A.nodes.length : Nat) : Int) ≤ n)))))) (fun M hM => ?_) (fun fr9 τz6 hm => ?_)
  ·rcases Bool.eq_false_or_eq_true ((decide (n < 0))) with y0 | y0
   ·have y0' := y0
    try simp at y0'
    simp [go_sem, f10, f11, f35, f36, f37, f5, f6, f7, f9, gb5, gb6, gb7, y0, y0']
    refine (hM _ _).2 ⟨rfl, ?_, ?_, ?_, ?_, ?_, ?_, ?_, ?_, ?_, ?_⟩ <;> simp [go_sem, f10, f11, f35, f36, f37, f5, f6, f7, f9, gb5, gb6, gb7, y0, y0']
   ·have y0' := y0
    try simp at y0'
    simp [go_sem, f10, f11, f35, f36, f37, f5, f6, f7, f9, gb5, gb6, gb7, y0, y0']
    refine (hM _ _).2 ⟨rfl, ?_, ?_, ?_, ?_, ?_, ?_, ?_, ?_, ?_, ?_⟩ <;> simp [go_sem, f10, f11, f35, f36, f37, f5, f6, f7, f9, gb5, gb6, gb7, y0, y0']
  clear f10 f11 f35 f36 f37 f5 f6 f7 f9
  obtain ⟨rfl, f5, f6, f7, f9, f10, f11, f35, f36, f37, f50⟩ := hm
  refine SW.cond _ f50 (fun hx2 => ?_) (fun hx2 => ?_)
  ·have hbi := condT hbi hx2
   refine SW.seq ?_
   refine SW.regX (fun f_ t_ => τ = t_ ∧ f_ 8 = AV.int (6)) (fun M hM => ?_) (fun fr10 τz7 hm => ?_)
   ·simp [go_sem, f10, f11, f35, f36, f37, f5, f50, f6, f7, f9, gb5, gb6, gb7]
    refine (hM _ _).2 ⟨rfl, ?_⟩ <;> simp [go_sem, f10, f11, f35, f36, f37, f5, f50, f6, f7, f9, gb5, gb6, gb7]
   clear f10 f11 f35 f36 f37 f5 f50 f6 f7 f9
   obtain ⟨rfl, f8⟩ := hm
   obtain rfl := Option.some.inj hbi
   obtain rfl := Option.some.inj hci
   obtain rfl := Option.some.inj hoi
   exact SW.ret ⟨AV.int (6), by simp [go_sem, f8], .lit _, hK.keeps⟩
  have hbi := condF hbi hx2
  refine SW.skip ?_
  refine SW.seq ?_
  obtain ⟨n1, hn1, hbi⟩ := obind hbi
  have xln1 := getN_lt hn1
  have xdn1 := getN_map AV.int hn1
  obtain ⟨x, hx, hbi⟩ := obind hbi
  have xpx := getI_pos hx
  have xlx := getI_lt hx
  have xix := getI_N hx
  have xdx := getN_map boolsA xix
  obtain ⟨n2, hn2, hbi⟩ := obind hbi
  have xpn2 := getI_pos hn2
  have xln2 := getI_lt hn2
  have xin2 := getI_N hn2
  have xdn2 := getN_map AV.int xin2
  obtain ⟨q, hq, hbi⟩ := obind hbi
  have xpq := getI_pos hq
  have xlq := getI_lt hq
  have xiq := getI_N hq
  have xdq := getN_map AV.bool xiq
  refine SW.regX (fun f_ t_ => τ = t_ ∧ f_ 5 = AV.ptr b5 0 ∧ f_ 6 = AV.ptr b6 0 ∧ f_ 7 = AV.ptr b7 0 ∧ f_ 9 = boolssA (rx1) ∧ f_ 35 = intsA (rx.nodes) ∧ f_ 36 = AV.int (((rx.nodes.length : Nat) : Int)) ∧ f_ 37 = AV.int (((k : Nat) : Int)) ∧ f_ 66 = AV.bool ((!q))) (fun M hM => ?_) (fun fr11 τz8 hm => ?_)
  ·refine EW_regionD (by kernel_rfl) (by kernel_rfl) ?_
   simp [go_sem, f10, f11, f35, f36, f37, f5, f50, f6, f7, f9, gb5, gb6, gb7, xln1, xdn1, xpx, xlx, xdx, boolsA, xpn2, xln2, xdn2, xpq, xlq, xdq]
   refine (hM _ _).2 ⟨rfl, ?_, ?_, ?_, ?_, ?_, ?_, ?_, ?_⟩ <;> simp [go_sem, f10, f11, f35, f36, f37, f5, f50, f6, f7, f9, gb5, gb6, gb7, xln1, xdn1, xpx, xlx, xdx, boolsA, xpn2, xln2, xdn2, xpq, xlq, xdq]
  clear f10 f11 f35 f36 f37 f5 f50 f6 f7 f9
  obtain ⟨rfl, f5, f6, f7, f9, f35, f36, f37, f66⟩ := hm
  refine SW.cond _ f66 (fun hx3 => ?_) (fun hx3 => ?_)
  ·have hbi := condT hbi hx3
   refine SW.seq ?_
   refine SW.regX (fun f_ t_ => τ = t_ ∧ f_ 8 = AV.int (13)) (fun M hM => ?_) (fun fr12 τz9 hm => ?_)
   ·simp [go_sem, f35, f36, f37, f5, f6, f66, f7, f9, gb5, gb6, gb7]
    refine (hM _ _).2 ⟨rfl, ?_⟩ <;> simp [go_sem, f35, f36, f37, f5, f6, f66, f7, f9, gb5, gb6, gb7]
   clear f35 f36 f37 f5 f6 f66 f7 f9
   obtain ⟨rfl, f8⟩ := hm
   obtain rfl := Option.some.inj hbi
   obtain rfl := Option.some.inj hci
   obtain rfl := Option.some.inj hoi
   exact SW.ret ⟨AV.int (13), by simp [go_sem, f8], .lit _, hK.keeps⟩
  have hbi := condF hbi hx3
  refine SW.skip ?_
  refine SW.blk ?_
  refine SW.regX (fun f_ t_ => τ = t_ ∧ f_ 5 = AV.ptr b5 0 ∧ f_ 6 = AV.ptr b6 0 ∧ f_ 7 = AV.ptr b7 0 ∧ f_ 9 = boolssA (rx1) ∧ f_ 35 = intsA (rx.nodes) ∧ f_ 36 = AV.int (((rx.nodes.length : Nat) : Int)) ∧ f_ 37 = AV.int (((k + 1 : Nat) : Int))) (fun M hM => ?_) (fun fr13 τz10 hm => ?_)
  ·simp [go_sem, f35, f36, f37, f5, f6, f66, f7, f9, gb5, gb6, gb7, hwk]
   refine (hM _ _).2 ⟨rfl, ?_, ?_, ?_, ?_, ?_, ?_, ?_⟩ <;> simp [go_sem, f35, f36, f37, f5, f6, f66, f7, f9, gb5, gb6, gb7, hwk]
  clear f35 f36 f37 f5 f6 f66 f7 f9
  obtain ⟨rfl, f5, f6, f7, f9, f35, f36, f37⟩ := hm
  obtain rfl := Option.some.inj hbi
  exact SW.goal ⟨rx.nodes.length - (k + 1), by omega, (hJ _ _ _).2 ⟨k + 1, rfl, hci, rfl, f5, f6, f7, f9, f35, f36, f37⟩⟩
 intro fr14 τ2 hm
 rw [hKL] at hm
 clear hKL hruni
 clear f35 f36 f37 f5 f6 f7 f9
 obtain ⟨rfl, rfl, f5, f6, f7⟩ := hm
 simp only [Out.on] at hoi
 refine SW.seq ?_
 refine SW.seq ?_
 refine SW.regX (fun f_ t_ => τ = t_ ∧ f_ 5 = AV.ptr b5 0 ∧ f_ 6 = AV.ptr b6 0 ∧ f_ 7 = AV.ptr b7 0 ∧ f_ 69 = intsA (rx.edges) ∧ f_ 70 = AV.int (((rx.edges.length : Nat) : Int)) ∧ f_ 71 = AV.int (0)) (fun M hM => ?_) (fun fr15 τz11 hm => ?_)
 ·simp [go_sem, f5, f6, f7, gb5, gb6, gb7]
  refine (hM _ _).2 ⟨rfl, ?_, ?_, ?_, ?_, ?_, ?_⟩ <;> simp [go_sem, f5, f6, f7, gb5, gb6, gb7]
 clear f5 f6 f7
 obtain ⟨rfl, f5, f6, f7, f69, f70, f71⟩ := hm
 obtain ⟨oi1, hruni1, hoi1⟩ := obind hoi
 refine SW.len 69 f69 (fun hbigi1 => ?_)
 obtain ⟨KL, hKL⟩ : ∃ KL : Fr → Mem → Prop, ∀ fr' τ', KL fr' τ' ↔ (oi1 = .done () ∧ Kept σ0 τ' ∧ σ0.next ≤ τ'.next) := ⟨_, fun _ _ => Iff.rfl⟩
 refine SW.cut KL ?_ ?_
 ·refine SW.block ?_
  obtain ⟨J, hJ⟩ : ∃ J : Nat → Fr → Mem → Prop, ∀ m_ fr' τ', J m_ fr' τ' ↔ (∃ k1 : Nat, m_ = rx.edges.length - k1 ∧ forN (b3_search_shape o A rx) (rx.edges.length - k1) k1 () = some oi1 ∧ fr' 5 = AV.ptr b5 0 ∧ fr' 6 = AV.ptr b6 0 ∧ fr' 7 = AV.ptr b7 0 ∧ fr' 69 = intsA (rx.edges) ∧ fr' 70 = AV.int (((rx.edges.length : Nat) : Int)) ∧ fr' 71 = AV.int (((k1 : Nat) : Int)) ∧ Kept σ0 τ' ∧ σ0.next ≤ τ'.next ∧ τ'.get b5 = some [intsA (o.nodes), e3sA (o.edges)] ∧ b5 < τ'.next ∧ τ'.get b6 = some [intsA (A.nodes), e3sA (A.edges)] ∧ b6 < τ'.next ∧ τ'.get b7 = some [intsA (rx.nodes), intsA (rx.edges)] ∧ b7 < τ'.next) := ⟨_, fun _ _ _ => Iff.rfl⟩
  refine SW.loop J (rx.edges.length - 0) ((hJ _ _ _).2 ⟨0, rfl, hruni1, f5, f6, f7, f69, f70, f71, hK, hN, gb5, ub5, gb6, ub6, gb7, ub7⟩) ?_
  clear hruni1
  intro m_ fr16 τ3 hm
  rw [hJ] at hm
  clear f5 f6 f69 f7 f70 f71 hK hN gb5 ub5 gb6 ub6 gb7 ub7
  obtain ⟨k1, rfl, hruni1, f5, f6, f7, f69, f70, f71, hK, hN, gb5, ub5, gb6, ub6, gb7, ub7⟩ := hm
  refine SW.seq ?_
  refine SW.regX (fun f_ t_ => τ3 = t_ ∧ f_ 5 = AV.ptr b5 0 ∧ f_ 6 = AV.ptr b6 0 ∧ f_ 7 = AV.ptr b7 0 ∧ f_ 69 = intsA (rx.edges) ∧ f_ 70 = AV.int (((rx.edges.length : Nat) : Int)) ∧ f_ 71 = AV.int (((k1 : Nat) : Int)) ∧ f_ 72 = AV.bool ((decide (k1 < rx.edges.length)))) (fun M hM => ?_) (fun fr17 τz12 hm => ?_)
  ·simp [go_sem, f5, f6, f69, f7, f70, f71, gb5, gb6, gb7]
   refine (hM _ _).2 ⟨rfl, ?_, ?_, ?_, ?_, ?_, ?_, ?_⟩ <;> simp [go_sem, f5, f6, f69, f7, f70, f71, gb5, gb6, gb7]
  clear f5 f6 f69 f7 f70 f71
  obtain ⟨rfl, f5, f6, f7, f69, f70, f71, f72⟩ := hm
  refine SW.seq ?_
  refine SW.cond _ f72 (fun hx4 => ?_) (fun hx4 => ?_)
  rotate_left
  ·have hk : ¬ k1 < rx.edges.length := by have := of_decide_eq_false hx4; omega
   refine SW.exit rfl ?_
   exact SW.goal ((hKL _ _).2 ⟨forN_end hruni1 hk, hK, hN⟩)
  have hkk1 : k1 < rx.edges.length := by have := of_decide_eq_true hx4; omega
  have hwk1 : IntKind.i64.wrap ((k1 : Int) + 1) = ((k1 + 1 : Nat) : Int) := by rw [wrap64_of _ (by omega) (by omega)]; rfl
  obtain ⟨ci1, hbi1, hci1⟩ := forN_step hruni1 hkk1
  simp only [b3_search_shape] at hbi1
  refine SW.skip ?_
  refine SW.seq ?_
  refine SW.block ?_
  refine SW.seq ?_
  obtain ⟨n3, hn3, hbi1⟩ := obind hbi1
  have xln3 := getN_lt hn3
  have xdn3 := getN_map AV.int hn3
  refine SW.regX (fun f_ t_ => τ3 = t_ ∧ f_ 5 = AV.ptr b5 0 ∧ f_ 6 = AV.ptr b6 0 ∧ f_ 7 = AV.ptr b7 0 ∧ f_ 12 = AV.int (((k1 : Nat) : Int)) ∧ f_ 13 = AV.int (n3) ∧ f_ 69 = intsA (rx.edges) ∧ f_ 70 = AV.int (((rx.edges.length : Nat) : Int)) ∧ f_ 71 = AV.int (((k1 : Nat) : Int))) (fun M hM => ?_) (fun fr18 τz13 hm => ?_)
  ·simp [go_sem, f5, f6, f69, f7, f70, f71, f72, gb5, gb6, gb7, xln3, xdn3]
   refine (hM _ _).2 ⟨rfl, ?_, ?_, ?_, ?_, ?_, ?_, ?_, ?_⟩ <;> simp [go_sem, f5, f6, f69, f7, f70, f71, f72, gb5, gb6, gb7, xln3, xdn3]
  clear f5 f6 f69 f7 f70 f71 f72
  obtain ⟨rfl, f5, f6, f7, f12, f13, f69, f70, f71⟩ := hm
  refine SW.seq ?_
  refine SW.seq ?_
  refine SW.regX (fun f_ t_ => τ3 = t_ ∧ f_ 5 = AV.ptr b5 0 ∧ f_ 6 = AV.ptr b6 0 ∧ f_ 7 = AV.ptr b7 0 ∧ f_ 12 = AV.int (((k1 : Nat) : Int)) ∧ f_ 13 = AV.int (n3) ∧ f_ 69 = intsA (rx.edges) ∧ f_ 70 = AV.int (((rx.edges.length : Nat) : Int)) ∧ f_ 71 = AV.int (((k1 : Nat) : Int)) ∧ f_ 84 = AV.bool ((((decide (n3 < 0))) || ((decide (((A.edges.length : Nat) : Int) ≤ n3)))))) (fun M hM => ?_) (fun fr19 τz14 hm => ?_)
  ·rcases Bool.eq_false_or_eq_true ((decide (n3 < 0))) with y0 | y0
   ·have y0' := y0
    try simp at y0'
    simp [go_sem, f12, f13, f5, f6, f69, f7, f70, f71, gb5, gb6, gb7, y0, y0']
    refine (hM _ _).2 ⟨rfl, ?_, ?_, ?_, ?_, ?_, ?_, ?_, ?_, ?_⟩ <;> simp [go_sem, f12, f13, f5, f6, f69, f7, f70, f71, gb5, gb6, gb7, y0, y0']
   ·have y0' := y0
    try simp at y0'
    simp [go_sem, f12, f13, f5, f6, f69, f7, f70, f71, gb5, gb6, gb7, y0, y0']
    refine (hM _ _).2 ⟨rfl, ?_, ?_, ?_, ?_, ?_, ?_, ?_, ?_, ?_⟩ <;> simp [go_sem, f12, f13, f5, f6, f69, f7, f70, f71, gb5, gb6, gb7, y0, y0']
  clear f12 f13 f5 f6 f69 f7 f70 f71
  obtain ⟨rfl, f5, f6, f7, f12, f13, f69, f70, f71, f84⟩ := hm
  refine SW.cond _ f84 (fun hx5 => ?_) (fun hx5 => ?_)
  ·have hbi1 := condT hbi1 hx5
   refine SW.seq ?_
   refine SW.regX (fun f_ t_ => τ3 = t_ ∧ f_ 8 = AV.int (6)) (fun M hM => ?_) (fun fr20 τz15 hm => ?_)
   ·simp [go_sem, f12, f13, f5, f6, f69, f7, f70, f71, f84, gb5, gb6, gb7]
    refine (hM _ _).2 ⟨rfl, ?_⟩ <;> simp [go_sem, f12, f13, f5, f6, f69, f7, f70, f71, f84, gb5, gb6, gb7]
   clear f12 f13 f5 f6 f69 f7 f70 f71 f84
   obtain ⟨rfl, f8⟩ := hm
   obtain rfl := Option.some.inj hbi1
   obtain rfl := Option.some.inj hci1
   obtain rfl := Option.some.inj hoi1
   exact SW.ret ⟨AV.int (6), by simp [go_sem, f8], .lit _, hK.keeps⟩
  have hbi1 := condF hbi1 hx5
  refine SW.skip ?_
  refine SW.seq ?_
  obtain ⟨x1, hx1, hbi1⟩ := obind hbi1
  have xlx1 := getN_lt hx1
  have xdx1 := getN_flat e3C 3 (fun _ => rfl) hx1
  obtain ⟨x2, hx2, hbi1⟩ := obind hbi1
  have xpx2 := getI_pos hx2
  have xlx2 := getI_lt hx2
  have xix2 := getI_N hx2
  have xdx2 := getN_flat e3C 3 (fun _ => rfl) xix2
  refine SW.regX (fun f_ t_ => ∃ b14 : Nat, ∃ b15 : Nat, f_ 5 = AV.ptr b5 0 ∧ f_ 6 = AV.ptr b6 0 ∧ f_ 7 = AV.ptr b7 0 ∧ f_ 14 = AV.ptr b14 0 ∧ f_ 15 = AV.ptr b15 0 ∧ f_ 69 = intsA (rx.edges) ∧ f_ 70 = AV.int (((rx.edges.length : Nat) : Int)) ∧ f_ 71 = AV.int (((k1 : Nat) : Int)) ∧ Kept σ0 t_ ∧ σ0.next ≤ t_.next ∧ t_.get b5 = some [intsA (o.nodes), e3sA (o.edges)] ∧ b5 < t_.next ∧ t_.get b6 = some [intsA (A.nodes), e3sA (A.edges)] ∧ b6 < t_.next ∧ t_.get b7 = some [intsA (rx.nodes), intsA (rx.edges)] ∧ b7 < t_.next ∧ t_.get b14 = some [AV.int (x1.kind), AV.int (x1.src), AV.int (x1.tgt)] ∧ b14 < t_.next ∧ t_.get b15 = some [AV.int (x2.kind), AV.int (x2.src), AV.int (x2.tgt)] ∧ b15 < t_.next ∧ σ0.next ≤ b14 ∧ ¬ b5 = b14 ∧ ¬ b6 = b14 ∧ ¬ b7 = b14 ∧ σ0.next ≤ b15 ∧ ¬ b5 = b15 ∧ ¬ b6 = b15 ∧ ¬ b7 = b15 ∧ ¬ b14 = b15) (fun M hM => ?_) (fun fr21 τ4 hm => ?_)
  ·have nb5_0 : ¬ b5 = τ3.next := by omega
   have nb5_1 : ¬ b5 = τ3.next + 1 := by omega
   have nb6_0 : ¬ b6 = τ3.next := by omega
   have nb6_1 : ¬ b6 = τ3.next + 1 := by omega
   have nb7_0 : ¬ b7 = τ3.next := by omega
   have nb7_1 : ¬ b7 = τ3.next + 1 := by omega
   have nb5_b6 : ¬ b5 = b6 := by omega
   have nb5_b7 : ¬ b5 = b7 := by omega
   have nb6_b5 : ¬ b6 = b5 := by omega
   have nb6_b7 : ¬ b6 = b7 := by omega
   have nb7_b5 : ¬ b7 = b5 := by omega
   have nb7_b6 : ¬ b7 = b6 := by omega
   refine EW_regionY τ3 14 (.q false 0 (.q false 1 (.q false 2 (.q false 3 (.q false 4 (.q false 5 (.q false 6 (.q false 7 (.q false 8 (.q false 9 (.both (.s 10 (.s 11 (.s 12 (.s 13 .done)))) (.s 11 (.s 10 (.s 12 (.s 13 .done))))))))))))))) (by kernel_rfl) (by kernel_rfl) (fun _ _ h => h) (fun hfin => ?_)
   have m0_ : τ3.get (τ3.next) = none := hfin _ (by omega)
   have m1_ : τ3.get (τ3.next + 1) = none := hfin _ (by omega)
   have hsub : Sub τ3 τ3 := (fun _ _ h => h)
   simp (maxDischargeDepth := 12) [go_sem, f12, f13, f5, f6, f69, f7, f70, f71, f84, gb5, gb6, gb7, xlx1, xdx1, e3C, xpx2, xlx2, xdx2, e3C, nb5_0, nb5_1, nb6_0, nb6_1, nb7_0, nb7_1, nb5_b6, nb5_b7, nb6_b5, nb6_b7, nb7_b5, nb7_b6, m0_, m1_, sub_set, sub_killAll, hsub]
   refine ⟨?_, ?_⟩
   ·refine (hM _ _).2 ⟨τ3.next, (τ3.next + 1), ?_, ?_, ?_, ?_, ?_, ?_, ?_, ?_, by intro j hj; have hj_ := hK j hj; simp [go_sem, hj_.1, hj_.2, show ¬ j = τ3.next by omega, show ¬ j = τ3.next + 1 by omega], by first | omega | (simp [go_sem]; done) | (simp [go_sem]; omega), by simp (disch := omega) [get_alloc_ne, get_set_ne, get_kill_ne, go_sem, f12, f13, f5, f6, f69, f7, f70, f71, f84, gb5, gb6, gb7, xlx1, xdx1, e3C, xpx2, xlx2, xdx2, e3C, nb5_0, nb5_1, nb6_0, nb6_1, nb7_0, nb7_1, nb5_b6, nb5_b7, nb6_b5, nb6_b7, nb7_b5, nb7_b6, m0_, m1_, sub_set, sub_killAll, hsub], by first | omega | (simp [go_sem]; done) | (simp [go_sem]; omega), by simp (disch := omega) [get_alloc_ne, get_set_ne, get_kill_ne, go_sem, f12, f13, f5, f6, f69, f7, f70, f71, f84, gb5, gb6, gb7, xlx1, xdx1, e3C, xpx2, xlx2, xdx2, e3C, nb5_0, nb5_1, nb6_0, nb6_1, nb7_0, nb7_1, nb5_b6, nb5_b7, nb6_b5, nb6_b7, nb7_b5, nb7_b6, m0_, m1_, sub_set, sub_killAll, hsub], by first | omega | (simp [go_sem]; done) | (simp [go_sem]; omega), by simp (disch := omega) [get_alloc_ne, get_set_ne, get_kill_ne, go_sem, f12, f13, f5, f6, f69, f7, f70, f71, f84, gb5, gb6, gb7, xlx1, xdx1, e3C, xpx2, xlx2, xdx2, e3C, nb5_0, nb5_1, nb6_0, nb6_1, nb7_0, nb7_1, nb5_b6, nb5_b7, nb6_b5, nb6_b7, nb7_b5, nb7_b6, m0_, m1_, sub_set, sub_killAll, hsub], by first | omega | (simp [go_sem]; done) | (simp [go_sem]; omega), by simp (disch := omega) [get_alloc_ne, get_set_ne, get_kill_ne, go_sem, f12, f13, f5, f6, f69, f7, f70, f71, f84, gb5, gb6, gb7, xlx1, xdx1, e3C, xpx2, xlx2, xdx2, e3C, nb5_0, nb5_1, nb6_0, nb6_1, nb7_0, nb7_1, nb5_b6, nb5_b7, nb6_b5, nb6_b7, nb7_b5, nb7_b6, m0_, m1_, sub_set, sub_killAll, hsub], by first | omega | (simp [go_sem]; done) | (simp [go_sem]; omega), by simp (disch := omega) [get_alloc_ne, get_set_ne, get_kill_ne, go_sem, f12, f13, f5, f6, f69, f7, f70, f71, f84, gb5, gb6, gb7, xlx1, xdx1, e3C, xpx2, xlx2, xdx2, e3C, nb5_0, nb5_1, nb6_0, nb6_1, nb7_0, nb7_1, nb5_b6, nb5_b7, nb6_b5, nb6_b7, nb7_b5, nb7_b6, m0_, m1_, sub_set, sub_killAll, hsub], by first | omega | (simp [go_sem]; done) | (simp [go_sem]; omega), by omega, by omega, by omega, by omega, by omega, by omega, by omega, by omega, by omega⟩ <;> simp [go_sem, f12, f13, f5, f6, f69, f7, f70, f71, f84, gb5, gb6, gb7, xlx1, xdx1, e3C, xpx2, xlx2, xdx2, e3C, nb5_0, nb5_1, nb6_0, nb6_1, nb7_0, nb7_1, nb5_b6, nb5_b7, nb6_b5, nb6_b7, nb7_b5, nb7_b6, m0_, m1_, sub_set, sub_killAll, hsub]
   ·refine (hM _ _).2 ⟨(τ3.next + 1), τ3.next, ?_, ?_, ?_, ?_, ?_, ?_, ?_, ?_, by intro j hj; have hj_ := hK j hj; simp [go_sem, hj_.1, hj_.2, show ¬ j = τ3.next by omega, show ¬ j = τ3.next + 1 by omega], by first | omega | (simp [go_sem]; done) | (simp [go_sem]; omega), by simp (disch := omega) [get_alloc_ne, get_set_ne, get_kill_ne, go_sem, f12, f13, f5, f6, f69, f7, f70, f71, f84, gb5, gb6, gb7, xlx1, xdx1, e3C, xpx2, xlx2, xdx2, e3C, nb5_0, nb5_1, nb6_0, nb6_1, nb7_0, nb7_1, nb5_b6, nb5_b7, nb6_b5, nb6_b7, nb7_b5, nb7_b6, m0_, m1_, sub_set, sub_killAll, hsub], by first | omega | (simp [go_sem]; done) | (simp [go_sem]; omega), by simp (disch := omega) [get_alloc_ne, get_set_ne, get_kill_ne, go_sem, f12, f13, f5, f6, f69, f7, f70, f71, f84, gb5, gb6, gb7, xlx1, xdx1, e3C, xpx2, xlx2, xdx2, e3C, nb5_0, nb5_1, nb6_0, nb6_1, nb7_0, nb7_1, nb5_b6, nb5_b7, nb6_b5, nb6_b7, nb7_b5, nb7_b6, m0_, m1_, sub_set, sub_killAll, hsub], by first | omega | (simp [go_sem]; done) | (simp [go_sem]; omega), by simp (disch := omega) [get_alloc_ne, get_set_ne, get_kill_ne, go_sem, f12, f13, f5, f6, f69, f7, f70, f71, f84, gb5, gb6, gb7, xlx1, xdx1, e3C, xpx2, xlx2, xdx2, e3C, nb5_0, nb5_1, nb6_0, nb6_1, nb7_0, nb7_1, nb5_b6, nb5_b7, nb6_b5, nb6_b7, nb7_b5, nb7_b6, m0_, m1_, sub_set, sub_killAll, hsub], by first | omega | (simp [go_sem]; done) | (simp [go_sem]; omega), by simp (disch := omega) [get_alloc_ne, get_set_ne, get_kill_ne, go_sem, f12, f13, f5, f6, f69, f7, f70, f71, f84, gb5, gb6, gb7, xlx1, xdx1, e3C, xpx2, xlx2, xdx2, e3C, nb5_0, nb5_1, nb6_0, nb6_1, nb7_0, nb7_1, nb5_b6, nb5_b7, nb6_b5, nb6_b7, nb7_b5, nb7_b6, m0_, m1_, sub_set, sub_killAll, hsub], by first | omega | (simp [go_sem]; done) | (simp [go_sem]; omega), by simp (disch := omega) [get_alloc_ne, get_set_ne, get_kill_ne, go_sem, f12, f13, f5, f6, f69, f7, f70, f71, f84, gb5, gb6, gb7, xlx1, xdx1, e3C, xpx2, xlx2, xdx2, e3C, nb5_0, nb5_1, nb6_0, nb6_1, nb7_0, nb7_1, nb5_b6, nb5_b7, nb6_b5, nb6_b7, nb7_b5, nb7_b6, m0_, m1_, sub_set, sub_killAll, hsub], by first | omega | (simp [go_sem]; done) | (simp [go_sem]; omega), by omega, by omega, by omega, by omega, by omega, by omega, by omega, by omega, by omega⟩ <;> simp [go_sem, f12, f13, f5, f6, f69, f7, f70, f71, f84, gb5, gb6, gb7, xlx1, xdx1, e3C, xpx2, xlx2, xdx2, e3C, nb5_0, nb5_1, nb6_0, nb6_1, nb7_0, nb7_1, nb5_b6, nb5_b7, nb6_b5, nb6_b7, nb7_b5, nb7_b6, m0_, m1_, sub_set, sub_killAll, hsub]
  clear f12 f13 f5 f6 f69 f7 f70 f71 f84 hK hN gb5 ub5 gb6 ub6 gb7 ub7
  obtain ⟨b14, b15, f5, f6, f7, f14, f15, f69, f70, f71, hK, hN, gb5, ub5, gb6, ub6, gb7, ub7, gb14, ub14, gb15, ub15, wb14, eb5b14, eb6b14, eb7b14, wb15, eb5b15, eb6b15, eb7b15, eb14b15⟩ := hm
  refine SW.seq ?_
  refine SW.seq ?_
  refine SW.regX (fun f_ t_ => τ4 = t_ ∧ f_ 5 = AV.ptr b5 0 ∧ f_ 6 = AV.ptr b6 0 ∧ f_ 7 = AV.ptr b7 0 ∧ f_ 14 = AV.ptr b14 0 ∧ f_ 15 = AV.ptr b15 0 ∧ f_ 69 = intsA (rx.edges) ∧ f_ 70 = AV.int (((rx.edges.length : Nat) : Int)) ∧ f_ 71 = AV.int (((k1 : Nat) : Int)) ∧ f_ 99 = AV.bool ((!decide (x1.kind = x2.kind)))) (fun M hM => ?_) (fun fr22 τz16 hm => ?_)
  ·simp [go_sem, f14, f15, f5, f6, f69, f7, f70, f71, gb5, gb6, gb7, gb14, gb15]
   refine (hM _ _).2 ⟨rfl, ?_, ?_, ?_, ?_, ?_, ?_, ?_, ?_, ?_⟩ <;> simp [go_sem, f14, f15, f5, f6, f69, f7, f70, f71, gb5, gb6, gb7, gb14, gb15]
  clear f14 f15 f5 f6 f69 f7 f70 f71
  obtain ⟨rfl, f5, f6, f7, f14, f15, f69, f70, f71, f99⟩ := hm
  refine SW.cond _ f99 (fun hx6 => ?_) (fun hx6 => ?_)
  ·have hbi1 := condT hbi1 hx6
   refine SW.seq ?_
   refine SW.regX (fun f_ t_ => τ4 = t_ ∧ f_ 8 = AV.int (13)) (fun M hM => ?_) (fun fr23 τz17 hm => ?_)
   ·simp [go_sem, f14, f15, f5, f6, f69, f7, f70, f71, f99, gb5, gb6, gb7, gb14, gb15]
    refine (hM _ _).2 ⟨rfl, ?_⟩ <;> simp [go_sem, f14, f15, f5, f6, f69, f7, f70, f71, f99, gb5, gb6, gb7, gb14, gb15]
   clear f14 f15 f5 f6 f69 f7 f70 f71 f99
   obtain ⟨rfl, f8⟩ := hm
   obtain rfl := Option.some.inj hbi1
   obtain rfl := Option.some.inj hci1
   obtain rfl := Option.some.inj hoi1
   exact SW.ret ⟨AV.int (13), by simp [go_sem, f8], .lit _, hK.keeps⟩
  have hbi1 := condF hbi1 hx6
  refine SW.skip ?_
  refine SW.seq ?_
  obtain ⟨n4, hn4, hbi1⟩ := obind hbi1
  have xpn4 := getI_pos hn4
  have xln4 := getI_lt hn4
  have xin4 := getI_N hn4
  have xdn4 := getN_map AV.int xin4
  obtain ⟨c, hc, hbi1⟩ := obind hbi1
  refine SW.regX (fun f_ t_ => τ4 = t_ ∧ f_ 5 = AV.ptr b5 0 ∧ f_ 6 = AV.ptr b6 0 ∧ f_ 7 = AV.ptr b7 0 ∧ f_ 69 = intsA (rx.edges) ∧ f_ 70 = AV.int (((rx.edges.length : Nat) : Int)) ∧ f_ 71 = AV.int (((k1 : Nat) : Int)) ∧ f_ 119 = AV.bool (c)) (fun M hM => ?_) (fun fr24 τz18 hm => ?_)
  ·refine EW_regionD (by kernel_rfl) (by kernel_rfl) ?_
   rcases Bool.eq_false_or_eq_true ((!decide (n4 = x2.src))) with y0 | y0
   ·have y0' := y0
    try simp at y0'
    have ky0 := condT hc y0
    have ec := Option.some.inj ky0
    simp [go_sem, f14, f15, f5, f6, f69, f7, f70, f71, f99, gb5, gb6, gb7, gb14, gb15, xpn4, xln4, xdn4, y0, y0']
    refine (hM _ _).2 ⟨rfl, ?_, ?_, ?_, ?_, ?_, ?_, ?_⟩ <;> simp [go_sem, f14, f15, f5, f6, f69, f7, f70, f71, f99, gb5, gb6, gb7, gb14, gb15, xpn4, xln4, xdn4, y0, y0', ← ec]
   ·have y0' := y0
    try simp at y0'
    have ky0 := condF hc y0
    obtain ⟨n5, hn5, ky0⟩ := obind ky0
    have xpn5 := getI_pos hn5
    have xln5 := getI_lt hn5
    have xin5 := getI_N hn5
    have xdn5 := getN_map AV.int xin5
    have ec := Option.some.inj ky0
    simp [go_sem, f14, f15, f5, f6, f69, f7, f70, f71, f99, gb5, gb6, gb7, gb14, gb15, xpn4, xln4, xdn4, y0, y0', xpn5, xln5, xdn5]
    refine (hM _ _).2 ⟨rfl, ?_, ?_, ?_, ?_, ?_, ?_, ?_⟩ <;> simp [go_sem, f14, f15, f5, f6, f69, f7, f70, f71, f99, gb5, gb6, gb7, gb14, gb15, xpn4, xln4, xdn4, y0, y0', xpn5, xln5, xdn5, ← ec]
  clear f14 f15 f5 f6 f69 f7 f70 f71 f99
  obtain ⟨rfl, f5, f6, f7, f69, f70, f71, f119⟩ := hm
  refine SW.cond _ f119 (fun hx7 => ?_) (fun hx7 => ?_)
  ·have hbi1 := condT hbi1 hx7
   refine SW.seq ?_
   refine SW.regX (fun f_ t_ => τ4 = t_ ∧ f_ 8 = AV.int (11)) (fun M hM => ?_) (fun fr25 τz19 hm => ?_)
   ·simp [go_sem, f119, f5, f6, f69, f7, f70, f71, gb5, gb6, gb7]
    refine (hM _ _).2 ⟨rfl, ?_⟩ <;> simp [go_sem, f119, f5, f6, f69, f7, f70, f71, gb5, gb6, gb7]
   clear f119 f5 f6 f69 f7 f70 f71
   obtain ⟨rfl, f8⟩ := hm
   obtain rfl := Option.some.inj hbi1
   obtain rfl := Option.some.inj hci1
   obtain rfl := Option.some.inj hoi1
   exact SW.ret ⟨AV.int (11), by simp [go_sem, f8], .lit _, hK.keeps⟩
  have hbi1 := condF hbi1 hx7
  refine SW.skip ?_
  refine SW.blk ?_
  refine SW.regX (fun f_ t_ => τ4 = t_ ∧ f_ 5 = AV.ptr b5 0 ∧ f_ 6 = AV.ptr b6 0 ∧ f_ 7 = AV.ptr b7 0 ∧ f_ 69 = intsA (rx.edges) ∧ f_ 70 = AV.int (((rx.edges.length : Nat) : Int)) ∧ f_ 71 = AV.int (((k1 + 1 : Nat) : Int))) (fun M hM => ?_) (fun fr26 τz20 hm => ?_)
  ·simp [go_sem, f119, f5, f6, f69, f7, f70, f71, gb5, gb6, gb7, hwk1]
   refine (hM _ _).2 ⟨rfl, ?_, ?_, ?_, ?_, ?_, ?_⟩ <;> simp [go_sem, f119, f5, f6, f69, f7, f70, f71, gb5, gb6, gb7, hwk1]
  clear f119 f5 f6 f69 f7 f70 f71
  obtain ⟨rfl, f5, f6, f7, f69, f70, f71⟩ := hm
  obtain rfl := Option.some.inj hbi1
  exact SW.goal ⟨rx.edges.length - (k1 + 1), by omega, (hJ _ _ _).2 ⟨k1 + 1, rfl, hci1, f5, f6, f7, f69, f70, f71, hK, hN, gb5, ub5, gb6, ub6, gb7, ub7⟩⟩
 intro fr27 τ5 hm
 rw [hKL] at hm
 clear hKL hruni1
 clear f5 f6 f69 f7 f70 f71 hK hN gb5 ub5 gb6 ub6 gb7 ub7
 obtain ⟨rfl, hK, hN⟩ := hm
 simp only [Out.on] at hoi1
 refine SW.seq ?_
 refine SW.regX (fun f_ t_ => τ5 = t_ ∧ f_ 8 = AV.int (0)) (fun M hM => ?_) (fun fr28 τz21 hm => ?_)
 ·simp [go_sem]
  refine (hM _ _).2 ⟨rfl, ?_⟩ <;> simp [go_sem]
 obtain ⟨rfl, f8⟩ := hm
 obtain rfl := Option.some.inj hoi1
 exact SW.ret ⟨AV.int (0), by simp [go_sem, f8], .lit _, hK.keeps⟩
end Go.Proofs.YtdacgjleiloooaaGreat
