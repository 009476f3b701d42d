/-
  Plain functions and the walks that lead to them, by a program of ours (gen.py): scarfjoint/host.Valid, scarfjoint/attribute.given.
-/
import Derived.Test.YtippinddoldhkaaGreatGd
import Derived.Test.YtippinddoldhkaaGreatGT
import Derived.Test.YtippinddoldhkaaGreatB3
import Derived.Test.YtippinddoldhkaaGreatB7
import Derived.Test.YtippinddoldhkaaGreatGS
import Derived.Test.YtippinddoldhkaaGreatLg
import Derived.Test.YtippinddoldhkaaGreatGa5
import Derived.Test.YtippinddoldhkaaGreatGa4
set_option linter.unusedSimpArgs false
set_option linter.unusedVariables false
namespace Go.Proofs.YtippinddoldhkaaGreat
open Go Go.Ew Go.Proofs Go.RowKit
set_option maxRecDepth 100000
set_option maxHeartbeats 4000000 in
theorem w_host_Valid (t : Types) (o : GHost) (r : (Int × Int)) (h : s_host_Valid t o = some r) : PureA Tryz.prog 118 [AV.agg [nodesA (t.nodes), edgesA (t.edges)], AV.agg [intsA (o.graph.nodes), e3sA (o.graph.edges), sl_List_Int (o.values)]] (AV.tup [AV.int (r.1), AV.int (r.2)]) := by
 refine pureA_of_SW (N := 95) Tryz.func118 (by kernel_rfl) rfl (by rw [Tryz.ntmps118]; rfl) (fun σ0 => ?_)
 rw [Tryz.results118]
 obtain ⟨fr0, hfr⟩ : ∃ fr, fr = initFr [AV.agg [nodesA (t.nodes), edgesA (t.edges)], AV.agg [intsA (o.graph.nodes), e3sA (o.graph.edges), sl_List_Int (o.values)]] := ⟨_, rfl⟩
 rw [← hfr]
 have f0 : fr0 0 = AV.agg [nodesA (t.nodes), edgesA (t.edges)] := by rw [hfr]; rfl
 have f1 : fr0 1 = AV.agg [intsA (o.graph.nodes), e3sA (o.graph.edges), sl_List_Int (o.values)] := by rw [hfr]; rfl
 clear hfr
 simp only [s_host_Valid] at h
 refine SW.seq ?_
 refine SW.regX (fun f_ t_ => ∃ b2 : Nat, ∃ b3 : Nat, f_ 2 = AV.ptr b2 0 ∧ f_ 3 = AV.ptr b3 0 ∧ Kept σ0 t_ ∧ σ0.next ≤ t_.next ∧ t_.get b2 = some [nodesA (t.nodes), edgesA (t.edges)] ∧ b2 < t_.next ∧ t_.get b3 = some [intsA (o.graph.nodes), e3sA (o.graph.edges), sl_List_Int (o.values)] ∧ b3 < t_.next ∧ σ0.next ≤ b2 ∧ σ0.next ≤ b3 ∧ ¬ b2 = b3) (fun M hM => ?_) (fun fr1 τ hm => ?_)
 ·simp [go_sem, f0, f1]
  refine (hM _ _).2 ⟨σ0.next, (σ0.next + 1), ?_, ?_, by intro j hj; simp [go_sem, show ¬ j = σ0.next by omega, show ¬ j = σ0.next + 1 by omega], by first | omega | (simp [go_sem]; done) | (simp [go_sem]; omega), by simp (disch := omega) [get_alloc_ne, get_set_ne, get_kill_ne, go_sem, f0, f1], by first | omega | (simp [go_sem]; done) | (simp [go_sem]; omega), by simp (disch := omega) [get_alloc_ne, get_set_ne, get_kill_ne, go_sem, f0, f1], by first | omega | (simp [go_sem]; done) | (simp [go_sem]; omega), by omega, by omega, by omega⟩ <;> simp [go_sem, f0, f1]
 clear f0 f1
 obtain ⟨b2, b3, f2, f3, hK, hN, gb2, ub2, gb3, ub3, wb2, wb3, eb2b3⟩ := hm
 refine SW.seq ?_
 refine SW.seq ?_
 obtain ⟨rx, hrx, h⟩ := obind h
 refine SW.regX (fun f_ t_ => τ = t_ ∧ f_ 2 = AV.ptr b2 0 ∧ f_ 3 = AV.ptr b3 0 ∧ f_ 7 = AV.int (rx.2)) (fun M hM => ?_) (fun fr2 τz hm => ?_)
 ·simp [go_sem, f2, f3, gb2, gb3]
  refine EWcall_pure (w_types_Valid t _ hrx) ?_
  simp [go_sem, f2, f3, gb2, gb3]
  refine (hM _ _).2 ⟨rfl, ?_, ?_, ?_⟩ <;> simp [go_sem, f2, f3, gb2, gb3]
 clear f2 f3
 obtain ⟨rfl, f2, f3, f7⟩ := hm
 refine SW.seq ?_
 refine SW.regX (fun f_ t_ => τ = t_ ∧ f_ 2 = AV.ptr b2 0 ∧ f_ 3 = AV.ptr b3 0 ∧ f_ 7 = AV.int (rx.2) ∧ f_ 20 = AV.bool ((!decide (rx.2 = 0)))) (fun M hM => ?_) (fun fr3 τz1 hm => ?_)
 ·simp [go_sem, f2, f3, f7, gb2, gb3]
  refine (hM _ _).2 ⟨rfl, ?_, ?_, ?_, ?_⟩ <;> simp [go_sem, f2, f3, f7, gb2, gb3]
 clear f2 f3 f7
 obtain ⟨rfl, f2, f3, f7, f20⟩ := hm
 refine SW.cond _ f20 (fun vh => ?_) (fun vh => ?_)
 ·have h := condT h vh
  refine SW.seq ?_
  refine SW.regX (fun f_ t_ => τ = t_ ∧ f_ 4 = AV.int (-1) ∧ f_ 5 = AV.int (rx.2)) (fun M hM => ?_) (fun fr4 τz2 hm => ?_)
  ·simp [go_sem, f2, f20, f3, f7, gb2, gb3]
   refine (hM _ _).2 ⟨rfl, ?_, ?_⟩ <;> simp [go_sem, f2, f20, f3, f7, gb2, gb3]
  clear f2 f20 f3 f7
  obtain ⟨rfl, f4, f5⟩ := hm
  obtain rfl := Option.some.inj h
  exact SW.ret ⟨AV.tup [AV.int (-1), AV.int (rx.2)], by simp [go_sem, f4, f5], frz_tupL (frzL_c (.lit _) (frzL_c (.lit _) (frzL_n))), hK.keeps⟩
 have h := condF h vh
 refine SW.skip ?_
 refine SW.seq ?_
 refine SW.seq ?_
 obtain ⟨n, hn, h⟩ := obind h
 refine SW.regX (fun f_ t_ => τ = t_ ∧ f_ 2 = AV.ptr b2 0 ∧ f_ 3 = AV.ptr b3 0 ∧ f_ 8 = AV.int (n)) (fun M hM => ?_) (fun fr5 τz3 hm => ?_)
 ·simp [go_sem, f2, f20, f3, f7, gb2, gb3]
  refine EWcall_pure (w_graph_Valid o.graph _ hn) ?_
  simp [go_sem, f2, f20, f3, f7, gb2, gb3]
  refine (hM _ _).2 ⟨rfl, ?_, ?_, ?_⟩ <;> simp [go_sem, f2, f20, f3, f7, gb2, gb3]
 clear f2 f20 f3 f7
 obtain ⟨rfl, f2, f3, f8⟩ := hm
 refine SW.seq ?_
 refine SW.regX (fun f_ t_ => τ = t_ ∧ f_ 2 = AV.ptr b2 0 ∧ f_ 3 = AV.ptr b3 0 ∧ f_ 8 = AV.int (n) ∧ f_ 26 = AV.bool ((!decide (n = 0)))) (fun M hM => ?_) (fun fr6 τz4 hm => ?_)
 ·simp [go_sem, f2, f3, f8, gb2, gb3]
  refine (hM _ _).2 ⟨rfl, ?_, ?_, ?_, ?_⟩ <;> simp [go_sem, f2, f3, f8, gb2, gb3]
 clear f2 f3 f8
 obtain ⟨rfl, f2, f3, f8, f26⟩ := hm
 refine SW.cond _ f26 (fun vh1 => ?_) (fun vh1 => ?_)
 ·have h := condT h vh1
  refine SW.seq ?_
  refine SW.regX (fun f_ t_ => τ = t_ ∧ f_ 4 = AV.int (-1) ∧ f_ 5 = AV.int (n)) (fun M hM => ?_) (fun fr7 τz5 hm => ?_)
  ·simp [go_sem, f2, f26, f3, f8, gb2, gb3]
   refine (hM _ _).2 ⟨rfl, ?_, ?_⟩ <;> simp [go_sem, f2, f26, f3, f8, gb2, gb3]
  clear f2 f26 f3 f8
  obtain ⟨rfl, f4, f5⟩ := hm
  obtain rfl := Option.some.inj h
  exact SW.ret ⟨AV.tup [AV.int (-1), AV.int (n)], by simp [go_sem, f4, f5], frz_tupL (frzL_c (.lit _) (frzL_c (.lit _) (frzL_n))), hK.keeps⟩
 have h := condF h vh1
 refine SW.skip ?_
 refine SW.seq ?_
 refine SW.seq ?_
 refine SW.regX (fun f_ t_ => τ = t_ ∧ f_ 2 = AV.ptr b2 0 ∧ f_ 3 = AV.ptr b3 0 ∧ f_ 35 = AV.bool ((!decide (o.values.length = o.graph.nodes.length)))) (fun M hM => ?_) (fun fr8 τz6 hm => ?_)
 ·simp [go_sem, f2, f26, f3, f8, gb2, gb3]
  refine (hM _ _).2 ⟨rfl, ?_, ?_, ?_⟩ <;> simp [go_sem, f2, f26, f3, f8, gb2, gb3]
 clear f2 f26 f3 f8
 obtain ⟨rfl, f2, f3, f35⟩ := hm
 refine SW.cond _ f35 (fun vh2 => ?_) (fun vh2 => ?_)
 ·have h := condT h vh2
  refine SW.seq ?_
  refine SW.regX (fun f_ t_ => τ = t_ ∧ f_ 4 = AV.int (-1) ∧ f_ 5 = AV.int (20)) (fun M hM => ?_) (fun fr9 τz7 hm => ?_)
  ·simp [go_sem, f2, f3, f35, gb2, gb3]
   refine (hM _ _).2 ⟨rfl, ?_, ?_⟩ <;> simp [go_sem, f2, f3, f35, gb2, gb3]
  clear f2 f3 f35
  obtain ⟨rfl, f4, f5⟩ := hm
  obtain rfl := Option.some.inj h
  exact SW.ret ⟨AV.tup [AV.int (-1), AV.int (20)], by simp [go_sem, f4, f5], frz_tupL (frzL_c (.lit _) (frzL_c (.lit _) (frzL_n))), hK.keeps⟩
 have h := condF h vh2
 refine SW.skip ?_
 refine SW.seq ?_
 refine SW.seq ?_
 refine SW.regX (fun f_ t_ => τ = t_ ∧ f_ 2 = AV.ptr b2 0 ∧ f_ 3 = AV.ptr b3 0 ∧ f_ 38 = intsA (o.graph.nodes) ∧ f_ 39 = AV.int (((o.graph.nodes.length : Nat) : Int)) ∧ f_ 40 = AV.int (0)) (fun M hM => ?_) (fun fr10 τz8 hm => ?_)
 ·simp [go_sem, f2, f3, f35, gb2, gb3]
  refine (hM _ _).2 ⟨rfl, ?_, ?_, ?_, ?_, ?_⟩ <;> simp [go_sem, f2, f3, f35, gb2, gb3]
 clear f2 f3 f35
 obtain ⟨rfl, f2, f3, f38, f39, f40⟩ := hm
 obtain ⟨oi, hruni, hoi⟩ := obind h
 refine SW.len 38 f38 (fun hbigi => ?_)
 obtain ⟨KLi, hKLi⟩ : ∃ KL : Fr → Mem → Prop, ∀ fr' τ', KL fr' τ' ↔ (oi = .done () ∧ τ = τ' ∧ fr' 2 = AV.ptr b2 0 ∧ fr' 3 = AV.ptr b3 0) := ⟨_, fun _ _ => Iff.rfl⟩
 refine SW.cut KLi ?_ ?_
 ·refine SW.block ?_
  obtain ⟨Ji, hJi⟩ : ∃ J : Nat → Fr → Mem → Prop, ∀ m_ fr' τ', J m_ fr' τ' ↔ (∃ k : Nat, m_ = o.graph.nodes.length - k ∧ forN (b1_host_Valid t o) (o.graph.nodes.length - k) k () = some oi ∧ τ = τ' ∧ fr' 2 = AV.ptr b2 0 ∧ fr' 3 = AV.ptr b3 0 ∧ fr' 38 = intsA (o.graph.nodes) ∧ fr' 39 = AV.int (((o.graph.nodes.length : Nat) : Int)) ∧ fr' 40 = AV.int (((k : Nat) : Int))) := ⟨_, fun _ _ _ => Iff.rfl⟩
  refine SW.loop Ji (o.graph.nodes.length - 0) ((hJi _ _ _).2 ⟨0, rfl, hruni, rfl, f2, f3, f38, f39, f40⟩) ?_
  clear hruni
  intro m_ fr11 τ1 hm
  rw [hJi] at hm
  clear f2 f3 f38 f39 f40
  obtain ⟨k, rfl, hruni, rfl, f2, f3, f38, f39, f40⟩ := hm
  refine SW.seq ?_
  refine SW.regX (fun f_ t_ => τ = t_ ∧ f_ 2 = AV.ptr b2 0 ∧ f_ 3 = AV.ptr b3 0 ∧ f_ 38 = intsA (o.graph.nodes) ∧ f_ 39 = AV.int (((o.graph.nodes.length : Nat) : Int)) ∧ f_ 40 = AV.int (((k : Nat) : Int)) ∧ f_ 41 = AV.bool ((decide (k < o.graph.nodes.length)))) (fun M hM => ?_) (fun fr12 τz9 hm => ?_)
  ·simp [go_sem, f2, f3, f38, f39, f40, gb2, gb3]
   refine (hM _ _).2 ⟨rfl, ?_, ?_, ?_, ?_, ?_, ?_⟩ <;> simp [go_sem, f2, f3, f38, f39, f40, gb2, gb3]
  clear f2 f3 f38 f39 f40
  obtain ⟨rfl, f2, f3, f38, f39, f40, f41⟩ := hm
  refine SW.seq ?_
  refine SW.cond _ f41 (fun vh3 => ?_) (fun vh3 => ?_)
  rotate_left
  ·have hk : ¬ k < o.graph.nodes.length := by have := of_decide_eq_false vh3; omega
   refine SW.exit rfl ?_
   exact SW.goal ((hKLi _ _).2 ⟨forN_end hruni hk, rfl, f2, f3⟩)
  have hkk : k < o.graph.nodes.length := by have := of_decide_eq_true vh3; omega
  have hwk : IntKind.i64.wrap ((k : Int) + 1) = ((k + 1 : Nat) : Int) := by rw [wrap64_of _ (by omega) (by omega)]; rfl
  obtain ⟨ci, hbi, hci⟩ := forN_step hruni hkk
  simp only [b1_host_Valid] at hbi
  refine SW.skip ?_
  refine SW.seq ?_
  refine SW.block ?_
  refine SW.seq ?_
  obtain ⟨n1, hn1, hbi⟩ := obind hbi
  have xln1 := getN_lt hn1
  have xdn1 := getN_map AV.int hn1
  refine SW.regX (fun f_ t_ => τ = t_ ∧ f_ 2 = AV.ptr b2 0 ∧ f_ 3 = AV.ptr b3 0 ∧ f_ 9 = AV.int (((k : Nat) : Int)) ∧ f_ 10 = AV.int (n1) ∧ f_ 38 = intsA (o.graph.nodes) ∧ f_ 39 = AV.int (((o.graph.nodes.length : Nat) : Int)) ∧ f_ 40 = AV.int (((k : Nat) : Int))) (fun M hM => ?_) (fun fr13 τz10 hm => ?_)
  ·simp [go_sem, f2, f3, f38, f39, f40, f41, gb2, gb3, xln1, xdn1]
   refine (hM _ _).2 ⟨rfl, ?_, ?_, ?_, ?_, ?_, ?_, ?_⟩ <;> simp [go_sem, f2, f3, f38, f39, f40, f41, gb2, gb3, xln1, xdn1]
  clear f2 f3 f38 f39 f40 f41
  obtain ⟨rfl, f2, f3, f9, f10, f38, f39, f40⟩ := hm
  refine SW.seq ?_
  obtain ⟨x, hx, hbi⟩ := obind hbi
  have xlx := getN_lt hx
  have xdx := getN_map intsA hx
  obtain ⟨n2, hn2, hbi⟩ := obind hbi
  refine SW.regX (fun f_ t_ => τ = t_ ∧ f_ 2 = AV.ptr b2 0 ∧ f_ 3 = AV.ptr b3 0 ∧ f_ 9 = AV.int (((k : Nat) : Int)) ∧ f_ 11 = AV.int (n2) ∧ f_ 38 = intsA (o.graph.nodes) ∧ f_ 39 = AV.int (((o.graph.nodes.length : Nat) : Int)) ∧ f_ 40 = AV.int (((k : Nat) : Int))) (fun M hM => ?_) (fun fr14 τz11 hm => ?_)
  ·refine EW_regionD (by kernel_rfl) (by kernel_rfl) ?_
   simp [go_sem, f10, f2, f3, f38, f39, f40, f9, gb2, gb3, xlx, xdx, intsA]
   refine EWqcall_pure (w_host_node t n1 x _ hn2) rfl ?_
   simp [go_sem, f10, f2, f3, f38, f39, f40, f9, gb2, gb3, xlx, xdx, intsA]
   refine (hM _ _).2 ⟨rfl, ?_, ?_, ?_, ?_, ?_, ?_, ?_⟩ <;> simp [go_sem, f10, f2, f3, f38, f39, f40, f9, gb2, gb3, xlx, xdx, intsA]
  clear f10 f2 f3 f38 f39 f40 f9
  obtain ⟨rfl, f2, f3, f9, f11, f38, f39, f40⟩ := hm
  refine SW.seq ?_
  refine SW.regX (fun f_ t_ => τ = t_ ∧ f_ 2 = AV.ptr b2 0 ∧ f_ 3 = AV.ptr b3 0 ∧ f_ 9 = AV.int (((k : Nat) : Int)) ∧ f_ 11 = AV.int (n2) ∧ f_ 38 = intsA (o.graph.nodes) ∧ f_ 39 = AV.int (((o.graph.nodes.length : Nat) : Int)) ∧ f_ 40 = AV.int (((k : Nat) : Int)) ∧ f_ 54 = AV.bool ((!decide (n2 = 0)))) (fun M hM => ?_) (fun fr15 τz12 hm => ?_)
  ·simp [go_sem, f11, f2, f3, f38, f39, f40, f9, gb2, gb3]
   refine (hM _ _).2 ⟨rfl, ?_, ?_, ?_, ?_, ?_, ?_, ?_, ?_⟩ <;> simp [go_sem, f11, f2, f3, f38, f39, f40, f9, gb2, gb3]
  clear f11 f2 f3 f38 f39 f40 f9
  obtain ⟨rfl, f2, f3, f9, f11, f38, f39, f40, f54⟩ := hm
  refine SW.cond _ f54 (fun vh4 => ?_) (fun vh4 => ?_)
  ·have hbi := condT hbi vh4
   refine SW.seq ?_
   refine SW.regX (fun f_ t_ => τ = t_ ∧ f_ 4 = AV.int (((k : Nat) : Int)) ∧ f_ 5 = AV.int (n2)) (fun M hM => ?_) (fun fr16 τz13 hm => ?_)
   ·simp [go_sem, f11, f2, f3, f38, f39, f40, f54, f9, gb2, gb3]
    refine (hM _ _).2 ⟨rfl, ?_, ?_⟩ <;> simp [go_sem, f11, f2, f3, f38, f39, f40, f54, f9, gb2, gb3]
   clear f11 f2 f3 f38 f39 f40 f54 f9
   obtain ⟨rfl, f4, f5⟩ := hm
   obtain rfl := Option.some.inj hbi
   obtain rfl := Option.some.inj hci
   obtain rfl := Option.some.inj hoi
   exact SW.ret ⟨AV.tup [AV.int (((k : Nat) : Int)), AV.int (n2)], by simp [go_sem, f4, f5], frz_tupL (frzL_c (.lit _) (frzL_c (.lit _) (frzL_n))), hK.keeps⟩
  have hbi := condF hbi vh4
  refine SW.skip ?_
  refine SW.blk ?_
  refine SW.regX (fun f_ t_ => τ = t_ ∧ f_ 2 = AV.ptr b2 0 ∧ f_ 3 = AV.ptr b3 0 ∧ f_ 38 = intsA (o.graph.nodes) ∧ f_ 39 = AV.int (((o.graph.nodes.length : Nat) : Int)) ∧ f_ 40 = AV.int (((k + 1 : Nat) : Int))) (fun M hM => ?_) (fun fr17 τz14 hm => ?_)
  ·simp [go_sem, f11, f2, f3, f38, f39, f40, f54, f9, gb2, gb3, hwk]
   refine (hM _ _).2 ⟨rfl, ?_, ?_, ?_, ?_, ?_⟩ <;> simp [go_sem, f11, f2, f3, f38, f39, f40, f54, f9, gb2, gb3, hwk]
  clear f11 f2 f3 f38 f39 f40 f54 f9
  obtain ⟨rfl, f2, f3, f38, f39, f40⟩ := hm
  obtain rfl := Option.some.inj hbi
  exact SW.goal ⟨o.graph.nodes.length - (k + 1), by omega, (hJi _ _ _).2 ⟨k + 1, rfl, hci, rfl, f2, f3, f38, f39, f40⟩⟩
 intro fr18 τ2 hm
 rw [hKLi] at hm
 clear hKLi hruni
 clear f2 f3 f38 f39 f40
 obtain ⟨rfl, rfl, f2, f3⟩ := hm
 simp only [Out.on] at hoi
 refine SW.seq ?_
 refine SW.seq ?_
 refine SW.regX (fun f_ t_ => τ = t_ ∧ f_ 2 = AV.ptr b2 0 ∧ f_ 3 = AV.ptr b3 0 ∧ f_ 60 = e3sA (o.graph.edges) ∧ f_ 61 = AV.int (((o.graph.edges.length : Nat) : Int)) ∧ f_ 62 = AV.int (0)) (fun M hM => ?_) (fun fr19 τz15 hm => ?_)
 ·simp [go_sem, f2, f3, gb2, gb3]
  refine (hM _ _).2 ⟨rfl, ?_, ?_, ?_, ?_, ?_⟩ <;> simp [go_sem, f2, f3, gb2, gb3]
 clear f2 f3
 obtain ⟨rfl, f2, f3, f60, f61, f62⟩ := hm
 obtain ⟨oi1, hruni1, hoi1⟩ := obind hoi
 refine SW.len 60 f60 (fun hbigi1 => ?_)
 obtain ⟨KLi1, hKLi1⟩ : ∃ KL : Fr → Mem → Prop, ∀ fr' τ', KL fr' τ' ↔ (oi1 = .done () ∧ Kept σ0 τ' ∧ σ0.next ≤ τ'.next) := ⟨_, fun _ _ => Iff.rfl⟩
 refine SW.cut KLi1 ?_ ?_
 ·refine SW.block ?_
  obtain ⟨Ji1, hJi1⟩ : ∃ J : Nat → Fr → Mem → Prop, ∀ m_ fr' τ', J m_ fr' τ' ↔ (∃ k1 : Nat, m_ = o.graph.edges.length - k1 ∧ forN (b3_host_Valid t o) (o.graph.edges.length - k1) k1 () = some oi1 ∧ fr' 2 = AV.ptr b2 0 ∧ fr' 3 = AV.ptr b3 0 ∧ fr' 60 = e3sA (o.graph.edges) ∧ fr' 61 = AV.int (((o.graph.edges.length : Nat) : Int)) ∧ fr' 62 = AV.int (((k1 : Nat) : Int)) ∧ Kept σ0 τ' ∧ σ0.next ≤ τ'.next ∧ τ'.get b2 = some [nodesA (t.nodes), edgesA (t.edges)] ∧ b2 < τ'.next ∧ τ'.get b3 = some [intsA (o.graph.nodes), e3sA (o.graph.edges), sl_List_Int (o.values)] ∧ b3 < τ'.next) := ⟨_, fun _ _ _ => Iff.rfl⟩
  refine SW.loop Ji1 (o.graph.edges.length - 0) ((hJi1 _ _ _).2 ⟨0, rfl, hruni1, f2, f3, f60, f61, f62, hK, hN, gb2, ub2, gb3, ub3⟩) ?_
  clear hruni1
  intro m_ fr20 τ3 hm
  rw [hJi1] at hm
  clear f2 f3 f60 f61 f62 hK hN gb2 ub2 gb3 ub3
  obtain ⟨k1, rfl, hruni1, f2, f3, f60, f61, f62, hK, hN, gb2, ub2, gb3, ub3⟩ := hm
  refine SW.seq ?_
  refine SW.regX (fun f_ t_ => τ3 = t_ ∧ f_ 2 = AV.ptr b2 0 ∧ f_ 3 = AV.ptr b3 0 ∧ f_ 60 = e3sA (o.graph.edges) ∧ f_ 61 = AV.int (((o.graph.edges.length : Nat) : Int)) ∧ f_ 62 = AV.int (((k1 : Nat) : Int)) ∧ f_ 63 = AV.bool ((decide (k1 < o.graph.edges.length)))) (fun M hM => ?_) (fun fr21 τz16 hm => ?_)
  ·simp [go_sem, f2, f3, f60, f61, f62, gb2, gb3]
   refine (hM _ _).2 ⟨rfl, ?_, ?_, ?_, ?_, ?_, ?_⟩ <;> simp [go_sem, f2, f3, f60, f61, f62, gb2, gb3]
  clear f2 f3 f60 f61 f62
  obtain ⟨rfl, f2, f3, f60, f61, f62, f63⟩ := hm
  refine SW.seq ?_
  refine SW.cond _ f63 (fun vh5 => ?_) (fun vh5 => ?_)
  rotate_left
  ·have hk : ¬ k1 < o.graph.edges.length := by have := of_decide_eq_false vh5; omega
   refine SW.exit rfl ?_
   exact SW.goal ((hKLi1 _ _).2 ⟨forN_end hruni1 hk, hK, hN⟩)
  have hkk1 : k1 < o.graph.edges.length := by have := of_decide_eq_true vh5; omega
  have hwk1 : IntKind.i64.wrap ((k1 : Int) + 1) = ((k1 + 1 : Nat) : Int) := by rw [wrap64_of _ (by omega) (by omega)]; rfl
  obtain ⟨ci1, hbi1, hci1⟩ := forN_step hruni1 hkk1
  simp only [b3_host_Valid] at hbi1
  refine SW.skip ?_
  refine SW.seq ?_
  refine SW.block ?_
  refine SW.seq ?_
  obtain ⟨x1, hx1, hbi1⟩ := obind hbi1
  have xlx1 := getN_lt hx1
  have xdx1 := getN_flat e3C 3 (fun _ => rfl) hx1
  refine SW.regX (fun f_ t_ => ∃ b13 : Nat, f_ 2 = AV.ptr b2 0 ∧ f_ 3 = AV.ptr b3 0 ∧ f_ 12 = AV.int (((k1 : Nat) : Int)) ∧ f_ 13 = AV.ptr b13 0 ∧ f_ 60 = e3sA (o.graph.edges) ∧ f_ 61 = AV.int (((o.graph.edges.length : Nat) : Int)) ∧ f_ 62 = AV.int (((k1 : Nat) : Int)) ∧ Kept σ0 t_ ∧ σ0.next ≤ t_.next ∧ t_.get b2 = some [nodesA (t.nodes), edgesA (t.edges)] ∧ b2 < t_.next ∧ t_.get b3 = some [intsA (o.graph.nodes), e3sA (o.graph.edges), sl_List_Int (o.values)] ∧ b3 < t_.next ∧ t_.get b13 = some [AV.int (x1.kind), AV.int (x1.src), AV.int (x1.tgt)] ∧ b13 < t_.next ∧ σ0.next ≤ b13 ∧ ¬ b2 = b13 ∧ ¬ b3 = b13) (fun M hM => ?_) (fun fr22 τ4 hm => ?_)
  ·have nb2_0 : ¬ b2 = τ3.next := by omega
   have nb3_0 : ¬ b3 = τ3.next := by omega
   simp [go_sem, f2, f3, f60, f61, f62, f63, gb2, gb3, xlx1, xdx1, e3C, nb2_0, nb3_0]
   refine (hM _ _).2 ⟨τ3.next, ?_, ?_, ?_, ?_, ?_, ?_, ?_, by intro j hj; have hj_ := hK j hj; simp [go_sem, hj_.1, hj_.2, show ¬ j = τ3.next by omega], by first | omega | (simp [go_sem]; done) | (simp [go_sem]; omega), by simp (disch := omega) [get_alloc_ne, get_set_ne, get_kill_ne, go_sem, f2, f3, f60, f61, f62, f63, gb2, gb3, xlx1, xdx1, e3C, nb2_0, nb3_0], by first | omega | (simp [go_sem]; done) | (simp [go_sem]; omega), by simp (disch := omega) [get_alloc_ne, get_set_ne, get_kill_ne, go_sem, f2, f3, f60, f61, f62, f63, gb2, gb3, xlx1, xdx1, e3C, nb2_0, nb3_0], by first | omega | (simp [go_sem]; done) | (simp [go_sem]; omega), by simp (disch := omega) [get_alloc_ne, get_set_ne, get_kill_ne, go_sem, f2, f3, f60, f61, f62, f63, gb2, gb3, xlx1, xdx1, e3C, nb2_0, nb3_0], by first | omega | (simp [go_sem]; done) | (simp [go_sem]; omega), by omega, by omega, by omega⟩ <;> simp [go_sem, f2, f3, f60, f61, f62, f63, gb2, gb3, xlx1, xdx1, e3C, nb2_0, nb3_0]
  clear f2 f3 f60 f61 f62 f63 hK hN gb2 ub2 gb3 ub3
  obtain ⟨b13, f2, f3, f12, f13, f60, f61, f62, hK, hN, gb2, ub2, gb3, ub3, gb13, ub13, wb13, eb2b13, eb3b13⟩ := hm
  refine SW.seq ?_
  refine SW.seq ?_
  refine SW.regX (fun f_ t_ => τ4 = t_ ∧ f_ 2 = AV.ptr b2 0 ∧ f_ 3 = AV.ptr b3 0 ∧ f_ 12 = AV.int (((k1 : Nat) : Int)) ∧ f_ 13 = AV.ptr b13 0 ∧ f_ 60 = e3sA (o.graph.edges) ∧ f_ 61 = AV.int (((o.graph.edges.length : Nat) : Int)) ∧ f_ 62 = AV.int (((k1 : Nat) : Int)) ∧ f_ 72 = AV.bool ((decide (((t.edges.length : Nat) : Int) ≤ x1.kind)))) (fun M hM => ?_) (fun fr23 τz17 hm => ?_)
  ·simp [go_sem, f12, f13, f2, f3, f60, f61, f62, gb2, gb3, gb13]
   refine (hM _ _).2 ⟨rfl, ?_, ?_, ?_, ?_, ?_, ?_, ?_, ?_⟩ <;> simp [go_sem, f12, f13, f2, f3, f60, f61, f62, gb2, gb3, gb13]
  clear f12 f13 f2 f3 f60 f61 f62
  obtain ⟨rfl, f2, f3, f12, f13, f60, f61, f62, f72⟩ := hm
  refine SW.cond _ f72 (fun vh6 => ?_) (fun vh6 => ?_)
  ·have hbi1 := condT hbi1 vh6
   refine SW.seq ?_
   refine SW.regX (fun f_ t_ => τ4 = t_ ∧ f_ 4 = AV.int (((k1 : Nat) : Int)) ∧ f_ 5 = AV.int (6)) (fun M hM => ?_) (fun fr24 τz18 hm => ?_)
   ·simp [go_sem, f12, f13, f2, f3, f60, f61, f62, f72, gb2, gb3, gb13]
    refine (hM _ _).2 ⟨rfl, ?_, ?_⟩ <;> simp [go_sem, f12, f13, f2, f3, f60, f61, f62, f72, gb2, gb3, gb13]
   clear f12 f13 f2 f3 f60 f61 f62 f72
   obtain ⟨rfl, f4, f5⟩ := hm
   obtain rfl := Option.some.inj hbi1
   obtain rfl := Option.some.inj hci1
   obtain rfl := Option.some.inj hoi1
   exact SW.ret ⟨AV.tup [AV.int (((k1 : Nat) : Int)), AV.int (6)], by simp [go_sem, f4, f5], frz_tupL (frzL_c (.lit _) (frzL_c (.lit _) (frzL_n))), hK.keeps⟩
  have hbi1 := condF hbi1 vh6
  refine SW.skip ?_
  refine SW.seq ?_
  obtain ⟨n3, hn3, hbi1⟩ := obind hbi1
  have xpn3 := getI_pos hn3
  have xln3 := getI_lt hn3
  have xin3 := getI_N hn3
  have xdn3 := getN_map AV.int xin3
  obtain ⟨n4, hn4, hbi1⟩ := obind hbi1
  have xpn4 := getI_pos hn4
  have xln4 := getI_lt hn4
  have xin4 := getI_N hn4
  have xdn4 := getN_map AV.int xin4
  obtain ⟨q, hq, hbi1⟩ := obind hbi1
  refine SW.regX (fun f_ t_ => τ4 = t_ ∧ f_ 2 = AV.ptr b2 0 ∧ f_ 3 = AV.ptr b3 0 ∧ f_ 12 = AV.int (((k1 : Nat) : Int)) ∧ f_ 60 = e3sA (o.graph.edges) ∧ f_ 61 = AV.int (((o.graph.edges.length : Nat) : Int)) ∧ f_ 62 = AV.int (((k1 : Nat) : Int)) ∧ f_ 92 = AV.bool ((!q))) (fun M hM => ?_) (fun fr25 τz19 hm => ?_)
  ·refine EW_regionD (by kernel_rfl) (by kernel_rfl) ?_
   simp [go_sem, f12, f13, f2, f3, f60, f61, f62, f72, gb2, gb3, gb13, xpn3, xln3, xdn3, xpn4, xln4, xdn4]
   refine EWqcall_pure (w_types_Fits t x1.kind n3 n4 _ hq) rfl ?_
   simp [go_sem, f12, f13, f2, f3, f60, f61, f62, f72, gb2, gb3, gb13, xpn3, xln3, xdn3, xpn4, xln4, xdn4]
   refine (hM _ _).2 ⟨rfl, ?_, ?_, ?_, ?_, ?_, ?_, ?_⟩ <;> simp [go_sem, f12, f13, f2, f3, f60, f61, f62, f72, gb2, gb3, gb13, xpn3, xln3, xdn3, xpn4, xln4, xdn4]
  clear f12 f13 f2 f3 f60 f61 f62 f72
  obtain ⟨rfl, f2, f3, f12, f60, f61, f62, f92⟩ := hm
  refine SW.cond _ f92 (fun vh7 => ?_) (fun vh7 => ?_)
  ·have hbi1 := condT hbi1 vh7
   refine SW.seq ?_
   refine SW.regX (fun f_ t_ => τ4 = t_ ∧ f_ 4 = AV.int (((k1 : Nat) : Int)) ∧ f_ 5 = AV.int (13)) (fun M hM => ?_) (fun fr26 τz20 hm => ?_)
   ·simp [go_sem, f12, f2, f3, f60, f61, f62, f92, gb2, gb3]
    refine (hM _ _).2 ⟨rfl, ?_, ?_⟩ <;> simp [go_sem, f12, f2, f3, f60, f61, f62, f92, gb2, gb3]
   clear f12 f2 f3 f60 f61 f62 f92
   obtain ⟨rfl, f4, f5⟩ := hm
   obtain rfl := Option.some.inj hbi1
   obtain rfl := Option.some.inj hci1
   obtain rfl := Option.some.inj hoi1
   exact SW.ret ⟨AV.tup [AV.int (((k1 : Nat) : Int)), AV.int (13)], by simp [go_sem, f4, f5], frz_tupL (frzL_c (.lit _) (frzL_c (.lit _) (frzL_n))), hK.keeps⟩
  have hbi1 := condF hbi1 vh7
  refine SW.skip ?_
  refine SW.blk ?_
  refine SW.regX (fun f_ t_ => τ4 = t_ ∧ f_ 2 = AV.ptr b2 0 ∧ f_ 3 = AV.ptr b3 0 ∧ f_ 60 = e3sA (o.graph.edges) ∧ f_ 61 = AV.int (((o.graph.edges.length : Nat) : Int)) ∧ f_ 62 = AV.int (((k1 + 1 : Nat) : Int))) (fun M hM => ?_) (fun fr27 τz21 hm => ?_)
  ·simp [go_sem, f12, f2, f3, f60, f61, f62, f92, gb2, gb3, hwk1]
   refine (hM _ _).2 ⟨rfl, ?_, ?_, ?_, ?_, ?_⟩ <;> simp [go_sem, f12, f2, f3, f60, f61, f62, f92, gb2, gb3, hwk1]
  clear f12 f2 f3 f60 f61 f62 f92
  obtain ⟨rfl, f2, f3, f60, f61, f62⟩ := hm
  obtain rfl := Option.some.inj hbi1
  exact SW.goal ⟨o.graph.edges.length - (k1 + 1), by omega, (hJi1 _ _ _).2 ⟨k1 + 1, rfl, hci1, f2, f3, f60, f61, f62, hK, hN, gb2, ub2, gb3, ub3⟩⟩
 intro fr28 τ5 hm
 rw [hKLi1] at hm
 clear hKLi1 hruni1
 clear f2 f3 f60 f61 f62 hK hN gb2 ub2 gb3 ub3
 obtain ⟨rfl, hK, hN⟩ := hm
 simp only [Out.on] at hoi1
 refine SW.seq ?_
 refine SW.regX (fun f_ t_ => τ5 = t_ ∧ f_ 4 = AV.int (-1) ∧ f_ 5 = AV.int (0)) (fun M hM => ?_) (fun fr29 τz22 hm => ?_)
 ·simp [go_sem]
  refine (hM _ _).2 ⟨rfl, ?_, ?_⟩ <;> simp [go_sem]
 obtain ⟨rfl, f4, f5⟩ := hm
 obtain rfl := Option.some.inj hoi1
 exact SW.ret ⟨AV.tup [AV.int (-1), AV.int (0)], by simp [go_sem, f4, f5], frz_tupL (frzL_c (.lit _) (frzL_c (.lit _) (frzL_n))), hK.keeps⟩
set_option maxHeartbeats 4000000 in
theorem w_attribute_given (t : Types) (p : GPattern) (vh : GHost) (r : (Int)) (h : s_attribute_given t p vh = some r) : PureA Tryz.prog 72 [AV.agg [nodesA (t.nodes), edgesA (t.edges)], AV.agg [intsA (p.graph.nodes), e3sA (p.graph.edges), sl_GSlot (p.slots), AV.int (p.vars), sl_GTest (p.tests)], AV.agg [intsA (vh.graph.nodes), e3sA (vh.graph.edges), sl_List_Int (vh.values)]] (AV.int (r)) := by
 refine pureA_of_SW (N := 23) Tryz.func72 (by kernel_rfl) rfl (by rw [Tryz.ntmps72]; rfl) (fun σ0 => ?_)
 rw [Tryz.results72]
 obtain ⟨fr0, hfr⟩ : ∃ fr, fr = initFr [AV.agg [nodesA (t.nodes), edgesA (t.edges)], AV.agg [intsA (p.graph.nodes), e3sA (p.graph.edges), sl_GSlot (p.slots), AV.int (p.vars), sl_GTest (p.tests)], AV.agg [intsA (vh.graph.nodes), e3sA (vh.graph.edges), sl_List_Int (vh.values)]] := ⟨_, rfl⟩
 rw [← hfr]
 have f0 : fr0 0 = AV.agg [nodesA (t.nodes), edgesA (t.edges)] := by rw [hfr]; rfl
 have f1 : fr0 1 = AV.agg [intsA (p.graph.nodes), e3sA (p.graph.edges), sl_GSlot (p.slots), AV.int (p.vars), sl_GTest (p.tests)] := by rw [hfr]; rfl
 have f2 : fr0 2 = AV.agg [intsA (vh.graph.nodes), e3sA (vh.graph.edges), sl_List_Int (vh.values)] := by rw [hfr]; rfl
 clear hfr
 simp only [s_attribute_given] at h
 refine SW.seq ?_
 refine SW.regX (fun f_ t_ => ∃ b3 : Nat, ∃ b4 : Nat, ∃ b5 : Nat, f_ 3 = AV.ptr b3 0 ∧ f_ 4 = AV.ptr b4 0 ∧ f_ 5 = AV.ptr b5 0 ∧ Kept σ0 t_ ∧ σ0.next ≤ t_.next ∧ t_.get b3 = some [nodesA (t.nodes), edgesA (t.edges)] ∧ b3 < t_.next ∧ t_.get b4 = some [intsA (p.graph.nodes), e3sA (p.graph.edges), sl_GSlot (p.slots), AV.int (p.vars), sl_GTest (p.tests)] ∧ b4 < t_.next ∧ t_.get b5 = some [intsA (vh.graph.nodes), e3sA (vh.graph.edges), sl_List_Int (vh.values)] ∧ b5 < t_.next ∧ σ0.next ≤ b3 ∧ σ0.next ≤ b4 ∧ ¬ b3 = b4 ∧ σ0.next ≤ b5 ∧ ¬ b3 = b5 ∧ ¬ b4 = b5) (fun M hM => ?_) (fun fr1 τ hm => ?_)
 ·simp [go_sem, f0, f1, f2]
  refine (hM _ _).2 ⟨σ0.next, (σ0.next + 1), (σ0.next + 2), ?_, ?_, ?_, by intro j hj; simp [go_sem, show ¬ j = σ0.next by omega, show ¬ j = σ0.next + 1 by omega, show ¬ j = σ0.next + 2 by omega], by first | omega | (simp [go_sem]; done) | (simp [go_sem]; omega), by simp (disch := omega) [get_alloc_ne, get_set_ne, get_kill_ne, go_sem, f0, f1, f2], by first | omega | (simp [go_sem]; done) | (simp [go_sem]; omega), by simp (disch := omega) [get_alloc_ne, get_set_ne, get_kill_ne, go_sem, f0, f1, f2], by first | omega | (simp [go_sem]; done) | (simp [go_sem]; omega), by simp (disch := omega) [get_alloc_ne, get_set_ne, get_kill_ne, go_sem, f0, f1, f2], by first | omega | (simp [go_sem]; done) | (simp [go_sem]; omega), by omega, by omega, by omega, by omega, by omega, by omega⟩ <;> simp [go_sem, f0, f1, f2]
 clear f0 f1 f2
 obtain ⟨b3, b4, b5, f3, f4, f5, hK, hN, gb3, ub3, gb4, ub4, gb5, ub5, wb3, wb4, eb3b4, wb5, eb3b5, eb4b5⟩ := hm
 refine SW.seq ?_
 refine SW.seq ?_
 obtain ⟨n, hn, h⟩ := obind h
 refine SW.regX (fun f_ t_ => τ = t_ ∧ f_ 3 = AV.ptr b3 0 ∧ f_ 5 = AV.ptr b5 0 ∧ f_ 7 = AV.int (n)) (fun M hM => ?_) (fun fr2 τz hm => ?_)
 ·simp [go_sem, f3, f4, f5, gb3, gb4, gb5]
  refine EWcall_pure (w_attribute_Valid t p _ hn) ?_
  simp [go_sem, f3, f4, f5, gb3, gb4, gb5]
  refine (hM _ _).2 ⟨rfl, ?_, ?_, ?_⟩ <;> simp [go_sem, f3, f4, f5, gb3, gb4, gb5]
 clear f3 f4 f5
 obtain ⟨rfl, f3, f5, f7⟩ := hm
 refine SW.seq ?_
 refine SW.regX (fun f_ t_ => τ = t_ ∧ f_ 3 = AV.ptr b3 0 ∧ f_ 5 = AV.ptr b5 0 ∧ f_ 7 = AV.int (n) ∧ f_ 14 = AV.bool ((!decide (n = 0)))) (fun M hM => ?_) (fun fr3 τz1 hm => ?_)
 ·simp [go_sem, f3, f5, f7, gb3, gb5]
  refine (hM _ _).2 ⟨rfl, ?_, ?_, ?_, ?_⟩ <;> simp [go_sem, f3, f5, f7, gb3, gb5]
 clear f3 f5 f7
 obtain ⟨rfl, f3, f5, f7, f14⟩ := hm
 refine SW.cond _ f14 (fun vh1 => ?_) (fun vh1 => ?_)
 ·have h := condT h vh1
  refine SW.seq ?_
  refine SW.regX (fun f_ t_ => τ = t_ ∧ f_ 6 = AV.int (n)) (fun M hM => ?_) (fun fr4 τz2 hm => ?_)
  ·simp [go_sem, f14, f3, f5, f7, gb3, gb5]
   refine (hM _ _).2 ⟨rfl, ?_⟩ <;> simp [go_sem, f14, f3, f5, f7, gb3, gb5]
  clear f14 f3 f5 f7
  obtain ⟨rfl, f6⟩ := hm
  obtain rfl := Option.some.inj h
  exact SW.ret ⟨AV.int (n), by simp [go_sem, f6], .lit _, hK.keeps⟩
 have h := condF h vh1
 refine SW.skip ?_
 refine SW.seq ?_
 obtain ⟨rx, hrx, h⟩ := obind h
 refine SW.regX (fun f_ t_ => τ = t_ ∧ f_ 9 = AV.int (rx.2)) (fun M hM => ?_) (fun fr5 τz3 hm => ?_)
 ·simp [go_sem, f14, f3, f5, f7, gb3, gb5]
  refine EWcall_pure (w_host_Valid t vh _ hrx) ?_
  simp [go_sem, f14, f3, f5, f7, gb3, gb5]
  refine (hM _ _).2 ⟨rfl, ?_⟩ <;> simp [go_sem, f14, f3, f5, f7, gb3, gb5]
 clear f14 f3 f5 f7
 obtain ⟨rfl, f9⟩ := hm
 refine SW.seq ?_
 refine SW.regX (fun f_ t_ => τ = t_ ∧ f_ 6 = AV.int (rx.2)) (fun M hM => ?_) (fun fr6 τz4 hm => ?_)
 ·simp [go_sem, f9]
  refine (hM _ _).2 ⟨rfl, ?_⟩ <;> simp [go_sem, f9]
 clear f9
 obtain ⟨rfl, f6⟩ := hm
 obtain rfl := Option.some.inj h
 exact SW.ret ⟨AV.int (rx.2), by simp [go_sem, f6], .lit _, hK.keeps⟩
end Go.Proofs.YtippinddoldhkaaGreat
