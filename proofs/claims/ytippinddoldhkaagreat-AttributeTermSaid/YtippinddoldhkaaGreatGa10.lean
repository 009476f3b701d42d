/-
  Plain functions and the walks that lead to them, by a program of ours (gen.py): slices.Clone___scarfjoint/api.Test_scarfjoint/api.Test_, scarfjoint/attribute.system$1, scarfjoint/attribute.system, scarfjoint/difference.arcs.
-/
import Derived.Test.YtippinddoldhkaaGreatGd
import Derived.Test.YtippinddoldhkaaGreatGT
import Derived.Test.YtippinddoldhkaaGreatB3
import Derived.Test.YtippinddoldhkaaGreatB7
import Derived.Test.YtippinddoldhkaaGreatGS
import Derived.Test.YtippinddoldhkaaGreatLg
import Derived.Test.YtippinddoldhkaaGreatGa2
set_option linter.unusedSimpArgs false
set_option linter.unusedVariables false
namespace Go.Proofs.YtippinddoldhkaaGreat
open Go Go.Ew Go.Proofs Go.RowKit
set_option maxRecDepth 100000
theorem oc_slices_CloneO_Test (l : List GTest) (hl : l.length ≤ 1000000000) (σ0 : Mem) (R : AV → Mem → Prop) (hR : ∀ x τ, ArrAt σ0.next τ x 86 (l.flatMap GTestC) l.length 5 → Kept σ0 τ → σ0.next ≤ τ.next → R x τ) : CallA Tryz.prog 95 [sl_GTest (l)] σ0 R := by
 by_cases h0 : l.length = 0
 ·have : l = [] := List.eq_nil_of_length_eq_zero h0
  subst this
  refine callA_slice0 fun A c _ => ?_
  refine callA_of Tryz.func95 rfl (by kernel_rfl) ?_
  cases A with
  | none =>
   simp [go_sem, Tryz.results95, Tryz.ntmps95]
   exact hR _ _ (.inl ⟨rfl, rfl, rfl⟩) (Kept.refl _) (Nat.le_refl _)
  | some a =>
   simp [go_sem, Tryz.results95, Tryz.ntmps95, get_alloc, ty_alloc]
   exact hR _ _ (.inr ⟨_, rfl, by simp [get_alloc, get_kill, get_set, ty_alloc, ty_kill, ty_set, next_alloc, next_kill, next_set], by simp [get_alloc, get_kill, get_set, ty_alloc, ty_kill, ty_set, next_alloc, next_kill, next_set], by simp [get_alloc, get_kill, get_set, ty_alloc, ty_kill, ty_set, next_alloc, next_kill, next_set] <;> omega, by simp [get_alloc, get_kill, get_set, ty_alloc, ty_kill, ty_set, next_alloc, next_kill, next_set] <;> omega⟩) (fun i hi => ⟨by simp [get_alloc, get_kill, get_set, ty_alloc, ty_kill, ty_set, next_alloc, next_kill, next_set, show ¬ i = σ0.next by omega, show ¬ i = σ0.next + 1 by omega], by simp [get_alloc, get_kill, get_set, ty_alloc, ty_kill, ty_set, next_alloc, next_kill, next_set, show ¬ i = σ0.next by omega, show ¬ i = σ0.next + 1 by omega]⟩) (by simp [get_alloc, get_kill, get_set, ty_alloc, ty_kill, ty_set, next_alloc, next_kill, next_set] <;> omega)
 ·have hp : 0 < l.length := by omega
  have hcl : (l.flatMap GTestC).length = l.length * 5 := length_flatMap (f := GTestC) (sz := 5) (fun _ => rfl) l
  refine callA_of Tryz.func95 rfl (by kernel_rfl) ?_
  simp [go_sem, Tryz.results95, Tryz.ntmps95, hp, get_alloc, ty_alloc, hcl, show l.length ≤ 9223372036854775807 by omega, show l.length * 40 ≤ 140737488355328 by omega]
  exact hR _ _ (.inr ⟨_, rfl, by simp [get_alloc, get_kill, get_set, ty_alloc, ty_kill, ty_set, next_alloc, next_kill, next_set], by simp [get_alloc, get_kill, get_set, ty_alloc, ty_kill, ty_set, next_alloc, next_kill, next_set], by simp [get_alloc, get_kill, get_set, ty_alloc, ty_kill, ty_set, next_alloc, next_kill, next_set] <;> omega, by simp [get_alloc, get_kill, get_set, ty_alloc, ty_kill, ty_set, next_alloc, next_kill, next_set] <;> omega⟩) (fun i hi => ⟨by simp [get_alloc, get_kill, get_set, ty_alloc, ty_kill, ty_set, next_alloc, next_kill, next_set, show ¬ i = σ0.next by omega, show ¬ i = σ0.next + 1 by omega], by simp [get_alloc, get_kill, get_set, ty_alloc, ty_kill, ty_set, next_alloc, next_kill, next_set, show ¬ i = σ0.next by omega, show ¬ i = σ0.next + 1 by omega]⟩) (by simp [get_alloc, get_kill, get_set, ty_alloc, ty_kill, ty_set, next_alloc, next_kill, next_set] <;> omega)
def O_slices_CloneO_Test (r : List GTest) (n : Nat) (x : AV) (τ : Mem) : Prop := ∃ v : AV, x = v ∧ ArrAt n τ v 86 (r.flatMap GTestC) r.length 5
theorem o_slices_CloneO_Test (l r : List GTest) (h : s_slices_CloneO_Test l = some r) (σ0 : Mem) : CallA Tryz.prog 95 [sl_GTest (l)] σ0 (fun x τ => O_slices_CloneO_Test r σ0.next x τ ∧ Kept σ0 τ ∧ σ0.next ≤ τ.next) := by
 obtain ⟨hl, rfl⟩ := some_of_if h
 exact oc_slices_CloneO_Test l hl σ0 _ fun x τ h1 h2 h3 => ⟨⟨x, rfl, h1⟩, h2, h3⟩
set_option maxHeartbeats 4000000 in
theorem w_attribute_system_c1 (n : Int) (r : (GTerm)) (h : s_attribute_system_c1 n = some r) : PureA Tryz.prog 96 [AV.int (n)] (AV.agg [AV.int (r.var), AV.int (r.add)]) := by
 refine pureA_of_SW (N := 5) Tryz.func96 (by kernel_rfl) rfl (by rw [Tryz.ntmps96]; rfl) (fun σ0 => ?_)
 rw [Tryz.results96]
 obtain ⟨fr0, hfr⟩ : ∃ fr, fr = initFr [AV.int (n)] := ⟨_, rfl⟩
 rw [← hfr]
 have f0 : fr0 0 = AV.int (n) := by rw [hfr]; rfl
 clear hfr
 simp only [s_attribute_system_c1] at h
 refine SW.seq ?_
 refine SW.regX (fun f_ t_ => ∃ b2 : Nat, f_ 0 = AV.int (n) ∧ f_ 2 = AV.ptr b2 0 ∧ Kept σ0 t_ ∧ σ0.next ≤ t_.next ∧ t_.get b2 = some [AV.int (0), AV.int (0)] ∧ b2 < t_.next ∧ σ0.next ≤ b2) (fun M hM => ?_) (fun fr1 τ hm => ?_)
 ·simp [go_sem, f0]
  refine (hM _ _).2 ⟨σ0.next, ?_, ?_, by intro j hj; simp [go_sem, show ¬ j = σ0.next by omega], by first | omega | (simp [go_sem]; done) | (simp [go_sem]; omega), by simp (disch := omega) [get_alloc_ne, get_set_ne, get_kill_ne, go_sem, f0], by first | omega | (simp [go_sem]; done) | (simp [go_sem]; omega), by omega⟩ <;> simp [go_sem, f0]
 clear f0
 obtain ⟨b2, f0, f2, hK, hN, gb2, ub2, wb2⟩ := hm
 refine SW.seq ?_
 refine SW.regX (fun f_ t_ => f_ 2 = AV.ptr b2 0 ∧ Kept σ0 t_ ∧ σ0.next ≤ t_.next ∧ t_.get b2 = some [AV.int (-1), AV.int (n)] ∧ b2 < t_.next) (fun M hM => ?_) (fun fr2 τ1 hm => ?_)
 ·simp [go_sem, f0, f2, gb2]
  refine (hM _ _).2 ⟨?_, by intro j hj; have hj_ := hK j hj; simp [go_sem, hj_.1, hj_.2, show ¬ j = b2 by omega], by first | omega | (simp [go_sem]; done) | (simp [go_sem]; omega), by simp (disch := omega) [get_alloc_ne, get_set_ne, get_kill_ne, go_sem, f0, f2, gb2], by first | omega | (simp [go_sem]; done) | (simp [go_sem]; omega)⟩ <;> simp [go_sem, f0, f2, gb2]
 clear f0 f2 hK hN gb2 ub2
 obtain ⟨f2, hK, hN, gb2, ub2⟩ := hm
 obtain rfl := Option.some.inj h
 exact SW.ret ⟨AV.agg [AV.int (-1), AV.int (n)], by simp [go_sem, f2, gb2], frz_aggL (frzL_c (.lit _) (frzL_c (.lit _) (frzL_n))), hK.keeps⟩
def O_attribute_system (r : ((List GTest))) (n : Nat) (x : AV) (τ : Mem) : Prop := ∃ v0_ : AV, x = v0_ ∧ ArrAt n τ v0_ 86 (r.flatMap GTestC) r.length 5
set_option maxHeartbeats 4000000 in
theorem o_attribute_system (F : Nat) (t : Types) (o : GPattern) (r : ((List GTest))) (h : s_attribute_system F t o = some r) (σ0 : Mem) : CallA Tryz.prog 45 [AV.agg [nodesA (t.nodes), edgesA (t.edges)], AV.agg [intsA (o.graph.nodes), e3sA (o.graph.edges), sl_GSlot (o.slots), AV.int (o.vars), sl_GTest (o.tests)]] σ0 (fun x τ => O_attribute_system r σ0.next x τ ∧ Kept σ0 τ ∧ σ0.next ≤ τ.next) := by
 refine callA_of_SW (N := 81) Tryz.func45 (by kernel_rfl) rfl (by rw [Tryz.ntmps45]; rfl) ?_
 rw [Tryz.results45]
 obtain ⟨fr0, hfr⟩ : ∃ fr, fr = initFr [AV.agg [nodesA (t.nodes), edgesA (t.edges)], AV.agg [intsA (o.graph.nodes), e3sA (o.graph.edges), sl_GSlot (o.slots), AV.int (o.vars), sl_GTest (o.tests)]] := ⟨_, rfl⟩
 rw [← hfr]
 have f0 : fr0 0 = AV.agg [nodesA (t.nodes), edgesA (t.edges)] := by rw [hfr]; rfl
 have f1 : fr0 1 = AV.agg [intsA (o.graph.nodes), e3sA (o.graph.edges), sl_GSlot (o.slots), AV.int (o.vars), sl_GTest (o.tests)] := by rw [hfr]; rfl
 clear hfr
 simp only [s_attribute_system] at h
 refine SW.seq ?_
 refine SW.regX (fun f_ t_ => ∃ b2 : Nat, ∃ b3 : Nat, f_ 2 = AV.ptr b2 0 ∧ f_ 3 = AV.ptr b3 0 ∧ Kept σ0 t_ ∧ σ0.next ≤ t_.next ∧ t_.get b2 = some [nodesA (t.nodes), edgesA (t.edges)] ∧ b2 < t_.next ∧ t_.get b3 = some [intsA (o.graph.nodes), e3sA (o.graph.edges), sl_GSlot (o.slots), AV.int (o.vars), sl_GTest (o.tests)] ∧ b3 < t_.next ∧ σ0.next ≤ b2 ∧ σ0.next ≤ b3 ∧ ¬ b2 = b3) (fun M hM => ?_) (fun fr1 τ hm => ?_)
 ·simp [go_sem, f0, f1]
  refine (hM _ _).2 ⟨σ0.next, (σ0.next + 1), ?_, ?_, by intro j hj; simp [go_sem, show ¬ j = σ0.next by omega, show ¬ j = σ0.next + 1 by omega], by first | omega | (simp [go_sem]; done) | (simp [go_sem]; omega), by simp (disch := omega) [get_alloc_ne, get_set_ne, get_kill_ne, go_sem, f0, f1], by first | omega | (simp [go_sem]; done) | (simp [go_sem]; omega), by simp (disch := omega) [get_alloc_ne, get_set_ne, get_kill_ne, go_sem, f0, f1], by first | omega | (simp [go_sem]; done) | (simp [go_sem]; omega), by omega, by omega, by omega⟩ <;> simp [go_sem, f0, f1]
 clear f0 f1
 obtain ⟨b2, b3, f2, f3, hK, hN, gb2, ub2, gb3, ub3, wb2, wb3, eb2b3⟩ := hm
 refine SW.seq ?_
 obtain ⟨rx, hrx, h⟩ := obind h
 refine SW.regX (fun f_ t_ => ∃ v1 : AV, f_ 2 = AV.ptr b2 0 ∧ f_ 3 = AV.ptr b3 0 ∧ f_ 5 = v1 ∧ Kept σ0 t_ ∧ σ0.next ≤ t_.next ∧ t_.get b2 = some [nodesA (t.nodes), edgesA (t.edges)] ∧ b2 < t_.next ∧ t_.get b3 = some [intsA (o.graph.nodes), e3sA (o.graph.edges), sl_GSlot (o.slots), AV.int (o.vars), sl_GTest (o.tests)] ∧ b3 < t_.next ∧ ArrAt σ0.next t_ v1 86 (rx.flatMap GTestC) rx.length 5 ∧ (∀ i, idOf v1 = some i → ¬ i = b2) ∧ (∀ i, idOf v1 = some i → ¬ i = b3)) (fun M hM => ?_) (fun fr2 τ1 hm => ?_)
 ·simp [go_sem, f2, f3, gb2, gb3]
  refine EWcall_of (o_slices_CloneO_Test o.tests _ hrx _) ?_
  rintro xq τc ⟨⟨v, hxq, av⟩, kc, nc⟩
  obtain rfl := hxq.symm
  have hK := hK.trans kc hN
  have hN := Nat.le_trans hN nc
  have evb2 : ∀ i, idOf v = some i → ¬ i = b2 := fun i hi => by have := arrAt_lt av i hi; omega
  have evb3 : ∀ i, idOf v = some i → ¬ i = b3 := fun i hi => by have := arrAt_lt av i hi; omega
  have av := av.lo (n1 := σ0.next) (by omega)
  have gb2 := (kc b2 ub2).1.trans gb2
  have ub2 := Nat.lt_of_lt_of_le ub2 nc
  have gb3 := (kc b3 ub3).1.trans gb3
  have ub3 := Nat.lt_of_lt_of_le ub3 nc
  simp [go_sem, f2, f3, gb2, gb3]
  refine (hM _ _).2 ⟨v, ?_, ?_, ?_, by intro j hj; have hj_ := hK j hj; simp [go_sem, hj_.1, hj_.2], by first | omega | (simp [go_sem]; done) | (simp [go_sem]; omega), by simp (disch := omega) [get_alloc_ne, get_set_ne, get_kill_ne, go_sem, f2, f3, gb2, gb3], by first | omega | (simp [go_sem]; done) | (simp [go_sem]; omega), by simp (disch := omega) [get_alloc_ne, get_set_ne, get_kill_ne, go_sem, f2, f3, gb2, gb3], by first | omega | (simp [go_sem]; done) | (simp [go_sem]; omega), av, by first | exact evb2 | (intro i hi; have := arrAt_lt av i hi; omega), by first | exact evb3 | (intro i hi; have := arrAt_lt av i hi; omega)⟩ <;> simp [go_sem, f2, f3, gb2, gb3]
 clear f2 f3 hK hN gb2 ub2 gb3 ub3
 obtain ⟨v1, f2, f3, f5, hK, hN, gb2, ub2, gb3, ub3, av1, ev1b2, ev1b3⟩ := hm
 refine SW.seq ?_
 refine SW.regX (fun f_ t_ => τ1 = t_ ∧ f_ 2 = AV.ptr b2 0 ∧ f_ 3 = AV.ptr b3 0 ∧ f_ 5 = v1 ∧ f_ 6 = AV.fn 96 []) (fun M hM => ?_) (fun fr3 τz hm => ?_)
 ·simp [go_sem, f2, f3, f5, gb2, gb3]
  refine (hM _ _).2 ⟨rfl, ?_, ?_, ?_, ?_⟩ <;> simp [go_sem, f2, f3, f5, gb2, gb3]
 clear f2 f3 f5
 obtain ⟨rfl, f2, f3, f5, f6⟩ := hm
 refine SW.seq ?_
 refine SW.seq ?_
 refine SW.regX (fun f_ t_ => τ1 = t_ ∧ f_ 2 = AV.ptr b2 0 ∧ f_ 3 = AV.ptr b3 0 ∧ f_ 5 = v1 ∧ f_ 6 = AV.fn 96 [] ∧ f_ 17 = sl_GSlot (o.slots) ∧ f_ 18 = AV.int (((o.slots.length : Nat) : Int)) ∧ f_ 19 = AV.int (0)) (fun M hM => ?_) (fun fr4 τz1 hm => ?_)
 ·simp [go_sem, f2, f3, f5, f6, gb2, gb3]
  refine (hM _ _).2 ⟨rfl, ?_, ?_, ?_, ?_, ?_, ?_, ?_⟩ <;> simp [go_sem, f2, f3, f5, f6, gb2, gb3]
 clear f2 f3 f5 f6
 obtain ⟨rfl, f2, f3, f5, f6, f17, f18, f19⟩ := hm
 obtain ⟨oi, hruni, hoi⟩ := obind h
 refine SW.len 17 f17 (fun hbigi => ?_)
 obtain ⟨KLi, hKLi⟩ : ∃ KL : Fr → Mem → Prop, ∀ fr' τ', KL fr' τ' ↔ (∃ a : List GTest, ∃ v2 : AV, oi = .done a ∧ fr' 5 = v2 ∧ Kept σ0 τ' ∧ σ0.next ≤ τ'.next ∧ ArrAt σ0.next τ' v2 86 (a.flatMap GTestC) a.length 5) := ⟨_, fun _ _ => Iff.rfl⟩
 refine SW.cut KLi ?_ ?_
 ·refine SW.block ?_
  obtain ⟨Ji, hJi⟩ : ∃ J : Nat → Fr → Mem → Prop, ∀ m_ fr' τ', J m_ fr' τ' ↔ (∃ k : Nat, ∃ a : List GTest, ∃ v2 : AV, m_ = o.slots.length - k ∧ forN (b1_attribute_system F t o) (o.slots.length - k) k a = some oi ∧ fr' 2 = AV.ptr b2 0 ∧ fr' 3 = AV.ptr b3 0 ∧ fr' 5 = v2 ∧ fr' 6 = AV.fn 96 [] ∧ fr' 17 = sl_GSlot (o.slots) ∧ fr' 18 = AV.int (((o.slots.length : Nat) : Int)) ∧ fr' 19 = AV.int (((k : Nat) : Int)) ∧ Kept σ0 τ' ∧ σ0.next ≤ τ'.next ∧ τ'.get b2 = some [nodesA (t.nodes), edgesA (t.edges)] ∧ b2 < τ'.next ∧ τ'.get b3 = some [intsA (o.graph.nodes), e3sA (o.graph.edges), sl_GSlot (o.slots), AV.int (o.vars), sl_GTest (o.tests)] ∧ b3 < τ'.next ∧ ArrAt σ0.next τ' v2 86 (a.flatMap GTestC) a.length 5 ∧ (∀ i, idOf v2 = some i → ¬ i = b2) ∧ (∀ i, idOf v2 = some i → ¬ i = b3)) := ⟨_, fun _ _ _ => Iff.rfl⟩
  refine SW.loop Ji (o.slots.length - 0) ((hJi _ _ _).2 ⟨0, rx, v1, rfl, hruni, f2, f3, f5, f6, f17, f18, f19, hK, hN, gb2, ub2, gb3, ub3, av1, ev1b2, ev1b3⟩) ?_
  clear hruni
  intro m_ fr5 τ2 hm
  rw [hJi] at hm
  clear f17 f18 f19 f2 f3 f5 f6 hK hN gb2 ub2 gb3 ub3 av1
  obtain ⟨k, a, v2, rfl, hruni, f2, f3, f5, f6, f17, f18, f19, hK, hN, gb2, ub2, gb3, ub3, av2, ev2b2, ev2b3⟩ := hm
  refine SW.seq ?_
  refine SW.regX (fun f_ t_ => τ2 = t_ ∧ f_ 2 = AV.ptr b2 0 ∧ f_ 3 = AV.ptr b3 0 ∧ f_ 5 = v2 ∧ f_ 6 = AV.fn 96 [] ∧ f_ 17 = sl_GSlot (o.slots) ∧ f_ 18 = AV.int (((o.slots.length : Nat) : Int)) ∧ f_ 19 = AV.int (((k : Nat) : Int)) ∧ f_ 20 = AV.bool ((decide (k < o.slots.length)))) (fun M hM => ?_) (fun fr6 τz2 hm => ?_)
  ·simp [go_sem, f17, f18, f19, f2, f3, f5, f6, gb2, gb3]
   refine (hM _ _).2 ⟨rfl, ?_, ?_, ?_, ?_, ?_, ?_, ?_, ?_⟩ <;> simp [go_sem, f17, f18, f19, f2, f3, f5, f6, gb2, gb3]
  clear f17 f18 f19 f2 f3 f5 f6
  obtain ⟨rfl, f2, f3, f5, f6, f17, f18, f19, f20⟩ := hm
  refine SW.seq ?_
  refine SW.cond _ f20 (fun vh => ?_) (fun vh => ?_)
  rotate_left
  ·have hk : ¬ k < o.slots.length := by have := of_decide_eq_false vh; omega
   refine SW.exit rfl ?_
   exact SW.goal ((hKLi _ _).2 ⟨a, v2, forN_end hruni hk, f5, hK, hN, av2⟩)
  have hkk : k < o.slots.length := by have := of_decide_eq_true vh; omega
  have hwk : IntKind.i64.wrap ((k : Int) + 1) = ((k + 1 : Nat) : Int) := by rw [wrap64_of _ (by omega) (by omega)]; rfl
  obtain ⟨ci, hbi, hci⟩ := forN_step hruni hkk
  simp only [b1_attribute_system] at hbi
  refine SW.skip ?_
  refine SW.seq ?_
  refine SW.block ?_
  refine SW.seq ?_
  obtain ⟨x, hx, hbi⟩ := obind hbi
  have xlx := getN_lt hx
  have xdx := getN_flat GSlotC 4 (fun _ => rfl) hx
  refine SW.regX (fun f_ t_ => ∃ b8 : Nat, f_ 2 = AV.ptr b2 0 ∧ f_ 3 = AV.ptr b3 0 ∧ f_ 5 = v2 ∧ f_ 6 = AV.fn 96 [] ∧ f_ 7 = AV.int (((k : Nat) : Int)) ∧ f_ 8 = AV.ptr b8 0 ∧ f_ 17 = sl_GSlot (o.slots) ∧ f_ 18 = AV.int (((o.slots.length : Nat) : Int)) ∧ f_ 19 = AV.int (((k : Nat) : Int)) ∧ Kept σ0 t_ ∧ σ0.next ≤ t_.next ∧ t_.get b2 = some [nodesA (t.nodes), edgesA (t.edges)] ∧ b2 < t_.next ∧ t_.get b3 = some [intsA (o.graph.nodes), e3sA (o.graph.edges), sl_GSlot (o.slots), AV.int (o.vars), sl_GTest (o.tests)] ∧ b3 < t_.next ∧ t_.get b8 = some [AV.int (x.node), AV.int (x.attr), AV.int (x.term.var), AV.int (x.term.add)] ∧ b8 < t_.next ∧ ArrAt σ0.next t_ v2 86 (a.flatMap GTestC) a.length 5 ∧ σ0.next ≤ b8 ∧ ¬ b2 = b8 ∧ ¬ b3 = b8 ∧ (∀ i, idOf v2 = some i → ¬ i = b8)) (fun M hM => ?_) (fun fr7 τ3 hm => ?_)
  ·have nb2_0 : ¬ b2 = τ2.next := by omega
   have nb3_0 : ¬ b3 = τ2.next := by omega
   simp [go_sem, f17, f18, f19, f2, f20, f3, f5, f6, gb2, gb3, xlx, xdx, GSlotC, nb2_0, nb3_0]
   refine (hM _ _).2 ⟨τ2.next, ?_, ?_, ?_, ?_, ?_, ?_, ?_, ?_, ?_, by intro j hj; have hj_ := hK j hj; simp [go_sem, hj_.1, hj_.2, show ¬ j = τ2.next by omega], by first | omega | (simp [go_sem]; done) | (simp [go_sem]; omega), by simp (disch := omega) [get_alloc_ne, get_set_ne, get_kill_ne, go_sem, f17, f18, f19, f2, f20, f3, f5, f6, gb2, gb3, xlx, xdx, GSlotC, nb2_0, nb3_0], by first | omega | (simp [go_sem]; done) | (simp [go_sem]; omega), by simp (disch := omega) [get_alloc_ne, get_set_ne, get_kill_ne, go_sem, f17, f18, f19, f2, f20, f3, f5, f6, gb2, gb3, xlx, xdx, GSlotC, nb2_0, nb3_0], by first | omega | (simp [go_sem]; done) | (simp [go_sem]; omega), by simp (disch := omega) [get_alloc_ne, get_set_ne, get_kill_ne, go_sem, f17, f18, f19, f2, f20, f3, f5, f6, gb2, gb3, xlx, xdx, GSlotC, nb2_0, nb3_0], by first | omega | (simp [go_sem]; done) | (simp [go_sem]; omega), av2.same' (by simp [go_sem]; try omega) (fun i hi => by have zl := arrAt_lt av2 i hi; have zi0 : ¬ i = τ2.next := (by omega); constructor <;> simp [go_sem, zi0]), by omega, by omega, by omega, by first | exact ev2b8 | (intro i hi; have := arrAt_lt av2 i hi; omega)⟩ <;> simp [go_sem, f17, f18, f19, f2, f20, f3, f5, f6, gb2, gb3, xlx, xdx, GSlotC, nb2_0, nb3_0]
  clear f17 f18 f19 f2 f20 f3 f5 f6 hK hN gb2 ub2 gb3 ub3 av2
  obtain ⟨b8, f2, f3, f5, f6, f7, f8, f17, f18, f19, hK, hN, gb2, ub2, gb3, ub3, gb8, ub8, av2, wb8, eb2b8, eb3b8, ev2b8⟩ := hm
  refine SW.seq ?_
  obtain ⟨rx1, hrx1, hbi⟩ := obind hbi
  refine SW.regX (fun f_ t_ => ∃ b9 : Nat, f_ 2 = AV.ptr b2 0 ∧ f_ 3 = AV.ptr b3 0 ∧ f_ 5 = v2 ∧ f_ 6 = AV.fn 96 [] ∧ f_ 7 = AV.int (((k : Nat) : Int)) ∧ f_ 8 = AV.ptr b8 0 ∧ f_ 9 = AV.ptr b9 0 ∧ f_ 17 = sl_GSlot (o.slots) ∧ f_ 18 = AV.int (((o.slots.length : Nat) : Int)) ∧ f_ 19 = AV.int (((k : Nat) : Int)) ∧ Kept σ0 t_ ∧ σ0.next ≤ t_.next ∧ t_.get b2 = some [nodesA (t.nodes), edgesA (t.edges)] ∧ b2 < t_.next ∧ t_.get b3 = some [intsA (o.graph.nodes), e3sA (o.graph.edges), sl_GSlot (o.slots), AV.int (o.vars), sl_GTest (o.tests)] ∧ b3 < t_.next ∧ t_.get b8 = some [AV.int (x.node), AV.int (x.attr), AV.int (x.term.var), AV.int (x.term.add)] ∧ b8 < t_.next ∧ t_.get b9 = some [AV.str (rx1.1.name), AV.int (rx1.1.low), AV.int (rx1.1.high), strsA (rx1.1.names)] ∧ b9 < t_.next ∧ ArrAt σ0.next t_ v2 86 (a.flatMap GTestC) a.length 5 ∧ σ0.next ≤ b9 ∧ ¬ b2 = b9 ∧ ¬ b3 = b9 ∧ ¬ b8 = b9 ∧ (∀ i, idOf v2 = some i → ¬ i = b9)) (fun M hM => ?_) (fun fr8 τ4 hm => ?_)
  ·have nb2_0 : ¬ b2 = τ3.next := by omega
   have nb3_0 : ¬ b3 = τ3.next := by omega
   have nb8_0 : ¬ b8 = τ3.next := by omega
   simp [go_sem, f17, f18, f19, f2, f3, f5, f6, f7, f8, gb2, gb3, gb8, nb2_0, nb3_0, nb8_0]
   refine EWcall_pure (w_attribute_attr t o x _ hrx1) ?_
   simp [go_sem, f17, f18, f19, f2, f3, f5, f6, f7, f8, gb2, gb3, gb8, nb2_0, nb3_0, nb8_0]
   refine (hM _ _).2 ⟨τ3.next, ?_, ?_, ?_, ?_, ?_, ?_, ?_, ?_, ?_, ?_, by intro j hj; have hj_ := hK j hj; simp [go_sem, hj_.1, hj_.2, show ¬ j = τ3.next by omega], by first | omega | (simp [go_sem]; done) | (simp [go_sem]; omega), by simp (disch := omega) [get_alloc_ne, get_set_ne, get_kill_ne, go_sem, f17, f18, f19, f2, f3, f5, f6, f7, f8, gb2, gb3, gb8, nb2_0, nb3_0, nb8_0], by first | omega | (simp [go_sem]; done) | (simp [go_sem]; omega), by simp (disch := omega) [get_alloc_ne, get_set_ne, get_kill_ne, go_sem, f17, f18, f19, f2, f3, f5, f6, f7, f8, gb2, gb3, gb8, nb2_0, nb3_0, nb8_0], by first | omega | (simp [go_sem]; done) | (simp [go_sem]; omega), by simp (disch := omega) [get_alloc_ne, get_set_ne, get_kill_ne, go_sem, f17, f18, f19, f2, f3, f5, f6, f7, f8, gb2, gb3, gb8, nb2_0, nb3_0, nb8_0], by first | omega | (simp [go_sem]; done) | (simp [go_sem]; omega), by simp (disch := omega) [get_alloc_ne, get_set_ne, get_kill_ne, go_sem, f17, f18, f19, f2, f3, f5, f6, f7, f8, gb2, gb3, gb8, nb2_0, nb3_0, nb8_0], by first | omega | (simp [go_sem]; done) | (simp [go_sem]; omega), av2.same' (by simp [go_sem]; try omega) (fun i hi => by have zl := arrAt_lt av2 i hi; have zi0 : ¬ i = τ3.next := (by omega); constructor <;> simp [go_sem, zi0]), by omega, by omega, by omega, by omega, by first | exact ev2b9 | (intro i hi; have := arrAt_lt av2 i hi; omega)⟩ <;> simp [go_sem, f17, f18, f19, f2, f3, f5, f6, f7, f8, gb2, gb3, gb8, nb2_0, nb3_0, nb8_0]
  clear f17 f18 f19 f2 f3 f5 f6 f7 f8 hK hN gb2 ub2 gb3 ub3 gb8 ub8 av2
  obtain ⟨b9, f2, f3, f5, f6, f7, f8, f9, f17, f18, f19, hK, hN, gb2, ub2, gb3, ub3, gb8, ub8, gb9, ub9, av2, wb9, eb2b9, eb3b9, eb8b9, ev2b9⟩ := hm
  refine SW.seq ?_
  obtain ⟨rx2, hrx2, hbi⟩ := obind hbi
  obtain ⟨rx3, hrx3, hbi⟩ := obind hbi
  obtain ⟨a1, ha1, hbi⟩ := obind hbi
  obtain ⟨la1, ea1⟩ := catL_spec ha1
  refine SW.regX (fun f_ t_ => ∃ v3 : AV, f_ 2 = AV.ptr b2 0 ∧ f_ 3 = AV.ptr b3 0 ∧ f_ 5 = v3 ∧ f_ 6 = AV.fn 96 [] ∧ f_ 7 = AV.int (((k : Nat) : Int)) ∧ f_ 8 = AV.ptr b8 0 ∧ f_ 17 = sl_GSlot (o.slots) ∧ f_ 18 = AV.int (((o.slots.length : Nat) : Int)) ∧ f_ 19 = AV.int (((k : Nat) : Int)) ∧ Kept σ0 t_ ∧ σ0.next ≤ t_.next ∧ t_.get b2 = some [nodesA (t.nodes), edgesA (t.edges)] ∧ b2 < t_.next ∧ t_.get b3 = some [intsA (o.graph.nodes), e3sA (o.graph.edges), sl_GSlot (o.slots), AV.int (o.vars), sl_GTest (o.tests)] ∧ b3 < t_.next ∧ t_.get b8 = some [AV.int (x.node), AV.int (x.attr), AV.int (x.term.var), AV.int (x.term.add)] ∧ b8 < t_.next ∧ ArrAt σ0.next t_ v3 86 (a1.flatMap GTestC) a1.length 5 ∧ (∀ i, idOf v3 = some i → ¬ i = b2) ∧ (∀ i, idOf v3 = some i → ¬ i = b3) ∧ (∀ i, idOf v3 = some i → ¬ i = b8)) (fun M hM => ?_) (fun fr9 τ5 hm => ?_)
  ·have nb2_0 : ¬ b2 = τ4.next := by omega
   have nb2_1 : ¬ b2 = τ4.next + 1 := by omega
   have nb3_0 : ¬ b3 = τ4.next := by omega
   have nb3_1 : ¬ b3 = τ4.next + 1 := by omega
   have nb8_0 : ¬ b8 = τ4.next := by omega
   have nb8_1 : ¬ b8 = τ4.next + 1 := by omega
   have nb9_0 : ¬ b9 = τ4.next := by omega
   have nb9_1 : ¬ b9 = τ4.next + 1 := by omega
   have nb2_b3 : ¬ b2 = b3 := by omega
   have nb2_b8 : ¬ b2 = b8 := by omega
   have nb2_b9 : ¬ b2 = b9 := by omega
   have nb3_b2 : ¬ b3 = b2 := by omega
   have nb3_b8 : ¬ b3 = b8 := by omega
   have nb3_b9 : ¬ b3 = b9 := by omega
   have nb8_b2 : ¬ b8 = b2 := by omega
   have nb8_b3 : ¬ b8 = b3 := by omega
   have nb8_b9 : ¬ b8 = b9 := by omega
   have nb9_b2 : ¬ b9 = b2 := by omega
   have nb9_b3 : ¬ b9 = b3 := by omega
   have nb9_b8 : ¬ b9 = b8 := by omega
   have zv2 := av2
   rcases zv2 with ⟨rfl, nv2, mv2⟩ | ⟨ov2, rfl, gov2, tov2, lov2, hiv2⟩
   ·refine EW_regionY τ4 18 (.q false 0 (.q false 1 (.q false 2 (.q false 3 (.q false 5 (.q false 6 (.q false 8 (.q false 9 (.q false 10 (.q false 11 (.q false 12 (.q true 4 (.q false 7 (.q true 13 (.q false 14 (.s 15 (.s 16 (.q false 17 .done)))))))))))))))))) (by kernel_rfl) (by kernel_rfl) (fun _ _ h => h) (fun hfin => ?_)
    have m0_ : τ4.get (τ4.next) = none := hfin _ (by omega)
    have m1_ : τ4.get (τ4.next + 1) = none := hfin _ (by omega)
    have hsub : Sub τ4 τ4 := (fun _ _ h => h)
    simp (maxDischargeDepth := 12) [go_sem, f17, f18, f19, f2, f3, f5, f6, f7, f8, f9, gb2, gb3, gb8, gb9, nb2_0, nb2_1, nb3_0, nb3_1, nb8_0, nb8_1, nb9_0, nb9_1, nb2_b3, nb2_b8, nb2_b9, nb3_b2, nb3_b8, nb3_b9, nb8_b2, nb8_b3, nb8_b9, nb9_b2, nb9_b3, nb9_b8, nv2, mv2, m0_, m1_, sub_set, sub_killAll, hsub]
    refine EWzp_pure (w_attribute_system_c1 rx1.1.low _ hrx2) ?_
    simp (maxDischargeDepth := 12) [go_sem, f17, f18, f19, f2, f3, f5, f6, f7, f8, f9, gb2, gb3, gb8, gb9, nb2_0, nb2_1, nb3_0, nb3_1, nb8_0, nb8_1, nb9_0, nb9_1, nb2_b3, nb2_b8, nb2_b9, nb3_b2, nb3_b8, nb3_b9, nb8_b2, nb8_b3, nb8_b9, nb9_b2, nb9_b3, nb9_b8, nv2, mv2, m0_, m1_, sub_set, sub_killAll, hsub]
    refine EWzp_pure (w_attribute_system_c1 rx1.1.high _ hrx3) ?_
    simp (maxDischargeDepth := 12) [go_sem, f17, f18, f19, f2, f3, f5, f6, f7, f8, f9, gb2, gb3, gb8, gb9, nb2_0, nb2_1, nb3_0, nb3_1, nb8_0, nb8_1, nb9_0, nb9_1, nb2_b3, nb2_b8, nb2_b9, nb3_b2, nb3_b8, nb3_b9, nb8_b2, nb8_b3, nb8_b9, nb9_b2, nb9_b3, nb9_b8, nv2, mv2, m0_, m1_, sub_set, sub_killAll, hsub]
    refine (hM _ _).2 ⟨AV.arr (τ4.next + 1) 0 a1.length 5, ?_, ?_, ?_, ?_, ?_, ?_, ?_, ?_, ?_, by intro j hj; have hj_ := hK j hj; simp [go_sem, hj_.1, hj_.2, show ¬ j = τ4.next by omega, show ¬ j = τ4.next + 1 by omega], by first | omega | (simp [go_sem]; done) | (simp [go_sem]; omega), by simp (disch := omega) [get_alloc_ne, get_set_ne, get_kill_ne, go_sem, f17, f18, f19, f2, f3, f5, f6, f7, f8, f9, gb2, gb3, gb8, gb9, nb2_0, nb2_1, nb3_0, nb3_1, nb8_0, nb8_1, nb9_0, nb9_1, nb2_b3, nb2_b8, nb2_b9, nb3_b2, nb3_b8, nb3_b9, nb8_b2, nb8_b3, nb8_b9, nb9_b2, nb9_b3, nb9_b8, nv2, mv2, m0_, m1_, sub_set, sub_killAll, hsub, ea1], by first | omega | (simp [go_sem]; done) | (simp [go_sem]; omega), by simp (disch := omega) [get_alloc_ne, get_set_ne, get_kill_ne, go_sem, f17, f18, f19, f2, f3, f5, f6, f7, f8, f9, gb2, gb3, gb8, gb9, nb2_0, nb2_1, nb3_0, nb3_1, nb8_0, nb8_1, nb9_0, nb9_1, nb2_b3, nb2_b8, nb2_b9, nb3_b2, nb3_b8, nb3_b9, nb8_b2, nb8_b3, nb8_b9, nb9_b2, nb9_b3, nb9_b8, nv2, mv2, m0_, m1_, sub_set, sub_killAll, hsub, ea1], by first | omega | (simp [go_sem]; done) | (simp [go_sem]; omega), by simp (disch := omega) [get_alloc_ne, get_set_ne, get_kill_ne, go_sem, f17, f18, f19, f2, f3, f5, f6, f7, f8, f9, gb2, gb3, gb8, gb9, nb2_0, nb2_1, nb3_0, nb3_1, nb8_0, nb8_1, nb9_0, nb9_1, nb2_b3, nb2_b8, nb2_b9, nb3_b2, nb3_b8, nb3_b9, nb8_b2, nb8_b3, nb8_b9, nb9_b2, nb9_b3, nb9_b8, nv2, mv2, m0_, m1_, sub_set, sub_killAll, hsub, ea1], by first | omega | (simp [go_sem]; done) | (simp [go_sem]; omega), .inr ⟨(τ4.next + 1), rfl, by simp (disch := omega) [get_alloc_ne, get_set_ne, get_kill_ne, go_sem, f17, f18, f19, f2, f3, f5, f6, f7, f8, f9, gb2, gb3, gb8, gb9, nb2_0, nb2_1, nb3_0, nb3_1, nb8_0, nb8_1, nb9_0, nb9_1, nb2_b3, nb2_b8, nb2_b9, nb3_b2, nb3_b8, nb3_b9, nb8_b2, nb8_b3, nb8_b9, nb9_b2, nb9_b3, nb9_b8, nv2, mv2, m0_, m1_, sub_set, sub_killAll, hsub, ea1, GTestC], by simp [go_sem, f17, f18, f19, f2, f3, f5, f6, f7, f8, f9, gb2, gb3, gb8, gb9, nb2_0, nb2_1, nb3_0, nb3_1, nb8_0, nb8_1, nb9_0, nb9_1, nb2_b3, nb2_b8, nb2_b9, nb3_b2, nb3_b8, nb3_b9, nb8_b2, nb8_b3, nb8_b9, nb9_b2, nb9_b3, nb9_b8, nv2, mv2, m0_, m1_, sub_set, sub_killAll, hsub, ea1], by omega, by first | (simp [go_sem]; done) | (simp [go_sem]; omega)⟩, by intro i hi; first | (simp [idOf] at hi; done) | (simp [idOf] at hi; omega), by intro i hi; first | (simp [idOf] at hi; done) | (simp [idOf] at hi; omega), by intro i hi; first | (simp [idOf] at hi; done) | (simp [idOf] at hi; omega)⟩ <;> simp [go_sem, f17, f18, f19, f2, f3, f5, f6, f7, f8, f9, gb2, gb3, gb8, gb9, nb2_0, nb2_1, nb3_0, nb3_1, nb8_0, nb8_1, nb9_0, nb9_1, nb2_b3, nb2_b8, nb2_b9, nb3_b2, nb3_b8, nb3_b9, nb8_b2, nb8_b3, nb8_b9, nb9_b2, nb9_b3, nb9_b8, nv2, mv2, m0_, m1_, sub_set, sub_killAll, hsub, ea1]
   ·have Lv2 : (a.flatMap GTestC).length = a.length * 5 := length_flatMap (f := GTestC) (sz := 5) (fun _ => rfl) _
    have nv2_0 : ¬ ov2 = τ4.next := by omega
    have nv2_1 : ¬ ov2 = τ4.next + 1 := by omega
    have nv2_b2 : ¬ ov2 = b2 := ev2b2 _ rfl
    have nb2_v2 : ¬ b2 = ov2 := fun e => ev2b2 _ rfl e.symm
    have nv2_b3 : ¬ ov2 = b3 := ev2b3 _ rfl
    have nb3_v2 : ¬ b3 = ov2 := fun e => ev2b3 _ rfl e.symm
    have nv2_b8 : ¬ ov2 = b8 := ev2b8 _ rfl
    have nb8_v2 : ¬ b8 = ov2 := fun e => ev2b8 _ rfl e.symm
    have nv2_b9 : ¬ ov2 = b9 := ev2b9 _ rfl
    have nb9_v2 : ¬ b9 = ov2 := fun e => ev2b9 _ rfl e.symm
    have ca1_0 : a.length ≤ 9223372036854775805 := by have c_ := la1; (try simp at c_); omega
    have ca1_1 : (a.length + 2) * 40 ≤ 140737488355328 := by have c_ := la1; (try simp at c_); omega
    refine EW_regionY (τ4.kill ov2) 18 (.q false 0 (.q false 1 (.q false 2 (.q false 3 (.q false 5 (.q false 6 (.q false 8 (.q false 9 (.q false 10 (.q false 11 (.q false 12 (.q true 4 (.q false 7 (.q true 13 (.q false 14 (.s 15 (.s 16 (.q false 17 .done)))))))))))))))))) (by kernel_rfl) (by kernel_rfl) (sub_kill ov2 (fun _ _ h => h)) (fun hfin => ?_)
    have m0_ : τ4.get (τ4.next) = none := hfin _ (by omega)
    have m1_ : τ4.get (τ4.next + 1) = none := hfin _ (by omega)
    have hsub : Sub (τ4.kill ov2) τ4 := (sub_kill ov2 (fun _ _ h => h))
    simp (maxDischargeDepth := 12) [go_sem, f17, f18, f19, f2, f3, f5, f6, f7, f8, f9, gb2, gb3, gb8, gb9, nb2_0, nb2_1, nb3_0, nb3_1, nb8_0, nb8_1, nb9_0, nb9_1, nb2_b3, nb2_b8, nb2_b9, nb3_b2, nb3_b8, nb3_b9, nb8_b2, nb8_b3, nb8_b9, nb9_b2, nb9_b3, nb9_b8, gov2, tov2, Lv2, nv2_0, nv2_1, nv2_b2, nb2_v2, nv2_b3, nb3_v2, nv2_b8, nb8_v2, nv2_b9, nb9_v2, ca1_0, ca1_1, m0_, m1_, sub_set, sub_killAll, hsub]
    refine EWzp_pure (w_attribute_system_c1 rx1.1.low _ hrx2) ?_
    simp (maxDischargeDepth := 12) [go_sem, f17, f18, f19, f2, f3, f5, f6, f7, f8, f9, gb2, gb3, gb8, gb9, nb2_0, nb2_1, nb3_0, nb3_1, nb8_0, nb8_1, nb9_0, nb9_1, nb2_b3, nb2_b8, nb2_b9, nb3_b2, nb3_b8, nb3_b9, nb8_b2, nb8_b3, nb8_b9, nb9_b2, nb9_b3, nb9_b8, gov2, tov2, Lv2, nv2_0, nv2_1, nv2_b2, nb2_v2, nv2_b3, nb3_v2, nv2_b8, nb8_v2, nv2_b9, nb9_v2, ca1_0, ca1_1, m0_, m1_, sub_set, sub_killAll, hsub]
    refine EWzp_pure (w_attribute_system_c1 rx1.1.high _ hrx3) ?_
    simp (maxDischargeDepth := 12) [go_sem, f17, f18, f19, f2, f3, f5, f6, f7, f8, f9, gb2, gb3, gb8, gb9, nb2_0, nb2_1, nb3_0, nb3_1, nb8_0, nb8_1, nb9_0, nb9_1, nb2_b3, nb2_b8, nb2_b9, nb3_b2, nb3_b8, nb3_b9, nb8_b2, nb8_b3, nb8_b9, nb9_b2, nb9_b3, nb9_b8, gov2, tov2, Lv2, nv2_0, nv2_1, nv2_b2, nb2_v2, nv2_b3, nb3_v2, nv2_b8, nb8_v2, nv2_b9, nb9_v2, ca1_0, ca1_1, m0_, m1_, sub_set, sub_killAll, hsub]
    refine (hM _ _).2 ⟨AV.arr (τ4.next + 1) 0 a1.length 5, ?_, ?_, ?_, ?_, ?_, ?_, ?_, ?_, ?_, by intro j hj; have hj_ := hK j hj; simp [go_sem, hj_.1, hj_.2, show ¬ j = τ4.next by omega, show ¬ j = τ4.next + 1 by omega, show ¬ j = ov2 by omega], by first | omega | (simp [go_sem]; done) | (simp [go_sem]; omega), by simp (disch := omega) [get_alloc_ne, get_set_ne, get_kill_ne, go_sem, f17, f18, f19, f2, f3, f5, f6, f7, f8, f9, gb2, gb3, gb8, gb9, nb2_0, nb2_1, nb3_0, nb3_1, nb8_0, nb8_1, nb9_0, nb9_1, nb2_b3, nb2_b8, nb2_b9, nb3_b2, nb3_b8, nb3_b9, nb8_b2, nb8_b3, nb8_b9, nb9_b2, nb9_b3, nb9_b8, gov2, tov2, Lv2, nv2_0, nv2_1, nv2_b2, nb2_v2, nv2_b3, nb3_v2, nv2_b8, nb8_v2, nv2_b9, nb9_v2, ca1_0, ca1_1, m0_, m1_, sub_set, sub_killAll, hsub, ea1], by first | omega | (simp [go_sem]; done) | (simp [go_sem]; omega), by simp (disch := omega) [get_alloc_ne, get_set_ne, get_kill_ne, go_sem, f17, f18, f19, f2, f3, f5, f6, f7, f8, f9, gb2, gb3, gb8, gb9, nb2_0, nb2_1, nb3_0, nb3_1, nb8_0, nb8_1, nb9_0, nb9_1, nb2_b3, nb2_b8, nb2_b9, nb3_b2, nb3_b8, nb3_b9, nb8_b2, nb8_b3, nb8_b9, nb9_b2, nb9_b3, nb9_b8, gov2, tov2, Lv2, nv2_0, nv2_1, nv2_b2, nb2_v2, nv2_b3, nb3_v2, nv2_b8, nb8_v2, nv2_b9, nb9_v2, ca1_0, ca1_1, m0_, m1_, sub_set, sub_killAll, hsub, ea1], by first | omega | (simp [go_sem]; done) | (simp [go_sem]; omega), by simp (disch := omega) [get_alloc_ne, get_set_ne, get_kill_ne, go_sem, f17, f18, f19, f2, f3, f5, f6, f7, f8, f9, gb2, gb3, gb8, gb9, nb2_0, nb2_1, nb3_0, nb3_1, nb8_0, nb8_1, nb9_0, nb9_1, nb2_b3, nb2_b8, nb2_b9, nb3_b2, nb3_b8, nb3_b9, nb8_b2, nb8_b3, nb8_b9, nb9_b2, nb9_b3, nb9_b8, gov2, tov2, Lv2, nv2_0, nv2_1, nv2_b2, nb2_v2, nv2_b3, nb3_v2, nv2_b8, nb8_v2, nv2_b9, nb9_v2, ca1_0, ca1_1, m0_, m1_, sub_set, sub_killAll, hsub, ea1], by first | omega | (simp [go_sem]; done) | (simp [go_sem]; omega), .inr ⟨(τ4.next + 1), rfl, by simp (disch := omega) [get_alloc_ne, get_set_ne, get_kill_ne, go_sem, f17, f18, f19, f2, f3, f5, f6, f7, f8, f9, gb2, gb3, gb8, gb9, nb2_0, nb2_1, nb3_0, nb3_1, nb8_0, nb8_1, nb9_0, nb9_1, nb2_b3, nb2_b8, nb2_b9, nb3_b2, nb3_b8, nb3_b9, nb8_b2, nb8_b3, nb8_b9, nb9_b2, nb9_b3, nb9_b8, gov2, tov2, Lv2, nv2_0, nv2_1, nv2_b2, nb2_v2, nv2_b3, nb3_v2, nv2_b8, nb8_v2, nv2_b9, nb9_v2, ca1_0, ca1_1, m0_, m1_, sub_set, sub_killAll, hsub, ea1, GTestC], by simp [go_sem, f17, f18, f19, f2, f3, f5, f6, f7, f8, f9, gb2, gb3, gb8, gb9, nb2_0, nb2_1, nb3_0, nb3_1, nb8_0, nb8_1, nb9_0, nb9_1, nb2_b3, nb2_b8, nb2_b9, nb3_b2, nb3_b8, nb3_b9, nb8_b2, nb8_b3, nb8_b9, nb9_b2, nb9_b3, nb9_b8, gov2, tov2, Lv2, nv2_0, nv2_1, nv2_b2, nb2_v2, nv2_b3, nb3_v2, nv2_b8, nb8_v2, nv2_b9, nb9_v2, ca1_0, ca1_1, m0_, m1_, sub_set, sub_killAll, hsub, ea1], by omega, by first | (simp [go_sem]; done) | (simp [go_sem]; omega)⟩, by intro i hi; first | (simp [idOf] at hi; done) | (simp [idOf] at hi; omega), by intro i hi; first | (simp [idOf] at hi; done) | (simp [idOf] at hi; omega), by intro i hi; first | (simp [idOf] at hi; done) | (simp [idOf] at hi; omega)⟩ <;> simp [go_sem, f17, f18, f19, f2, f3, f5, f6, f7, f8, f9, gb2, gb3, gb8, gb9, nb2_0, nb2_1, nb3_0, nb3_1, nb8_0, nb8_1, nb9_0, nb9_1, nb2_b3, nb2_b8, nb2_b9, nb3_b2, nb3_b8, nb3_b9, nb8_b2, nb8_b3, nb8_b9, nb9_b2, nb9_b3, nb9_b8, gov2, tov2, Lv2, nv2_0, nv2_1, nv2_b2, nb2_v2, nv2_b3, nb3_v2, nv2_b8, nb8_v2, nv2_b9, nb9_v2, ca1_0, ca1_1, m0_, m1_, sub_set, sub_killAll, hsub, ea1]
  clear f17 f18 f19 f2 f3 f5 f6 f7 f8 f9 hK hN gb2 ub2 gb3 ub3 gb8 ub8 gb9 ub9 av2
  obtain ⟨v3, f2, f3, f5, f6, f7, f8, f17, f18, f19, hK, hN, gb2, ub2, gb3, ub3, gb8, ub8, av3, ev3b2, ev3b3, ev3b8⟩ := hm
  refine SW.seq ?_
  refine SW.regX (fun f_ t_ => τ5 = t_ ∧ f_ 2 = AV.ptr b2 0 ∧ f_ 3 = AV.ptr b3 0 ∧ f_ 5 = v3 ∧ f_ 6 = AV.fn 96 [] ∧ f_ 8 = AV.ptr b8 0 ∧ f_ 11 = AV.int ((IntKind.i64.wrap (((k : Nat) : Int) - 1))) ∧ f_ 17 = sl_GSlot (o.slots) ∧ f_ 18 = AV.int (((o.slots.length : Nat) : Int)) ∧ f_ 19 = AV.int (((k : Nat) : Int))) (fun M hM => ?_) (fun fr10 τz3 hm => ?_)
  ·simp [go_sem, f17, f18, f19, f2, f3, f5, f6, f7, f8, gb2, gb3, gb8]
   refine (hM _ _).2 ⟨rfl, ?_, ?_, ?_, ?_, ?_, ?_, ?_, ?_, ?_⟩ <;> simp [go_sem, f17, f18, f19, f2, f3, f5, f6, f7, f8, gb2, gb3, gb8]
  clear f17 f18 f19 f2 f3 f5 f6 f7 f8
  obtain ⟨rfl, f2, f3, f5, f6, f8, f11, f17, f18, f19⟩ := hm
  obtain ⟨oi1, hruni1, hoi1⟩ := obind hbi
  obtain ⟨KLi1, hKLi1⟩ : ∃ KL : Fr → Mem → Prop, ∀ fr' τ', KL fr' τ' ↔ (∃ a2 : List GTest, ∃ t11 : Int, ∃ v4 : AV, oi1 = .done (a2, t11) ∧ fr' 2 = AV.ptr b2 0 ∧ fr' 3 = AV.ptr b3 0 ∧ fr' 5 = v4 ∧ fr' 6 = AV.fn 96 [] ∧ fr' 17 = sl_GSlot (o.slots) ∧ fr' 18 = AV.int (((o.slots.length : Nat) : Int)) ∧ fr' 19 = AV.int (((k : Nat) : Int)) ∧ Kept σ0 τ' ∧ σ0.next ≤ τ'.next ∧ τ'.get b2 = some [nodesA (t.nodes), edgesA (t.edges)] ∧ b2 < τ'.next ∧ τ'.get b3 = some [intsA (o.graph.nodes), e3sA (o.graph.edges), sl_GSlot (o.slots), AV.int (o.vars), sl_GTest (o.tests)] ∧ b3 < τ'.next ∧ ArrAt σ0.next τ' v4 86 (a2.flatMap GTestC) a2.length 5 ∧ (∀ i, idOf v4 = some i → ¬ i = b2) ∧ (∀ i, idOf v4 = some i → ¬ i = b3)) := ⟨_, fun _ _ => Iff.rfl⟩
  refine SW.cut KLi1 ?_ ?_
  ·refine SW.block ?_
   obtain ⟨Ji1, hJi1⟩ : ∃ J : Nat → Fr → Mem → Prop, ∀ m_ fr' τ', J m_ fr' τ' ↔ (∃ a2 : List GTest, ∃ t11 : Int, ∃ v4 : AV, whileG (b2_attribute_system o x) m_ (a2, t11) = some oi1 ∧ fr' 2 = AV.ptr b2 0 ∧ fr' 3 = AV.ptr b3 0 ∧ fr' 5 = v4 ∧ fr' 6 = AV.fn 96 [] ∧ fr' 8 = AV.ptr b8 0 ∧ fr' 11 = AV.int (t11) ∧ fr' 17 = sl_GSlot (o.slots) ∧ fr' 18 = AV.int (((o.slots.length : Nat) : Int)) ∧ fr' 19 = AV.int (((k : Nat) : Int)) ∧ Kept σ0 τ' ∧ σ0.next ≤ τ'.next ∧ τ'.get b2 = some [nodesA (t.nodes), edgesA (t.edges)] ∧ b2 < τ'.next ∧ τ'.get b3 = some [intsA (o.graph.nodes), e3sA (o.graph.edges), sl_GSlot (o.slots), AV.int (o.vars), sl_GTest (o.tests)] ∧ b3 < τ'.next ∧ τ'.get b8 = some [AV.int (x.node), AV.int (x.attr), AV.int (x.term.var), AV.int (x.term.add)] ∧ b8 < τ'.next ∧ ArrAt σ0.next τ' v4 86 (a2.flatMap GTestC) a2.length 5 ∧ (∀ i, idOf v4 = some i → ¬ i = b2) ∧ (∀ i, idOf v4 = some i → ¬ i = b3) ∧ (∀ i, idOf v4 = some i → ¬ i = b8)) := ⟨_, fun _ _ _ => Iff.rfl⟩
   refine SW.loop Ji1 F ((hJi1 _ _ _).2 ⟨a1, (IntKind.i64.wrap (((k : Nat) : Int) - 1)), v3, hruni1, f2, f3, f5, f6, f8, f11, f17, f18, f19, hK, hN, gb2, ub2, gb3, ub3, gb8, ub8, av3, ev3b2, ev3b3, ev3b8⟩) ?_
   clear hruni1
   intro m_ fr11 τ6 hm
   rw [hJi1] at hm
   clear f11 f17 f18 f19 f2 f3 f5 f6 f8 hK hN gb2 ub2 gb3 ub3 gb8 ub8 av3
   obtain ⟨a2, t11, v4, hruni1, f2, f3, f5, f6, f8, f11, f17, f18, f19, hK, hN, gb2, ub2, gb3, ub3, gb8, ub8, av4, ev4b2, ev4b3, ev4b8⟩ := hm
   obtain ⟨F', ci1, rfl, hbi1, hci1⟩ := whileG_step hruni1
   simp only [b2_attribute_system] at hbi1
   refine SW.seq ?_
   refine SW.seq ?_
   refine SW.regX (fun f_ t_ => τ6 = t_ ∧ f_ 2 = AV.ptr b2 0 ∧ f_ 3 = AV.ptr b3 0 ∧ f_ 5 = v4 ∧ f_ 6 = AV.fn 96 [] ∧ f_ 8 = AV.ptr b8 0 ∧ f_ 11 = AV.int (t11) ∧ f_ 17 = sl_GSlot (o.slots) ∧ f_ 18 = AV.int (((o.slots.length : Nat) : Int)) ∧ f_ 19 = AV.int (((k : Nat) : Int)) ∧ f_ 51 = AV.bool ((decide (0 ≤ t11)))) (fun M hM => ?_) (fun fr12 τz4 hm => ?_)
   ·simp [go_sem, f11, f17, f18, f19, f2, f3, f5, f6, f8, gb2, gb3, gb8]
    refine (hM _ _).2 ⟨rfl, ?_, ?_, ?_, ?_, ?_, ?_, ?_, ?_, ?_, ?_⟩ <;> simp [go_sem, f11, f17, f18, f19, f2, f3, f5, f6, f8, gb2, gb3, gb8]
   clear f11 f17 f18 f19 f2 f3 f5 f6 f8
   obtain ⟨rfl, f2, f3, f5, f6, f8, f11, f17, f18, f19, f51⟩ := hm
   refine SW.cond _ f51 (fun vh1 => ?_) (fun vh1 => ?_)
   ·have hbi1 := condT hbi1 vh1
    refine SW.skip ?_
    refine SW.seq ?_
    refine SW.block ?_
    refine SW.seq ?_
    obtain ⟨x1, hx1, hbi1⟩ := obind hbi1
    have xpx1 := getI_pos hx1
    have xlx1 := getI_lt hx1
    have xix1 := getI_N hx1
    have xdx1 := getN_flat GSlotC 4 (fun _ => rfl) xix1
    refine SW.regX (fun f_ t_ => ∃ b12 : Nat, f_ 2 = AV.ptr b2 0 ∧ f_ 3 = AV.ptr b3 0 ∧ f_ 5 = v4 ∧ f_ 6 = AV.fn 96 [] ∧ f_ 8 = AV.ptr b8 0 ∧ f_ 11 = AV.int (t11) ∧ f_ 12 = AV.ptr b12 0 ∧ f_ 17 = sl_GSlot (o.slots) ∧ f_ 18 = AV.int (((o.slots.length : Nat) : Int)) ∧ f_ 19 = AV.int (((k : Nat) : Int)) ∧ Kept σ0 t_ ∧ σ0.next ≤ t_.next ∧ t_.get b2 = some [nodesA (t.nodes), edgesA (t.edges)] ∧ b2 < t_.next ∧ t_.get b3 = some [intsA (o.graph.nodes), e3sA (o.graph.edges), sl_GSlot (o.slots), AV.int (o.vars), sl_GTest (o.tests)] ∧ b3 < t_.next ∧ t_.get b8 = some [AV.int (x.node), AV.int (x.attr), AV.int (x.term.var), AV.int (x.term.add)] ∧ b8 < t_.next ∧ t_.get b12 = some [AV.int (x1.node), AV.int (x1.attr), AV.int (x1.term.var), AV.int (x1.term.add)] ∧ b12 < t_.next ∧ ArrAt σ0.next t_ v4 86 (a2.flatMap GTestC) a2.length 5 ∧ σ0.next ≤ b12 ∧ ¬ b2 = b12 ∧ ¬ b3 = b12 ∧ ¬ b8 = b12 ∧ (∀ i, idOf v4 = some i → ¬ i = b12)) (fun M hM => ?_) (fun fr13 τ7 hm => ?_)
    ·have nb2_0 : ¬ b2 = τ6.next := by omega
     have nb3_0 : ¬ b3 = τ6.next := by omega
     have nb8_0 : ¬ b8 = τ6.next := by omega
     simp [go_sem, f11, f17, f18, f19, f2, f3, f5, f51, f6, f8, gb2, gb3, gb8, xpx1, xlx1, xdx1, GSlotC, nb2_0, nb3_0, nb8_0]
     refine (hM _ _).2 ⟨τ6.next, ?_, ?_, ?_, ?_, ?_, ?_, ?_, ?_, ?_, ?_, by intro j hj; have hj_ := hK j hj; simp [go_sem, hj_.1, hj_.2, show ¬ j = τ6.next by omega], by first | omega | (simp [go_sem]; done) | (simp [go_sem]; omega), by simp (disch := omega) [get_alloc_ne, get_set_ne, get_kill_ne, go_sem, f11, f17, f18, f19, f2, f3, f5, f51, f6, f8, gb2, gb3, gb8, xpx1, xlx1, xdx1, GSlotC, nb2_0, nb3_0, nb8_0], by first | omega | (simp [go_sem]; done) | (simp [go_sem]; omega), by simp (disch := omega) [get_alloc_ne, get_set_ne, get_kill_ne, go_sem, f11, f17, f18, f19, f2, f3, f5, f51, f6, f8, gb2, gb3, gb8, xpx1, xlx1, xdx1, GSlotC, nb2_0, nb3_0, nb8_0], by first | omega | (simp [go_sem]; done) | (simp [go_sem]; omega), by simp (disch := omega) [get_alloc_ne, get_set_ne, get_kill_ne, go_sem, f11, f17, f18, f19, f2, f3, f5, f51, f6, f8, gb2, gb3, gb8, xpx1, xlx1, xdx1, GSlotC, nb2_0, nb3_0, nb8_0], by first | omega | (simp [go_sem]; done) | (simp [go_sem]; omega), by simp (disch := omega) [get_alloc_ne, get_set_ne, get_kill_ne, go_sem, f11, f17, f18, f19, f2, f3, f5, f51, f6, f8, gb2, gb3, gb8, xpx1, xlx1, xdx1, GSlotC, nb2_0, nb3_0, nb8_0], by first | omega | (simp [go_sem]; done) | (simp [go_sem]; omega), av4.same' (by simp [go_sem]; try omega) (fun i hi => by have zl := arrAt_lt av4 i hi; have zi0 : ¬ i = τ6.next := (by omega); constructor <;> simp [go_sem, zi0]), by omega, by omega, by omega, by omega, by first | exact ev4b12 | (intro i hi; have := arrAt_lt av4 i hi; omega)⟩ <;> simp [go_sem, f11, f17, f18, f19, f2, f3, f5, f51, f6, f8, gb2, gb3, gb8, xpx1, xlx1, xdx1, GSlotC, nb2_0, nb3_0, nb8_0]
    clear f11 f17 f18 f19 f2 f3 f5 f51 f6 f8 hK hN gb2 ub2 gb3 ub3 gb8 ub8 av4
    obtain ⟨b12, f2, f3, f5, f6, f8, f11, f12, f17, f18, f19, hK, hN, gb2, ub2, gb3, ub3, gb8, ub8, gb12, ub12, av4, wb12, eb2b12, eb3b12, eb8b12, ev4b12⟩ := hm
    refine SW.seq ?_
    refine SW.regX (fun f_ t_ => τ7 = t_ ∧ f_ 2 = AV.ptr b2 0 ∧ f_ 3 = AV.ptr b3 0 ∧ f_ 5 = v4 ∧ f_ 6 = AV.fn 96 [] ∧ f_ 8 = AV.ptr b8 0 ∧ f_ 11 = AV.int (t11) ∧ f_ 12 = AV.ptr b12 0 ∧ f_ 17 = sl_GSlot (o.slots) ∧ f_ 18 = AV.int (((o.slots.length : Nat) : Int)) ∧ f_ 19 = AV.int (((k : Nat) : Int)) ∧ f_ 70 = AV.bool ((((decide (x1.node = x.node))) && ((decide (x1.attr = x.attr)))))) (fun M hM => ?_) (fun fr14 τz5 hm => ?_)
    ·rcases Bool.eq_false_or_eq_true ((decide (x1.node = x.node))) with y0 | y0
     ·have y0' := y0
      try simp at y0'
      simp [go_sem, f11, f12, f17, f18, f19, f2, f3, f5, f6, f8, gb2, gb3, gb8, gb12, y0, y0']
      refine (hM _ _).2 ⟨rfl, ?_, ?_, ?_, ?_, ?_, ?_, ?_, ?_, ?_, ?_, ?_⟩ <;> simp [go_sem, f11, f12, f17, f18, f19, f2, f3, f5, f6, f8, gb2, gb3, gb8, gb12, y0, y0']
     ·have y0' := y0
      try simp at y0'
      simp [go_sem, f11, f12, f17, f18, f19, f2, f3, f5, f6, f8, gb2, gb3, gb8, gb12, y0, y0']
      refine (hM _ _).2 ⟨rfl, ?_, ?_, ?_, ?_, ?_, ?_, ?_, ?_, ?_, ?_, ?_⟩ <;> simp [go_sem, f11, f12, f17, f18, f19, f2, f3, f5, f6, f8, gb2, gb3, gb8, gb12, y0, y0']
    clear f11 f12 f17 f18 f19 f2 f3 f5 f6 f8
    obtain ⟨rfl, f2, f3, f5, f6, f8, f11, f12, f17, f18, f19, f70⟩ := hm
    refine SW.cond _ f70 (fun vh2 => ?_) (fun vh2 => ?_)
    ·have hbi1 := condT hbi1 vh2
     refine SW.seq ?_
     obtain ⟨a3, ha3, hbi1⟩ := obind hbi1
     obtain ⟨la3, ea3⟩ := catL_spec ha3
     refine SW.regX (fun f_ t_ => ∃ v5 : AV, f_ 2 = AV.ptr b2 0 ∧ f_ 3 = AV.ptr b3 0 ∧ f_ 5 = v5 ∧ f_ 6 = AV.fn 96 [] ∧ f_ 17 = sl_GSlot (o.slots) ∧ f_ 18 = AV.int (((o.slots.length : Nat) : Int)) ∧ f_ 19 = AV.int (((k : Nat) : Int)) ∧ Kept σ0 t_ ∧ σ0.next ≤ t_.next ∧ t_.get b2 = some [nodesA (t.nodes), edgesA (t.edges)] ∧ b2 < t_.next ∧ t_.get b3 = some [intsA (o.graph.nodes), e3sA (o.graph.edges), sl_GSlot (o.slots), AV.int (o.vars), sl_GTest (o.tests)] ∧ b3 < t_.next ∧ ArrAt σ0.next t_ v5 86 (a3.flatMap GTestC) a3.length 5 ∧ (∀ i, idOf v5 = some i → ¬ i = b2) ∧ (∀ i, idOf v5 = some i → ¬ i = b3)) (fun M hM => ?_) (fun fr15 τ8 hm => ?_)
     ·have nb2_0 : ¬ b2 = τ7.next := by omega
      have nb2_1 : ¬ b2 = τ7.next + 1 := by omega
      have nb3_0 : ¬ b3 = τ7.next := by omega
      have nb3_1 : ¬ b3 = τ7.next + 1 := by omega
      have nb8_0 : ¬ b8 = τ7.next := by omega
      have nb8_1 : ¬ b8 = τ7.next + 1 := by omega
      have nb12_0 : ¬ b12 = τ7.next := by omega
      have nb12_1 : ¬ b12 = τ7.next + 1 := by omega
      have zv4 := av4
      rcases zv4 with ⟨rfl, nv4, mv4⟩ | ⟨ov4, rfl, gov4, tov4, lov4, hiv4⟩
      ·simp [go_sem, f11, f12, f17, f18, f19, f2, f3, f5, f6, f70, f8, gb2, gb3, gb8, gb12, nb2_0, nb2_1, nb3_0, nb3_1, nb8_0, nb8_1, nb12_0, nb12_1, nv4, mv4]
       refine (hM _ _).2 ⟨AV.arr (τ7.next + 1) 0 a3.length 5, ?_, ?_, ?_, ?_, ?_, ?_, ?_, by intro j hj; have hj_ := hK j hj; simp [go_sem, hj_.1, hj_.2, show ¬ j = τ7.next by omega, show ¬ j = τ7.next + 1 by omega], by first | omega | (simp [go_sem]; done) | (simp [go_sem]; omega), by simp (disch := omega) [get_alloc_ne, get_set_ne, get_kill_ne, go_sem, f11, f12, f17, f18, f19, f2, f3, f5, f6, f70, f8, gb2, gb3, gb8, gb12, nb2_0, nb2_1, nb3_0, nb3_1, nb8_0, nb8_1, nb12_0, nb12_1, nv4, mv4, ea3], by first | omega | (simp [go_sem]; done) | (simp [go_sem]; omega), by simp (disch := omega) [get_alloc_ne, get_set_ne, get_kill_ne, go_sem, f11, f12, f17, f18, f19, f2, f3, f5, f6, f70, f8, gb2, gb3, gb8, gb12, nb2_0, nb2_1, nb3_0, nb3_1, nb8_0, nb8_1, nb12_0, nb12_1, nv4, mv4, ea3], by first | omega | (simp [go_sem]; done) | (simp [go_sem]; omega), .inr ⟨(τ7.next + 1), rfl, by simp (disch := omega) [get_alloc_ne, get_set_ne, get_kill_ne, go_sem, f11, f12, f17, f18, f19, f2, f3, f5, f6, f70, f8, gb2, gb3, gb8, gb12, nb2_0, nb2_1, nb3_0, nb3_1, nb8_0, nb8_1, nb12_0, nb12_1, nv4, mv4, ea3, GTestC], by simp [go_sem, f11, f12, f17, f18, f19, f2, f3, f5, f6, f70, f8, gb2, gb3, gb8, gb12, nb2_0, nb2_1, nb3_0, nb3_1, nb8_0, nb8_1, nb12_0, nb12_1, nv4, mv4, ea3], by omega, by first | (simp [go_sem]; done) | (simp [go_sem]; omega)⟩, by intro i hi; first | (simp [idOf] at hi; done) | (simp [idOf] at hi; omega), by intro i hi; first | (simp [idOf] at hi; done) | (simp [idOf] at hi; omega)⟩ <;> simp [go_sem, f11, f12, f17, f18, f19, f2, f3, f5, f6, f70, f8, gb2, gb3, gb8, gb12, nb2_0, nb2_1, nb3_0, nb3_1, nb8_0, nb8_1, nb12_0, nb12_1, nv4, mv4, ea3]
      ·have Lv4 : (a2.flatMap GTestC).length = a2.length * 5 := length_flatMap (f := GTestC) (sz := 5) (fun _ => rfl) _
       have nv4_0 : ¬ ov4 = τ7.next := by omega
       have nv4_1 : ¬ ov4 = τ7.next + 1 := by omega
       have nv4_b2 : ¬ ov4 = b2 := ev4b2 _ rfl
       have nb2_v4 : ¬ b2 = ov4 := fun e => ev4b2 _ rfl e.symm
       have nv4_b3 : ¬ ov4 = b3 := ev4b3 _ rfl
       have nb3_v4 : ¬ b3 = ov4 := fun e => ev4b3 _ rfl e.symm
       have nv4_b8 : ¬ ov4 = b8 := ev4b8 _ rfl
       have nb8_v4 : ¬ b8 = ov4 := fun e => ev4b8 _ rfl e.symm
       have nv4_b12 : ¬ ov4 = b12 := ev4b12 _ rfl
       have nb12_v4 : ¬ b12 = ov4 := fun e => ev4b12 _ rfl e.symm
       have ca3_0 : a2.length ≤ 9223372036854775806 := by have c_ := la3; (try simp at c_); omega
       have ca3_1 : (a2.length + 1) * 40 ≤ 140737488355328 := by have c_ := la3; (try simp at c_); omega
       simp [go_sem, f11, f12, f17, f18, f19, f2, f3, f5, f6, f70, f8, gb2, gb3, gb8, gb12, nb2_0, nb2_1, nb3_0, nb3_1, nb8_0, nb8_1, nb12_0, nb12_1, gov4, tov4, Lv4, nv4_0, nv4_1, nv4_b2, nb2_v4, nv4_b3, nb3_v4, nv4_b8, nb8_v4, nv4_b12, nb12_v4, ca3_0, ca3_1]
       refine (hM _ _).2 ⟨AV.arr (τ7.next + 1) 0 a3.length 5, ?_, ?_, ?_, ?_, ?_, ?_, ?_, by intro j hj; have hj_ := hK j hj; simp [go_sem, hj_.1, hj_.2, show ¬ j = τ7.next by omega, show ¬ j = τ7.next + 1 by omega, show ¬ j = ov4 by omega], by first | omega | (simp [go_sem]; done) | (simp [go_sem]; omega), by simp (disch := omega) [get_alloc_ne, get_set_ne, get_kill_ne, go_sem, f11, f12, f17, f18, f19, f2, f3, f5, f6, f70, f8, gb2, gb3, gb8, gb12, nb2_0, nb2_1, nb3_0, nb3_1, nb8_0, nb8_1, nb12_0, nb12_1, gov4, tov4, Lv4, nv4_0, nv4_1, nv4_b2, nb2_v4, nv4_b3, nb3_v4, nv4_b8, nb8_v4, nv4_b12, nb12_v4, ca3_0, ca3_1, ea3], by first | omega | (simp [go_sem]; done) | (simp [go_sem]; omega), by simp (disch := omega) [get_alloc_ne, get_set_ne, get_kill_ne, go_sem, f11, f12, f17, f18, f19, f2, f3, f5, f6, f70, f8, gb2, gb3, gb8, gb12, nb2_0, nb2_1, nb3_0, nb3_1, nb8_0, nb8_1, nb12_0, nb12_1, gov4, tov4, Lv4, nv4_0, nv4_1, nv4_b2, nb2_v4, nv4_b3, nb3_v4, nv4_b8, nb8_v4, nv4_b12, nb12_v4, ca3_0, ca3_1, ea3], by first | omega | (simp [go_sem]; done) | (simp [go_sem]; omega), .inr ⟨(τ7.next + 1), rfl, by simp (disch := omega) [get_alloc_ne, get_set_ne, get_kill_ne, go_sem, f11, f12, f17, f18, f19, f2, f3, f5, f6, f70, f8, gb2, gb3, gb8, gb12, nb2_0, nb2_1, nb3_0, nb3_1, nb8_0, nb8_1, nb12_0, nb12_1, gov4, tov4, Lv4, nv4_0, nv4_1, nv4_b2, nb2_v4, nv4_b3, nb3_v4, nv4_b8, nb8_v4, nv4_b12, nb12_v4, ca3_0, ca3_1, ea3, GTestC], by simp [go_sem, f11, f12, f17, f18, f19, f2, f3, f5, f6, f70, f8, gb2, gb3, gb8, gb12, nb2_0, nb2_1, nb3_0, nb3_1, nb8_0, nb8_1, nb12_0, nb12_1, gov4, tov4, Lv4, nv4_0, nv4_1, nv4_b2, nb2_v4, nv4_b3, nb3_v4, nv4_b8, nb8_v4, nv4_b12, nb12_v4, ca3_0, ca3_1, ea3], by omega, by first | (simp [go_sem]; done) | (simp [go_sem]; omega)⟩, by intro i hi; first | (simp [idOf] at hi; done) | (simp [idOf] at hi; omega), by intro i hi; first | (simp [idOf] at hi; done) | (simp [idOf] at hi; omega)⟩ <;> simp [go_sem, f11, f12, f17, f18, f19, f2, f3, f5, f6, f70, f8, gb2, gb3, gb8, gb12, nb2_0, nb2_1, nb3_0, nb3_1, nb8_0, nb8_1, nb12_0, nb12_1, gov4, tov4, Lv4, nv4_0, nv4_1, nv4_b2, nb2_v4, nv4_b3, nb3_v4, nv4_b8, nb8_v4, nv4_b12, nb12_v4, ca3_0, ca3_1, ea3]
     clear f11 f12 f17 f18 f19 f2 f3 f5 f6 f70 f8 hK hN gb2 ub2 gb3 ub3 gb8 ub8 gb12 ub12 av4
     obtain ⟨v5, f2, f3, f5, f6, f17, f18, f19, hK, hN, gb2, ub2, gb3, ub3, av5, ev5b2, ev5b3⟩ := hm
     refine SW.exit rfl ?_
     obtain rfl := Option.some.inj hbi1
     exact SW.goal ((hKLi1 _ _).2 ⟨a3, t11, v5, (Option.some.inj hci1).symm, f2, f3, f5, f6, f17, f18, f19, hK, hN, gb2, ub2, gb3, ub3, av5, ev5b2, ev5b3⟩)
    have hbi1 := condF hbi1 vh2
    refine SW.skip ?_
    refine SW.blk ?_
    refine SW.regX (fun f_ t_ => τ7 = t_ ∧ f_ 2 = AV.ptr b2 0 ∧ f_ 3 = AV.ptr b3 0 ∧ f_ 5 = v4 ∧ f_ 6 = AV.fn 96 [] ∧ f_ 8 = AV.ptr b8 0 ∧ f_ 11 = AV.int ((IntKind.i64.wrap (t11 - 1))) ∧ f_ 17 = sl_GSlot (o.slots) ∧ f_ 18 = AV.int (((o.slots.length : Nat) : Int)) ∧ f_ 19 = AV.int (((k : Nat) : Int))) (fun M hM => ?_) (fun fr16 τz6 hm => ?_)
    ·simp [go_sem, f11, f12, f17, f18, f19, f2, f3, f5, f6, f70, f8, gb2, gb3, gb8, gb12]
     refine (hM _ _).2 ⟨rfl, ?_, ?_, ?_, ?_, ?_, ?_, ?_, ?_, ?_⟩ <;> simp [go_sem, f11, f12, f17, f18, f19, f2, f3, f5, f6, f70, f8, gb2, gb3, gb8, gb12]
    clear f11 f12 f17 f18 f19 f2 f3 f5 f6 f70 f8
    obtain ⟨rfl, f2, f3, f5, f6, f8, f11, f17, f18, f19⟩ := hm
    obtain rfl := Option.some.inj hbi1
    exact SW.goal ⟨_, Nat.lt_succ_self _, (hJi1 _ _ _).2 ⟨a2, (IntKind.i64.wrap (t11 - 1)), v4, hci1, f2, f3, f5, f6, f8, f11, f17, f18, f19, hK, hN, gb2, ub2, gb3, ub3, gb8, ub8, av4, ev4b2, ev4b3, ev4b8⟩⟩
   have hbi1 := condF hbi1 vh1
   refine SW.exit rfl ?_
   obtain rfl := Option.some.inj hbi1
   exact SW.goal ((hKLi1 _ _).2 ⟨a2, t11, v4, (Option.some.inj hci1).symm, f2, f3, f5, f6, f17, f18, f19, hK, hN, gb2, ub2, gb3, ub3, av4, ev4b2, ev4b3⟩)
  intro fr17 τ9 hm
  rw [hKLi1] at hm
  clear hKLi1 hruni1
  clear f11 f17 f18 f19 f2 f3 f5 f6 f8 hK hN gb2 ub2 gb3 ub3 gb8 ub8 av3
  obtain ⟨a2, t11, v4, rfl, f2, f3, f5, f6, f17, f18, f19, hK, hN, gb2, ub2, gb3, ub3, av4, ev4b2, ev4b3⟩ := hm
  simp only [Out.on] at hoi1
  refine SW.blk ?_
  refine SW.regX (fun f_ t_ => τ9 = t_ ∧ f_ 2 = AV.ptr b2 0 ∧ f_ 3 = AV.ptr b3 0 ∧ f_ 5 = v4 ∧ f_ 6 = AV.fn 96 [] ∧ f_ 17 = sl_GSlot (o.slots) ∧ f_ 18 = AV.int (((o.slots.length : Nat) : Int)) ∧ f_ 19 = AV.int (((k + 1 : Nat) : Int))) (fun M hM => ?_) (fun fr18 τz7 hm => ?_)
  ·simp [go_sem, f17, f18, f19, f2, f3, f5, f6, gb2, gb3, hwk]
   refine (hM _ _).2 ⟨rfl, ?_, ?_, ?_, ?_, ?_, ?_, ?_⟩ <;> simp [go_sem, f17, f18, f19, f2, f3, f5, f6, gb2, gb3, hwk]
  clear f17 f18 f19 f2 f3 f5 f6
  obtain ⟨rfl, f2, f3, f5, f6, f17, f18, f19⟩ := hm
  obtain rfl := Option.some.inj hoi1
  exact SW.goal ⟨o.slots.length - (k + 1), by omega, (hJi _ _ _).2 ⟨k + 1, a2, v4, rfl, hci, f2, f3, f5, f6, f17, f18, f19, hK, hN, gb2, ub2, gb3, ub3, av4, ev4b2, ev4b3⟩⟩
 intro fr19 τ10 hm
 rw [hKLi] at hm
 clear hKLi hruni
 clear f17 f18 f19 f2 f3 f5 f6 hK hN gb2 ub2 gb3 ub3 av1
 obtain ⟨a, v2, rfl, f5, hK, hN, av2⟩ := hm
 simp only [Out.on] at hoi
 refine SW.seq ?_
 refine SW.regX (fun f_ t_ => τ10 = t_ ∧ f_ 4 = v2) (fun M hM => ?_) (fun fr20 τz8 hm => ?_)
 ·simp [go_sem, f5]
  refine (hM _ _).2 ⟨rfl, ?_⟩ <;> simp [go_sem, f5]
 clear f5
 obtain ⟨rfl, f4⟩ := hm
 obtain rfl := Option.some.inj hoi
 exact SW.ret ⟨v2, by simp [go_sem, f4], ⟨v2, rfl, av2⟩, hK, hN⟩
theorem w_attribute_system (F : Nat) (t : Types) (o : GPattern) (r : ((List GTest))) (h : s_attribute_system F t o = some r) : PureA Tryz.prog 45 [AV.agg [nodesA (t.nodes), edgesA (t.edges)], AV.agg [intsA (o.graph.nodes), e3sA (o.graph.edges), sl_GSlot (o.slots), AV.int (o.vars), sl_GTest (o.tests)]] (sl_GTest (r)) := pureA_of_own' (O := O_attribute_system r) (fun σ0 => o_attribute_system F t o r h σ0) (by rintro n x τ ⟨v0_, hx, av0_⟩; rw [hx]; exact av0_.frz (DataL.flatMap gd_GTestC r))
def O_difference_arcs (r : ((List Gdifference_arc))) (n : Nat) (x : AV) (τ : Mem) : Prop := ∃ v0_ : AV, x = v0_ ∧ ArrAt n τ v0_ 155 (r.flatMap Gdifference_arcC) r.length 5
set_option maxHeartbeats 4000000 in
theorem o_difference_arcs (l : List GTest) (r : ((List Gdifference_arc))) (h : s_difference_arcs l = some r) (σ0 : Mem) : CallA Tryz.prog 90 [sl_GTest (l)] σ0 (fun x τ => O_difference_arcs r σ0.next x τ ∧ Kept σ0 τ ∧ σ0.next ≤ τ.next) := by
 refine callA_of_SW (N := 54) Tryz.func90 (by kernel_rfl) rfl (by rw [Tryz.ntmps90]; rfl) ?_
 rw [Tryz.results90]
 obtain ⟨fr0, hfr⟩ : ∃ fr, fr = initFr [sl_GTest (l)] := ⟨_, rfl⟩
 rw [← hfr]
 have f0 : fr0 0 = sl_GTest (l) := by rw [hfr]; rfl
 clear hfr
 simp only [s_difference_arcs] at h
 refine SW.seq ?_
 refine SW.regX (fun f_ t_ => σ0 = t_ ∧ f_ 0 = sl_GTest (l)) (fun M hM => ?_) (fun fr1 τz hm => ?_)
 ·simp [go_sem, f0]
  refine (hM _ _).2 ⟨rfl, ?_⟩ <;> simp [go_sem, f0]
 clear f0
 obtain ⟨rfl, f0⟩ := hm
 refine SW.seq ?_
 refine SW.regX (fun f_ t_ => σ0 = t_ ∧ f_ 0 = sl_GTest (l) ∧ f_ 3 = AV.nils) (fun M hM => ?_) (fun fr2 τz1 hm => ?_)
 ·simp [go_sem, f0]
  refine (hM _ _).2 ⟨rfl, ?_, ?_⟩ <;> simp [go_sem, f0]
 clear f0
 obtain ⟨rfl, f0, f3⟩ := hm
 refine SW.seq ?_
 refine SW.seq ?_
 refine SW.regX (fun f_ t_ => σ0 = t_ ∧ f_ 3 = AV.nils ∧ f_ 7 = sl_GTest (l) ∧ f_ 8 = AV.int (((l.length : Nat) : Int)) ∧ f_ 9 = AV.int (0)) (fun M hM => ?_) (fun fr3 τz2 hm => ?_)
 ·simp [go_sem, f0, f3]
  refine (hM _ _).2 ⟨rfl, ?_, ?_, ?_, ?_⟩ <;> simp [go_sem, f0, f3]
 clear f0 f3
 obtain ⟨rfl, f3, f7, f8, f9⟩ := hm
 obtain ⟨oi, hruni, hoi⟩ := obind h
 refine SW.len 7 f7 (fun hbigi => ?_)
 obtain ⟨KLi, hKLi⟩ : ∃ KL : Fr → Mem → Prop, ∀ fr' τ', KL fr' τ' ↔ (∃ out : List Gdifference_arc, ∃ v : AV, oi = .done out ∧ fr' 3 = v ∧ Kept σ0 τ' ∧ σ0.next ≤ τ'.next ∧ ArrAt σ0.next τ' v 155 (out.flatMap Gdifference_arcC) out.length 5) := ⟨_, fun _ _ => Iff.rfl⟩
 refine SW.cut KLi ?_ ?_
 ·refine SW.block ?_
  obtain ⟨Ji, hJi⟩ : ∃ J : Nat → Fr → Mem → Prop, ∀ m_ fr' τ', J m_ fr' τ' ↔ (∃ k : Nat, ∃ out : List Gdifference_arc, ∃ v : AV, m_ = l.length - k ∧ forN (b1_difference_arcs l) (l.length - k) k out = some oi ∧ fr' 3 = v ∧ fr' 7 = sl_GTest (l) ∧ fr' 8 = AV.int (((l.length : Nat) : Int)) ∧ fr' 9 = AV.int (((k : Nat) : Int)) ∧ Kept σ0 τ' ∧ σ0.next ≤ τ'.next ∧ ArrAt σ0.next τ' v 155 (out.flatMap Gdifference_arcC) out.length 5) := ⟨_, fun _ _ _ => Iff.rfl⟩
  refine SW.loop Ji (l.length - 0) ((hJi _ _ _).2 ⟨0, ([] : List Gdifference_arc), AV.nils, rfl, hruni, f3, f7, f8, f9, Kept.refl _, Nat.le_refl _, .inl ⟨rfl, rfl, rfl⟩⟩) ?_
  clear hruni
  intro m_ fr4 τ hm
  rw [hJi] at hm
  clear f3 f7 f8 f9
  obtain ⟨k, out, v, rfl, hruni, f3, f7, f8, f9, hK, hN, av⟩ := hm
  refine SW.seq ?_
  refine SW.regX (fun f_ t_ => τ = t_ ∧ f_ 3 = v ∧ f_ 7 = sl_GTest (l) ∧ f_ 8 = AV.int (((l.length : Nat) : Int)) ∧ f_ 9 = AV.int (((k : Nat) : Int)) ∧ f_ 10 = AV.bool ((decide (k < l.length)))) (fun M hM => ?_) (fun fr5 τz3 hm => ?_)
  ·simp [go_sem, f3, f7, f8, f9]
   refine (hM _ _).2 ⟨rfl, ?_, ?_, ?_, ?_, ?_⟩ <;> simp [go_sem, f3, f7, f8, f9]
  clear f3 f7 f8 f9
  obtain ⟨rfl, f3, f7, f8, f9, f10⟩ := hm
  refine SW.seq ?_
  refine SW.cond _ f10 (fun vh => ?_) (fun vh => ?_)
  rotate_left
  ·have hk : ¬ k < l.length := by have := of_decide_eq_false vh; omega
   refine SW.exit rfl ?_
   exact SW.goal ((hKLi _ _).2 ⟨out, v, forN_end hruni hk, f3, hK, hN, av⟩)
  have hkk : k < l.length := by have := of_decide_eq_true vh; omega
  have hwk : IntKind.i64.wrap ((k : Int) + 1) = ((k + 1 : Nat) : Int) := by rw [wrap64_of _ (by omega) (by omega)]; rfl
  obtain ⟨ci, hbi, hci⟩ := forN_step hruni hkk
  simp only [b1_difference_arcs] at hbi
  refine SW.skip ?_
  refine SW.seq ?_
  refine SW.block ?_
  refine SW.seq ?_
  obtain ⟨x, hx, hbi⟩ := obind hbi
  have xlx := getN_lt hx
  have xdx := getN_flat GTestC 5 (fun _ => rfl) hx
  refine SW.regX (fun f_ t_ => ∃ b5 : Nat, f_ 3 = v ∧ f_ 4 = AV.int (((k : Nat) : Int)) ∧ f_ 5 = AV.ptr b5 0 ∧ f_ 7 = sl_GTest (l) ∧ f_ 8 = AV.int (((l.length : Nat) : Int)) ∧ f_ 9 = AV.int (((k : Nat) : Int)) ∧ Kept σ0 t_ ∧ σ0.next ≤ t_.next ∧ t_.get b5 = some [AV.int (x.kind), AV.int (x.left.var), AV.int (x.left.add), AV.int (x.right.var), AV.int (x.right.add)] ∧ b5 < t_.next ∧ ArrAt σ0.next t_ v 155 (out.flatMap Gdifference_arcC) out.length 5 ∧ σ0.next ≤ b5 ∧ (∀ i, idOf v = some i → ¬ i = b5)) (fun M hM => ?_) (fun fr6 τ1 hm => ?_)
  ·simp [go_sem, f10, f3, f7, f8, f9, xlx, xdx, GTestC]
   refine (hM _ _).2 ⟨τ.next, ?_, ?_, ?_, ?_, ?_, ?_, by intro j hj; have hj_ := hK j hj; simp [go_sem, hj_.1, hj_.2, show ¬ j = τ.next by omega], by first | omega | (simp [go_sem]; done) | (simp [go_sem]; omega), by simp (disch := omega) [get_alloc_ne, get_set_ne, get_kill_ne, go_sem, f10, f3, f7, f8, f9, xlx, xdx, GTestC], by first | omega | (simp [go_sem]; done) | (simp [go_sem]; omega), av.same' (by simp [go_sem]; try omega) (fun i hi => by have zl := arrAt_lt av i hi; have zi0 : ¬ i = τ.next := (by omega); constructor <;> simp [go_sem, zi0]), by omega, by first | exact evb5 | (intro i hi; have := arrAt_lt av i hi; omega)⟩ <;> simp [go_sem, f10, f3, f7, f8, f9, xlx, xdx, GTestC]
  clear f10 f3 f7 f8 f9 hK hN av
  obtain ⟨b5, f3, f4, f5, f7, f8, f9, hK, hN, gb5, ub5, av, wb5, evb5⟩ := hm
  refine SW.seq ?_
  refine SW.regX (fun f_ t_ => ∃ b6 : Nat, f_ 3 = v ∧ f_ 4 = AV.int (((k : Nat) : Int)) ∧ f_ 5 = AV.ptr b5 0 ∧ f_ 6 = AV.ptr b6 0 ∧ f_ 7 = sl_GTest (l) ∧ f_ 8 = AV.int (((l.length : Nat) : Int)) ∧ f_ 9 = AV.int (((k : Nat) : Int)) ∧ Kept σ0 t_ ∧ σ0.next ≤ t_.next ∧ t_.get b5 = some [AV.int (x.kind), AV.int (x.left.var), AV.int (x.left.add), AV.int (x.right.var), AV.int (x.right.add)] ∧ b5 < t_.next ∧ t_.get b6 = some [AV.int (((k : Nat) : Int)), AV.int (1), AV.int ((IntKind.i64.wrap (x.left.var + 1))), AV.int ((IntKind.i64.wrap (x.right.var + 1))), AV.int ((IntKind.i64.wrap (x.right.add - x.left.add)))] ∧ b6 < t_.next ∧ ArrAt σ0.next t_ v 155 (out.flatMap Gdifference_arcC) out.length 5 ∧ σ0.next ≤ b6 ∧ ¬ b5 = b6 ∧ (∀ i, idOf v = some i → ¬ i = b6)) (fun M hM => ?_) (fun fr7 τ2 hm => ?_)
  ·have nb5_0 : ¬ b5 = τ1.next := by omega
   simp [go_sem, f3, f4, f5, f7, f8, f9, gb5, nb5_0]
   refine (hM _ _).2 ⟨τ1.next, ?_, ?_, ?_, ?_, ?_, ?_, ?_, by intro j hj; have hj_ := hK j hj; simp [go_sem, hj_.1, hj_.2, show ¬ j = τ1.next by omega], by first | omega | (simp [go_sem]; done) | (simp [go_sem]; omega), by simp (disch := omega) [get_alloc_ne, get_set_ne, get_kill_ne, go_sem, f3, f4, f5, f7, f8, f9, gb5, nb5_0], by first | omega | (simp [go_sem]; done) | (simp [go_sem]; omega), by simp (disch := omega) [get_alloc_ne, get_set_ne, get_kill_ne, go_sem, f3, f4, f5, f7, f8, f9, gb5, nb5_0], by first | omega | (simp [go_sem]; done) | (simp [go_sem]; omega), av.same' (by simp [go_sem]; try omega) (fun i hi => by have zl := arrAt_lt av i hi; have zi0 : ¬ i = τ1.next := (by omega); constructor <;> simp [go_sem, zi0]), by omega, by omega, by first | exact evb6 | (intro i hi; have := arrAt_lt av i hi; omega)⟩ <;> simp [go_sem, f3, f4, f5, f7, f8, f9, gb5, nb5_0]
  clear f3 f4 f5 f7 f8 f9 hK hN gb5 ub5 av
  obtain ⟨b6, f3, f4, f5, f6, f7, f8, f9, hK, hN, gb5, ub5, gb6, ub6, av, wb6, eb5b6, evb6⟩ := hm
  refine SW.seq ?_
  obtain ⟨a, ha, hbi⟩ := obind hbi
  obtain ⟨la, ea⟩ := catL_spec ha
  refine SW.regX (fun f_ t_ => ∃ v1 : AV, f_ 3 = v1 ∧ f_ 4 = AV.int (((k : Nat) : Int)) ∧ f_ 5 = AV.ptr b5 0 ∧ f_ 6 = AV.ptr b6 0 ∧ f_ 7 = sl_GTest (l) ∧ f_ 8 = AV.int (((l.length : Nat) : Int)) ∧ f_ 9 = AV.int (((k : Nat) : Int)) ∧ Kept σ0 t_ ∧ σ0.next ≤ t_.next ∧ t_.get b5 = some [AV.int (x.kind), AV.int (x.left.var), AV.int (x.left.add), AV.int (x.right.var), AV.int (x.right.add)] ∧ b5 < t_.next ∧ t_.get b6 = some [AV.int (((k : Nat) : Int)), AV.int (1), AV.int ((IntKind.i64.wrap (x.left.var + 1))), AV.int ((IntKind.i64.wrap (x.right.var + 1))), AV.int ((IntKind.i64.wrap (x.right.add - x.left.add)))] ∧ b6 < t_.next ∧ ArrAt σ0.next t_ v1 155 (a.flatMap Gdifference_arcC) a.length 5 ∧ (∀ i, idOf v1 = some i → ¬ i = b5) ∧ (∀ i, idOf v1 = some i → ¬ i = b6)) (fun M hM => ?_) (fun fr8 τ3 hm => ?_)
  ·have nb5_0 : ¬ b5 = τ2.next := by omega
   have nb5_1 : ¬ b5 = τ2.next + 1 := by omega
   have nb6_0 : ¬ b6 = τ2.next := by omega
   have nb6_1 : ¬ b6 = τ2.next + 1 := by omega
   have zv := av
   rcases zv with ⟨rfl, nv, mv⟩ | ⟨ov, rfl, gov, tov, lov, hiv⟩
   ·simp [go_sem, f3, f4, f5, f6, f7, f8, f9, gb5, gb6, nb5_0, nb5_1, nb6_0, nb6_1, nv, mv]
    refine (hM _ _).2 ⟨AV.arr (τ2.next + 1) 0 a.length 5, ?_, ?_, ?_, ?_, ?_, ?_, ?_, by intro j hj; have hj_ := hK j hj; simp [go_sem, hj_.1, hj_.2, show ¬ j = τ2.next by omega, show ¬ j = τ2.next + 1 by omega], by first | omega | (simp [go_sem]; done) | (simp [go_sem]; omega), by simp (disch := omega) [get_alloc_ne, get_set_ne, get_kill_ne, go_sem, f3, f4, f5, f6, f7, f8, f9, gb5, gb6, nb5_0, nb5_1, nb6_0, nb6_1, nv, mv, ea], by first | omega | (simp [go_sem]; done) | (simp [go_sem]; omega), by simp (disch := omega) [get_alloc_ne, get_set_ne, get_kill_ne, go_sem, f3, f4, f5, f6, f7, f8, f9, gb5, gb6, nb5_0, nb5_1, nb6_0, nb6_1, nv, mv, ea], by first | omega | (simp [go_sem]; done) | (simp [go_sem]; omega), .inr ⟨(τ2.next + 1), rfl, by simp (disch := omega) [get_alloc_ne, get_set_ne, get_kill_ne, go_sem, f3, f4, f5, f6, f7, f8, f9, gb5, gb6, nb5_0, nb5_1, nb6_0, nb6_1, nv, mv, ea, Gdifference_arcC], by simp [go_sem, f3, f4, f5, f6, f7, f8, f9, gb5, gb6, nb5_0, nb5_1, nb6_0, nb6_1, nv, mv, ea], by omega, by first | (simp [go_sem]; done) | (simp [go_sem]; omega)⟩, by intro i hi; first | (simp [idOf] at hi; done) | (simp [idOf] at hi; omega), by intro i hi; first | (simp [idOf] at hi; done) | (simp [idOf] at hi; omega)⟩ <;> simp [go_sem, f3, f4, f5, f6, f7, f8, f9, gb5, gb6, nb5_0, nb5_1, nb6_0, nb6_1, nv, mv, ea]
   ·have Lv : (out.flatMap Gdifference_arcC).length = out.length * 5 := length_flatMap (f := Gdifference_arcC) (sz := 5) (fun _ => rfl) _
    have nv_0 : ¬ ov = τ2.next := by omega
    have nv_1 : ¬ ov = τ2.next + 1 := by omega
    have nv_b5 : ¬ ov = b5 := evb5 _ rfl
    have nb5_v : ¬ b5 = ov := fun e => evb5 _ rfl e.symm
    have nv_b6 : ¬ ov = b6 := evb6 _ rfl
    have nb6_v : ¬ b6 = ov := fun e => evb6 _ rfl e.symm
    have ca_0 : out.length ≤ 9223372036854775806 := by have c_ := la; (try simp at c_); omega
    have ca_1 : (out.length + 1) * 40 ≤ 140737488355328 := by have c_ := la; (try simp at c_); omega
    simp [go_sem, f3, f4, f5, f6, f7, f8, f9, gb5, gb6, nb5_0, nb5_1, nb6_0, nb6_1, gov, tov, Lv, nv_0, nv_1, nv_b5, nb5_v, nv_b6, nb6_v, ca_0, ca_1]
    refine (hM _ _).2 ⟨AV.arr (τ2.next + 1) 0 a.length 5, ?_, ?_, ?_, ?_, ?_, ?_, ?_, by intro j hj; have hj_ := hK j hj; simp [go_sem, hj_.1, hj_.2, show ¬ j = τ2.next by omega, show ¬ j = τ2.next + 1 by omega, show ¬ j = ov by omega], by first | omega | (simp [go_sem]; done) | (simp [go_sem]; omega), by simp (disch := omega) [get_alloc_ne, get_set_ne, get_kill_ne, go_sem, f3, f4, f5, f6, f7, f8, f9, gb5, gb6, nb5_0, nb5_1, nb6_0, nb6_1, gov, tov, Lv, nv_0, nv_1, nv_b5, nb5_v, nv_b6, nb6_v, ca_0, ca_1, ea], by first | omega | (simp [go_sem]; done) | (simp [go_sem]; omega), by simp (disch := omega) [get_alloc_ne, get_set_ne, get_kill_ne, go_sem, f3, f4, f5, f6, f7, f8, f9, gb5, gb6, nb5_0, nb5_1, nb6_0, nb6_1, gov, tov, Lv, nv_0, nv_1, nv_b5, nb5_v, nv_b6, nb6_v, ca_0, ca_1, ea], by first | omega | (simp [go_sem]; done) | (simp [go_sem]; omega), .inr ⟨(τ2.next + 1), rfl, by simp (disch := omega) [get_alloc_ne, get_set_ne, get_kill_ne, go_sem, f3, f4, f5, f6, f7, f8, f9, gb5, gb6, nb5_0, nb5_1, nb6_0, nb6_1, gov, tov, Lv, nv_0, nv_1, nv_b5, nb5_v, nv_b6, nb6_v, ca_0, ca_1, ea, Gdifference_arcC], by simp [go_sem, f3, f4, f5, f6, f7, f8, f9, gb5, gb6, nb5_0, nb5_1, nb6_0, nb6_1, gov, tov, Lv, nv_0, nv_1, nv_b5, nb5_v, nv_b6, nb6_v, ca_0, ca_1, ea], by omega, by first | (simp [go_sem]; done) | (simp [go_sem]; omega)⟩, by intro i hi; first | (simp [idOf] at hi; done) | (simp [idOf] at hi; omega), by intro i hi; first | (simp [idOf] at hi; done) | (simp [idOf] at hi; omega)⟩ <;> simp [go_sem, f3, f4, f5, f6, f7, f8, f9, gb5, gb6, nb5_0, nb5_1, nb6_0, nb6_1, gov, tov, Lv, nv_0, nv_1, nv_b5, nb5_v, nv_b6, nb6_v, ca_0, ca_1, ea]
  clear f3 f4 f5 f6 f7 f8 f9 hK hN gb5 ub5 gb6 ub6 av
  obtain ⟨v1, f3, f4, f5, f6, f7, f8, f9, hK, hN, gb5, ub5, gb6, ub6, av1, ev1b5, ev1b6⟩ := hm
  refine SW.seq ?_
  refine SW.regX (fun f_ t_ => τ3 = t_ ∧ f_ 3 = v1 ∧ f_ 4 = AV.int (((k : Nat) : Int)) ∧ f_ 6 = AV.ptr b6 0 ∧ f_ 7 = sl_GTest (l) ∧ f_ 8 = AV.int (((l.length : Nat) : Int)) ∧ f_ 9 = AV.int (((k : Nat) : Int)) ∧ f_ 38 = AV.bool ((decide (x.kind = 2)))) (fun M hM => ?_) (fun fr9 τz4 hm => ?_)
  ·simp [go_sem, f3, f4, f5, f6, f7, f8, f9, gb5, gb6]
   refine (hM _ _).2 ⟨rfl, ?_, ?_, ?_, ?_, ?_, ?_, ?_⟩ <;> simp [go_sem, f3, f4, f5, f6, f7, f8, f9, gb5, gb6]
  clear f3 f4 f5 f6 f7 f8 f9
  obtain ⟨rfl, f3, f4, f6, f7, f8, f9, f38⟩ := hm
  refine SW.cond _ f38 (fun vh1 => ?_) (fun vh1 => ?_)
  ·have hbi := condT hbi vh1
   obtain ⟨a1, ha1, hbi⟩ := obind hbi
   obtain ⟨la1, ea1⟩ := catL_spec ha1
   refine SW.regX (fun f_ t_ => ∃ v2 : AV, f_ 3 = v2 ∧ f_ 7 = sl_GTest (l) ∧ f_ 8 = AV.int (((l.length : Nat) : Int)) ∧ f_ 9 = AV.int (((k : Nat) : Int)) ∧ Kept σ0 t_ ∧ σ0.next ≤ t_.next ∧ ArrAt σ0.next t_ v2 155 (a1.flatMap Gdifference_arcC) a1.length 5) (fun M hM => ?_) (fun fr10 τ4 hm => ?_)
   ·have nb6_0 : ¬ b6 = τ3.next := by omega
    have nb6_1 : ¬ b6 = τ3.next + 1 := by omega
    have zv1 := av1
    rcases zv1 with ⟨rfl, nv1, mv1⟩ | ⟨ov1, rfl, gov1, tov1, lov1, hiv1⟩
    ·simp [go_sem, f3, f38, f4, f6, f7, f8, f9, gb6, nb6_0, nb6_1, nv1, mv1]
     refine (hM _ _).2 ⟨AV.arr (τ3.next + 1) 0 a1.length 5, ?_, ?_, ?_, ?_, by intro j hj; have hj_ := hK j hj; simp [go_sem, hj_.1, hj_.2, show ¬ j = τ3.next by omega, show ¬ j = τ3.next + 1 by omega], by first | omega | (simp [go_sem]; done) | (simp [go_sem]; omega), .inr ⟨(τ3.next + 1), rfl, by simp (disch := omega) [get_alloc_ne, get_set_ne, get_kill_ne, go_sem, f3, f38, f4, f6, f7, f8, f9, gb6, nb6_0, nb6_1, nv1, mv1, ea1, Gdifference_arcC], by simp [go_sem, f3, f38, f4, f6, f7, f8, f9, gb6, nb6_0, nb6_1, nv1, mv1, ea1], by omega, by first | (simp [go_sem]; done) | (simp [go_sem]; omega)⟩⟩ <;> simp [go_sem, f3, f38, f4, f6, f7, f8, f9, gb6, nb6_0, nb6_1, nv1, mv1, ea1]
    ·have Lv1 : (a.flatMap Gdifference_arcC).length = a.length * 5 := length_flatMap (f := Gdifference_arcC) (sz := 5) (fun _ => rfl) _
     have nv1_0 : ¬ ov1 = τ3.next := by omega
     have nv1_1 : ¬ ov1 = τ3.next + 1 := by omega
     have nv1_b6 : ¬ ov1 = b6 := ev1b6 _ rfl
     have nb6_v1 : ¬ b6 = ov1 := fun e => ev1b6 _ rfl e.symm
     have ca1_0 : a.length ≤ 9223372036854775806 := by have c_ := la1; (try simp at c_); omega
     have ca1_1 : (a.length + 1) * 40 ≤ 140737488355328 := by have c_ := la1; (try simp at c_); omega
     simp [go_sem, f3, f38, f4, f6, f7, f8, f9, gb6, nb6_0, nb6_1, gov1, tov1, Lv1, nv1_0, nv1_1, nv1_b6, nb6_v1, ca1_0, ca1_1]
     refine (hM _ _).2 ⟨AV.arr (τ3.next + 1) 0 a1.length 5, ?_, ?_, ?_, ?_, by intro j hj; have hj_ := hK j hj; simp [go_sem, hj_.1, hj_.2, show ¬ j = τ3.next by omega, show ¬ j = τ3.next + 1 by omega, show ¬ j = ov1 by omega], by first | omega | (simp [go_sem]; done) | (simp [go_sem]; omega), .inr ⟨(τ3.next + 1), rfl, by simp (disch := omega) [get_alloc_ne, get_set_ne, get_kill_ne, go_sem, f3, f38, f4, f6, f7, f8, f9, gb6, nb6_0, nb6_1, gov1, tov1, Lv1, nv1_0, nv1_1, nv1_b6, nb6_v1, ca1_0, ca1_1, ea1, Gdifference_arcC], by simp [go_sem, f3, f38, f4, f6, f7, f8, f9, gb6, nb6_0, nb6_1, gov1, tov1, Lv1, nv1_0, nv1_1, nv1_b6, nb6_v1, ca1_0, ca1_1, ea1], by omega, by first | (simp [go_sem]; done) | (simp [go_sem]; omega)⟩⟩ <;> simp [go_sem, f3, f38, f4, f6, f7, f8, f9, gb6, nb6_0, nb6_1, gov1, tov1, Lv1, nv1_0, nv1_1, nv1_b6, nb6_v1, ca1_0, ca1_1, ea1]
   clear f3 f38 f4 f6 f7 f8 f9 hK hN gb6 ub6 av1
   obtain ⟨v2, f3, f7, f8, f9, hK, hN, av2⟩ := hm
   refine SW.blk ?_
   refine SW.regX (fun f_ t_ => τ4 = t_ ∧ f_ 3 = v2 ∧ f_ 7 = sl_GTest (l) ∧ f_ 8 = AV.int (((l.length : Nat) : Int)) ∧ f_ 9 = AV.int (((k + 1 : Nat) : Int))) (fun M hM => ?_) (fun fr11 τz5 hm => ?_)
   ·simp [go_sem, f3, f7, f8, f9, hwk]
    refine (hM _ _).2 ⟨rfl, ?_, ?_, ?_, ?_⟩ <;> simp [go_sem, f3, f7, f8, f9, hwk]
   clear f3 f7 f8 f9
   obtain ⟨rfl, f3, f7, f8, f9⟩ := hm
   obtain rfl := Option.some.inj hbi
   exact SW.goal ⟨l.length - (k + 1), by omega, (hJi _ _ _).2 ⟨k + 1, a1, v2, rfl, hci, f3, f7, f8, f9, hK, hN, av2⟩⟩
  have hbi := condF hbi vh1
  refine SW.skip ?_
  refine SW.blk ?_
  refine SW.regX (fun f_ t_ => τ3 = t_ ∧ f_ 3 = v1 ∧ f_ 7 = sl_GTest (l) ∧ f_ 8 = AV.int (((l.length : Nat) : Int)) ∧ f_ 9 = AV.int (((k + 1 : Nat) : Int))) (fun M hM => ?_) (fun fr12 τz6 hm => ?_)
  ·simp [go_sem, f3, f38, f4, f6, f7, f8, f9, gb6, hwk]
   refine (hM _ _).2 ⟨rfl, ?_, ?_, ?_, ?_⟩ <;> simp [go_sem, f3, f38, f4, f6, f7, f8, f9, gb6, hwk]
  clear f3 f38 f4 f6 f7 f8 f9
  obtain ⟨rfl, f3, f7, f8, f9⟩ := hm
  obtain rfl := Option.some.inj hbi
  exact SW.goal ⟨l.length - (k + 1), by omega, (hJi _ _ _).2 ⟨k + 1, a, v1, rfl, hci, f3, f7, f8, f9, hK, hN, av1⟩⟩
 intro fr13 τ5 hm
 rw [hKLi] at hm
 clear hKLi hruni
 clear f3 f7 f8 f9
 obtain ⟨out, v, rfl, f3, hK, hN, av⟩ := hm
 simp only [Out.on] at hoi
 refine SW.seq ?_
 refine SW.regX (fun f_ t_ => τ5 = t_ ∧ f_ 2 = v) (fun M hM => ?_) (fun fr14 τz7 hm => ?_)
 ·simp [go_sem, f3]
  refine (hM _ _).2 ⟨rfl, ?_⟩ <;> simp [go_sem, f3]
 clear f3
 obtain ⟨rfl, f2⟩ := hm
 obtain rfl := Option.some.inj hoi
 exact SW.ret ⟨v, by simp [go_sem, f2], ⟨v, rfl, av⟩, hK, hN⟩
theorem w_difference_arcs (l : List GTest) (r : ((List Gdifference_arc))) (h : s_difference_arcs l = some r) : PureA Tryz.prog 90 [sl_GTest (l)] (sl_Gdifference_arc (r)) := pureA_of_own' (O := O_difference_arcs r) (fun σ0 => o_difference_arcs l r h σ0) (by rintro n x τ ⟨v0_, hx, av0_⟩; rw [hx]; exact av0_.frz (DataL.flatMap gd_Gdifference_arcC r))
end Go.Proofs.YtippinddoldhkaaGreat
