/-
  Plain functions and the walks that lead to them, by a program of ours (gen.py): scarfjoint/attribute.Valid.
-/
import Derived.Test.YtippinddoldhkaaGreatGd
import Derived.Test.YtippinddoldhkaaGreatGT
import Derived.Test.YtippinddoldhkaaGreatB3
import Derived.Test.YtippinddoldhkaaGreatB7
import Derived.Test.YtippinddoldhkaaGreatGS
import Derived.Test.YtippinddoldhkaaGreatLg
import Derived.Test.YtippinddoldhkaaGreatGa2
import Derived.Test.YtippinddoldhkaaGreatGa1
import Derived.Test.YtippinddoldhkaaGreatGa3
set_option linter.unusedSimpArgs false
set_option linter.unusedVariables false
namespace Go.Proofs.YtippinddoldhkaaGreat
open Go Go.Ew Go.Proofs Go.RowKit
set_option maxRecDepth 100000
set_option maxHeartbeats 4000000 in
theorem w_attribute_Valid (t : Types) (o : GPattern) (r : (Int)) (h : s_attribute_Valid t o = some r) : PureA Tryz.prog 18 [AV.agg [nodesA (t.nodes), edgesA (t.edges)], AV.agg [intsA (o.graph.nodes), e3sA (o.graph.edges), sl_GSlot (o.slots), AV.int (o.vars), sl_GTest (o.tests)]] (AV.int (r)) := by
 refine pureA_of_SW (N := 110) Tryz.func18 (by kernel_rfl) rfl (by rw [Tryz.ntmps18]; rfl) (fun σ0 => ?_)
 rw [Tryz.results18]
 obtain ⟨fr0, hfr⟩ : ∃ fr, fr = initFr [AV.agg [nodesA (t.nodes), edgesA (t.edges)], AV.agg [intsA (o.graph.nodes), e3sA (o.graph.edges), sl_GSlot (o.slots), AV.int (o.vars), sl_GTest (o.tests)]] := ⟨_, rfl⟩
 rw [← hfr]
 have f0 : fr0 0 = AV.agg [nodesA (t.nodes), edgesA (t.edges)] := by rw [hfr]; rfl
 have f1 : fr0 1 = AV.agg [intsA (o.graph.nodes), e3sA (o.graph.edges), sl_GSlot (o.slots), AV.int (o.vars), sl_GTest (o.tests)] := by rw [hfr]; rfl
 clear hfr
 simp only [s_attribute_Valid] at h
 refine SW.seq ?_
 refine SW.regX (fun f_ t_ => ∃ b2 : Nat, ∃ b3 : Nat, f_ 2 = AV.ptr b2 0 ∧ f_ 3 = AV.ptr b3 0 ∧ Kept σ0 t_ ∧ σ0.next ≤ t_.next ∧ t_.get b2 = some [nodesA (t.nodes), edgesA (t.edges)] ∧ b2 < t_.next ∧ t_.get b3 = some [intsA (o.graph.nodes), e3sA (o.graph.edges), sl_GSlot (o.slots), AV.int (o.vars), sl_GTest (o.tests)] ∧ b3 < t_.next ∧ σ0.next ≤ b2 ∧ σ0.next ≤ b3 ∧ ¬ b2 = b3) (fun M hM => ?_) (fun fr1 τ hm => ?_)
 ·simp [go_sem, f0, f1]
  refine (hM _ _).2 ⟨σ0.next, (σ0.next + 1), ?_, ?_, by intro j hj; simp [go_sem, show ¬ j = σ0.next by omega, show ¬ j = σ0.next + 1 by omega], by first | omega | (simp [go_sem]; done) | (simp [go_sem]; omega), by simp (disch := omega) [get_alloc_ne, get_set_ne, get_kill_ne, go_sem, f0, f1], by first | omega | (simp [go_sem]; done) | (simp [go_sem]; omega), by simp (disch := omega) [get_alloc_ne, get_set_ne, get_kill_ne, go_sem, f0, f1], by first | omega | (simp [go_sem]; done) | (simp [go_sem]; omega), by omega, by omega, by omega⟩ <;> simp [go_sem, f0, f1]
 clear f0 f1
 obtain ⟨b2, b3, f2, f3, hK, hN, gb2, ub2, gb3, ub3, wb2, wb3, eb2b3⟩ := hm
 refine SW.seq ?_
 refine SW.seq ?_
 obtain ⟨rx, hrx, h⟩ := obind h
 refine SW.regX (fun f_ t_ => τ = t_ ∧ f_ 2 = AV.ptr b2 0 ∧ f_ 3 = AV.ptr b3 0 ∧ f_ 6 = AV.int (rx.2)) (fun M hM => ?_) (fun fr2 τz hm => ?_)
 ·simp [go_sem, f2, f3, gb2, gb3]
  refine EWcall_pure (w_types_Valid t _ hrx) ?_
  simp [go_sem, f2, f3, gb2, gb3]
  refine (hM _ _).2 ⟨rfl, ?_, ?_, ?_⟩ <;> simp [go_sem, f2, f3, gb2, gb3]
 clear f2 f3
 obtain ⟨rfl, f2, f3, f6⟩ := hm
 refine SW.seq ?_
 refine SW.regX (fun f_ t_ => τ = t_ ∧ f_ 2 = AV.ptr b2 0 ∧ f_ 3 = AV.ptr b3 0 ∧ f_ 6 = AV.int (rx.2) ∧ f_ 20 = AV.bool ((!decide (rx.2 = 0)))) (fun M hM => ?_) (fun fr3 τz1 hm => ?_)
 ·simp [go_sem, f2, f3, f6, gb2, gb3]
  refine (hM _ _).2 ⟨rfl, ?_, ?_, ?_, ?_⟩ <;> simp [go_sem, f2, f3, f6, gb2, gb3]
 clear f2 f3 f6
 obtain ⟨rfl, f2, f3, f6, f20⟩ := hm
 refine SW.cond _ f20 (fun vh => ?_) (fun vh => ?_)
 ·have h := condT h vh
  refine SW.seq ?_
  refine SW.regX (fun f_ t_ => τ = t_ ∧ f_ 4 = AV.int (rx.2)) (fun M hM => ?_) (fun fr4 τz2 hm => ?_)
  ·simp [go_sem, f2, f20, f3, f6, gb2, gb3]
   refine (hM _ _).2 ⟨rfl, ?_⟩ <;> simp [go_sem, f2, f20, f3, f6, gb2, gb3]
  clear f2 f20 f3 f6
  obtain ⟨rfl, f4⟩ := hm
  obtain rfl := Option.some.inj h
  exact SW.ret ⟨AV.int (rx.2), by simp [go_sem, f4], .lit _, hK.keeps⟩
 have h := condF h vh
 refine SW.skip ?_
 refine SW.seq ?_
 refine SW.seq ?_
 obtain ⟨n, hn, h⟩ := obind h
 refine SW.regX (fun f_ t_ => τ = t_ ∧ f_ 2 = AV.ptr b2 0 ∧ f_ 3 = AV.ptr b3 0 ∧ f_ 7 = AV.int (n)) (fun M hM => ?_) (fun fr5 τz3 hm => ?_)
 ·simp [go_sem, f2, f20, f3, f6, gb2, gb3]
  refine EWcall_pure (w_graph_Valid o.graph _ hn) ?_
  simp [go_sem, f2, f20, f3, f6, gb2, gb3]
  refine (hM _ _).2 ⟨rfl, ?_, ?_, ?_⟩ <;> simp [go_sem, f2, f20, f3, f6, gb2, gb3]
 clear f2 f20 f3 f6
 obtain ⟨rfl, f2, f3, f7⟩ := hm
 refine SW.seq ?_
 refine SW.regX (fun f_ t_ => τ = t_ ∧ f_ 2 = AV.ptr b2 0 ∧ f_ 3 = AV.ptr b3 0 ∧ f_ 7 = AV.int (n) ∧ f_ 26 = AV.bool ((!decide (n = 0)))) (fun M hM => ?_) (fun fr6 τz4 hm => ?_)
 ·simp [go_sem, f2, f3, f7, gb2, gb3]
  refine (hM _ _).2 ⟨rfl, ?_, ?_, ?_, ?_⟩ <;> simp [go_sem, f2, f3, f7, gb2, gb3]
 clear f2 f3 f7
 obtain ⟨rfl, f2, f3, f7, f26⟩ := hm
 refine SW.cond _ f26 (fun vh1 => ?_) (fun vh1 => ?_)
 ·have h := condT h vh1
  refine SW.seq ?_
  refine SW.regX (fun f_ t_ => τ = t_ ∧ f_ 4 = AV.int (n)) (fun M hM => ?_) (fun fr7 τz5 hm => ?_)
  ·simp [go_sem, f2, f26, f3, f7, gb2, gb3]
   refine (hM _ _).2 ⟨rfl, ?_⟩ <;> simp [go_sem, f2, f26, f3, f7, gb2, gb3]
  clear f2 f26 f3 f7
  obtain ⟨rfl, f4⟩ := hm
  obtain rfl := Option.some.inj h
  exact SW.ret ⟨AV.int (n), by simp [go_sem, f4], .lit _, hK.keeps⟩
 have h := condF h vh1
 refine SW.skip ?_
 refine SW.seq ?_
 refine SW.seq ?_
 obtain ⟨q, hq, h⟩ := obind h
 obtain ⟨c, hc, h⟩ := obind h
 refine SW.regX (fun f_ t_ => τ = t_ ∧ f_ 2 = AV.ptr b2 0 ∧ f_ 3 = AV.ptr b3 0 ∧ f_ 39 = AV.bool (c)) (fun M hM => ?_) (fun fr8 τz6 hm => ?_)
 ·rcases Bool.eq_false_or_eq_true q with y0 | y0
  ·have y0' := y0
   try simp at y0'
   have ky0 := condT hc y0
   have ec := Option.some.inj ky0
   simp [go_sem, f2, f26, f3, f7, gb2, gb3, y0, y0']
   refine EWcall_frz (w_slices_ContainsFunc_int o.graph.nodes (fun a0 => s_attribute_Valid_c1 a0 t) 52 [AV.iptr [nodesA (t.nodes), edgesA (t.edges)]] (fun a0 r h => w_attribute_Valid_c1 a0 t r h) _ hq) rfl (frzL_c ((DataA.imm (DataL.map (fun _ => .lit _) o.graph.nodes)) _ _) (frzL_c (frz_fnL (frzL_c (frz_ptrL (Nat.zero_le _) gb2 (frzL_c ((DataA.imm (DataL.flatMap gd_nodeC t.nodes)) _ _) (frzL_c ((DataA.imm (DataL.flatMap gd_edgeC t.edges)) _ _) (frzL_n)))) (frzL_n))) (frzL_n))) ?_
   simp [go_sem, f2, f26, f3, f7, gb2, gb3, y0, y0']
   refine (hM _ _).2 ⟨rfl, ?_, ?_, ?_⟩ <;> simp [go_sem, f2, f26, f3, f7, gb2, gb3, y0, y0', ← ec]
  ·have y0' := y0
   try simp at y0'
   have ky0 := condF hc y0
   obtain ⟨q1, hq1, ky0⟩ := obind ky0
   have ec := Option.some.inj ky0
   simp [go_sem, f2, f26, f3, f7, gb2, gb3, y0, y0']
   refine EWcall_frz (w_slices_ContainsFunc_int o.graph.nodes (fun a0 => s_attribute_Valid_c1 a0 t) 52 [AV.iptr [nodesA (t.nodes), edgesA (t.edges)]] (fun a0 r h => w_attribute_Valid_c1 a0 t r h) _ hq) rfl (frzL_c ((DataA.imm (DataL.map (fun _ => .lit _) o.graph.nodes)) _ _) (frzL_c (frz_fnL (frzL_c (frz_ptrL (Nat.zero_le _) gb2 (frzL_c ((DataA.imm (DataL.flatMap gd_nodeC t.nodes)) _ _) (frzL_c ((DataA.imm (DataL.flatMap gd_edgeC t.edges)) _ _) (frzL_n)))) (frzL_n))) (frzL_n))) ?_
   simp [go_sem, f2, f26, f3, f7, gb2, gb3, y0, y0']
   refine EWcall_frz (w_slices_ContainsFunc_Edge o.graph.edges (fun a0 => s_attribute_Valid_c2 a0 t) 54 [AV.iptr [nodesA (t.nodes), edgesA (t.edges)]] (fun a0 r h => w_attribute_Valid_c2 a0 t r h) _ hq1) rfl (frzL_c ((DataA.imm (DataL.flatMap gd_e3C o.graph.edges)) _ _) (frzL_c (frz_fnL (frzL_c (frz_ptrL (Nat.zero_le _) gb2 (frzL_c ((DataA.imm (DataL.flatMap gd_nodeC t.nodes)) _ _) (frzL_c ((DataA.imm (DataL.flatMap gd_edgeC t.edges)) _ _) (frzL_n)))) (frzL_n))) (frzL_n))) ?_
   simp [go_sem, f2, f26, f3, f7, gb2, gb3, y0, y0']
   refine (hM _ _).2 ⟨rfl, ?_, ?_, ?_⟩ <;> simp [go_sem, f2, f26, f3, f7, gb2, gb3, y0, y0', ← ec]
 clear f2 f26 f3 f7
 obtain ⟨rfl, f2, f3, f39⟩ := hm
 refine SW.cond _ f39 (fun vh2 => ?_) (fun vh2 => ?_)
 ·have h := condT h vh2
  refine SW.seq ?_
  refine SW.regX (fun f_ t_ => τ = t_ ∧ f_ 4 = AV.int (13)) (fun M hM => ?_) (fun fr9 τz7 hm => ?_)
  ·simp [go_sem, f2, f3, f39, gb2, gb3]
   refine (hM _ _).2 ⟨rfl, ?_⟩ <;> simp [go_sem, f2, f3, f39, gb2, gb3]
  clear f2 f3 f39
  obtain ⟨rfl, f4⟩ := hm
  obtain rfl := Option.some.inj h
  exact SW.ret ⟨AV.int (13), by simp [go_sem, f4], .lit _, hK.keeps⟩
 have h := condF h vh2
 refine SW.skip ?_
 refine SW.seq ?_
 refine SW.seq ?_
 obtain ⟨q2, hq2, h⟩ := obind h
 refine SW.regX (fun f_ t_ => τ = t_ ∧ f_ 2 = AV.ptr b2 0 ∧ f_ 3 = AV.ptr b3 0 ∧ f_ 43 = AV.bool ((!q2))) (fun M hM => ?_) (fun fr10 τz8 hm => ?_)
 ·simp [go_sem, f2, f3, f39, gb2, gb3]
  refine EWcall_pure (w_attribute_within o.vars 0 12 _ hq2) ?_
  simp [go_sem, f2, f3, f39, gb2, gb3]
  refine (hM _ _).2 ⟨rfl, ?_, ?_, ?_⟩ <;> simp [go_sem, f2, f3, f39, gb2, gb3]
 clear f2 f3 f39
 obtain ⟨rfl, f2, f3, f43⟩ := hm
 refine SW.cond _ f43 (fun vh3 => ?_) (fun vh3 => ?_)
 ·have h := condT h vh3
  refine SW.seq ?_
  refine SW.regX (fun f_ t_ => τ = t_ ∧ f_ 4 = AV.int (6)) (fun M hM => ?_) (fun fr11 τz9 hm => ?_)
  ·simp [go_sem, f2, f3, f43, gb2, gb3]
   refine (hM _ _).2 ⟨rfl, ?_⟩ <;> simp [go_sem, f2, f3, f43, gb2, gb3]
  clear f2 f3 f43
  obtain ⟨rfl, f4⟩ := hm
  obtain rfl := Option.some.inj h
  exact SW.ret ⟨AV.int (6), by simp [go_sem, f4], .lit _, hK.keeps⟩
 have h := condF h vh3
 refine SW.skip ?_
 refine SW.seq ?_
 refine SW.seq ?_
 refine SW.regX (fun f_ t_ => τ = t_ ∧ f_ 2 = AV.ptr b2 0 ∧ f_ 3 = AV.ptr b3 0 ∧ f_ 53 = AV.bool ((((decide (10 < ((o.slots.length : Nat) : Int)))) || ((decide (10 < ((o.tests.length : Nat) : Int))))))) (fun M hM => ?_) (fun fr12 τz10 hm => ?_)
 ·rcases Bool.eq_false_or_eq_true ((decide (10 < ((o.slots.length : Nat) : Int)))) with y0 | y0
  ·have y0' := y0
   try simp at y0'
   simp [go_sem, f2, f3, f43, gb2, gb3, y0, y0']
   refine (hM _ _).2 ⟨rfl, ?_, ?_, ?_⟩ <;> simp [go_sem, f2, f3, f43, gb2, gb3, y0, y0']
  ·have y0' := y0
   try simp at y0'
   simp [go_sem, f2, f3, f43, gb2, gb3, y0, y0']
   refine (hM _ _).2 ⟨rfl, ?_, ?_, ?_⟩ <;> simp [go_sem, f2, f3, f43, gb2, gb3, y0, y0']
 clear f2 f3 f43
 obtain ⟨rfl, f2, f3, f53⟩ := hm
 refine SW.cond _ f53 (fun vh4 => ?_) (fun vh4 => ?_)
 ·have h := condT h vh4
  refine SW.seq ?_
  refine SW.regX (fun f_ t_ => τ = t_ ∧ f_ 4 = AV.int (3)) (fun M hM => ?_) (fun fr13 τz11 hm => ?_)
  ·simp [go_sem, f2, f3, f53, gb2, gb3]
   refine (hM _ _).2 ⟨rfl, ?_⟩ <;> simp [go_sem, f2, f3, f53, gb2, gb3]
  clear f2 f3 f53
  obtain ⟨rfl, f4⟩ := hm
  obtain rfl := Option.some.inj h
  exact SW.ret ⟨AV.int (3), by simp [go_sem, f4], .lit _, hK.keeps⟩
 have h := condF h vh4
 refine SW.skip ?_
 refine SW.seq ?_
 obtain ⟨a, ha, h⟩ := obind h
 obtain ⟨pa, la, ea⟩ := mkL_spec ha
 have ca_0 : o.vars ≤ 9223372036854775807 := by omega
 have ca_1 : o.vars ≤ 281474976710656 := by omega
 have za := zerosA_map AV.bool false o.vars.toNat
 try simp at za
 refine SW.regX (fun f_ t_ => ∃ v : AV, f_ 2 = AV.ptr b2 0 ∧ f_ 3 = AV.ptr b3 0 ∧ f_ 8 = v ∧ Kept σ0 t_ ∧ σ0.next ≤ t_.next ∧ t_.get b2 = some [nodesA (t.nodes), edgesA (t.edges)] ∧ b2 < t_.next ∧ t_.get b3 = some [intsA (o.graph.nodes), e3sA (o.graph.edges), sl_GSlot (o.slots), AV.int (o.vars), sl_GTest (o.tests)] ∧ b3 < t_.next ∧ ArrAt σ0.next t_ v 4 (a.map AV.bool) a.length 1 ∧ (∀ i, idOf v = some i → ¬ i = b2) ∧ (∀ i, idOf v = some i → ¬ i = b3)) (fun M hM => ?_) (fun fr14 τ1 hm => ?_)
 ·have nb2_0 : ¬ b2 = τ.next := by omega
  have nb3_0 : ¬ b3 = τ.next := by omega
  simp [go_sem, f2, f3, f53, gb2, gb3, pa, ca_0, ca_1, za, nb2_0, nb3_0]
  refine (hM _ _).2 ⟨AV.arr τ.next 0 a.length 1, ?_, ?_, ?_, by intro j hj; have hj_ := hK j hj; simp [go_sem, hj_.1, hj_.2, show ¬ j = τ.next by omega], by first | omega | (simp [go_sem]; done) | (simp [go_sem]; omega), by simp (disch := omega) [get_alloc_ne, get_set_ne, get_kill_ne, go_sem, f2, f3, f53, gb2, gb3, pa, ca_0, ca_1, za, nb2_0, nb3_0, ea], by first | omega | (simp [go_sem]; done) | (simp [go_sem]; omega), by simp (disch := omega) [get_alloc_ne, get_set_ne, get_kill_ne, go_sem, f2, f3, f53, gb2, gb3, pa, ca_0, ca_1, za, nb2_0, nb3_0, ea], by first | omega | (simp [go_sem]; done) | (simp [go_sem]; omega), .inr ⟨τ.next, rfl, by simp (disch := omega) [get_alloc_ne, get_set_ne, get_kill_ne, go_sem, f2, f3, f53, gb2, gb3, pa, ca_0, ca_1, za, nb2_0, nb3_0, ea], by simp [go_sem, f2, f3, f53, gb2, gb3, pa, ca_0, ca_1, za, nb2_0, nb3_0, ea], by omega, by first | (simp [go_sem]; done) | (simp [go_sem]; omega)⟩, by intro i hi; first | (simp [idOf] at hi; done) | (simp [idOf] at hi; omega), by intro i hi; first | (simp [idOf] at hi; done) | (simp [idOf] at hi; omega)⟩ <;> simp [go_sem, f2, f3, f53, gb2, gb3, pa, ca_0, ca_1, za, nb2_0, nb3_0, ea]
 clear f2 f3 f53 hK hN gb2 ub2 gb3 ub3
 obtain ⟨v, f2, f3, f8, hK, hN, gb2, ub2, gb3, ub3, av, evb2, evb3⟩ := hm
 refine SW.seq ?_
 refine SW.seq ?_
 refine SW.regX (fun f_ t_ => τ1 = t_ ∧ f_ 2 = AV.ptr b2 0 ∧ f_ 3 = AV.ptr b3 0 ∧ f_ 8 = v ∧ f_ 58 = sl_GSlot (o.slots) ∧ f_ 59 = AV.int (((o.slots.length : Nat) : Int)) ∧ f_ 60 = AV.int (0)) (fun M hM => ?_) (fun fr15 τz12 hm => ?_)
 ·simp [go_sem, f2, f3, f8, gb2, gb3]
  refine (hM _ _).2 ⟨rfl, ?_, ?_, ?_, ?_, ?_, ?_⟩ <;> simp [go_sem, f2, f3, f8, gb2, gb3]
 clear f2 f3 f8
 obtain ⟨rfl, f2, f3, f8, f58, f59, f60⟩ := hm
 obtain ⟨oi, hruni, hoi⟩ := obind h
 refine SW.len 58 f58 (fun hbigi => ?_)
 obtain ⟨KLi, hKLi⟩ : ∃ KL : Fr → Mem → Prop, ∀ fr' τ', KL fr' τ' ↔ (∃ t8 : List Bool, ∃ v1 : AV, oi = .done t8 ∧ fr' 3 = AV.ptr b3 0 ∧ fr' 8 = v1 ∧ Kept σ0 τ' ∧ σ0.next ≤ τ'.next ∧ τ'.get b3 = some [intsA (o.graph.nodes), e3sA (o.graph.edges), sl_GSlot (o.slots), AV.int (o.vars), sl_GTest (o.tests)] ∧ b3 < τ'.next ∧ ArrAt σ0.next τ' v1 4 (t8.map AV.bool) t8.length 1 ∧ t8.length = a.length ∧ (∀ i, idOf v1 = some i → ¬ i = b3)) := ⟨_, fun _ _ => Iff.rfl⟩
 refine SW.cut KLi ?_ ?_
 ·refine SW.block ?_
  obtain ⟨Ji, hJi⟩ : ∃ J : Nat → Fr → Mem → Prop, ∀ m_ fr' τ', J m_ fr' τ' ↔ (∃ k : Nat, ∃ t8 : List Bool, ∃ v1 : AV, m_ = o.slots.length - k ∧ forN (b1_attribute_Valid t o) (o.slots.length - k) k t8 = some oi ∧ fr' 2 = AV.ptr b2 0 ∧ fr' 3 = AV.ptr b3 0 ∧ fr' 8 = v1 ∧ fr' 58 = sl_GSlot (o.slots) ∧ fr' 59 = AV.int (((o.slots.length : Nat) : Int)) ∧ fr' 60 = AV.int (((k : Nat) : Int)) ∧ Kept σ0 τ' ∧ σ0.next ≤ τ'.next ∧ τ'.get b2 = some [nodesA (t.nodes), edgesA (t.edges)] ∧ b2 < τ'.next ∧ τ'.get b3 = some [intsA (o.graph.nodes), e3sA (o.graph.edges), sl_GSlot (o.slots), AV.int (o.vars), sl_GTest (o.tests)] ∧ b3 < τ'.next ∧ ArrAt σ0.next τ' v1 4 (t8.map AV.bool) t8.length 1 ∧ t8.length = a.length ∧ (∀ i, idOf v1 = some i → ¬ i = b2) ∧ (∀ i, idOf v1 = some i → ¬ i = b3)) := ⟨_, fun _ _ _ => Iff.rfl⟩
  refine SW.loop Ji (o.slots.length - 0) ((hJi _ _ _).2 ⟨0, a, v, rfl, hruni, f2, f3, f8, f58, f59, f60, hK, hN, gb2, ub2, gb3, ub3, av, rfl, evb2, evb3⟩) ?_
  clear hruni
  intro m_ fr16 τ2 hm
  rw [hJi] at hm
  clear f2 f3 f58 f59 f60 f8 hK hN gb2 ub2 gb3 ub3 av
  obtain ⟨k, t8, v1, rfl, hruni, f2, f3, f8, f58, f59, f60, hK, hN, gb2, ub2, gb3, ub3, av1, qv1, ev1b2, ev1b3⟩ := hm
  refine SW.seq ?_
  refine SW.regX (fun f_ t_ => τ2 = t_ ∧ f_ 2 = AV.ptr b2 0 ∧ f_ 3 = AV.ptr b3 0 ∧ f_ 8 = v1 ∧ f_ 58 = sl_GSlot (o.slots) ∧ f_ 59 = AV.int (((o.slots.length : Nat) : Int)) ∧ f_ 60 = AV.int (((k : Nat) : Int)) ∧ f_ 61 = AV.bool ((decide (k < o.slots.length)))) (fun M hM => ?_) (fun fr17 τz13 hm => ?_)
  ·simp [go_sem, f2, f3, f58, f59, f60, f8, gb2, gb3]
   refine (hM _ _).2 ⟨rfl, ?_, ?_, ?_, ?_, ?_, ?_, ?_⟩ <;> simp [go_sem, f2, f3, f58, f59, f60, f8, gb2, gb3]
  clear f2 f3 f58 f59 f60 f8
  obtain ⟨rfl, f2, f3, f8, f58, f59, f60, f61⟩ := hm
  refine SW.seq ?_
  refine SW.cond _ f61 (fun vh5 => ?_) (fun vh5 => ?_)
  rotate_left
  ·have hk : ¬ k < o.slots.length := by have := of_decide_eq_false vh5; omega
   refine SW.exit rfl ?_
   exact SW.goal ((hKLi _ _).2 ⟨t8, v1, forN_end hruni hk, f3, f8, hK, hN, gb3, ub3, av1, qv1, ev1b3⟩)
  have hkk : k < o.slots.length := by have := of_decide_eq_true vh5; omega
  have hwk : IntKind.i64.wrap ((k : Int) + 1) = ((k + 1 : Nat) : Int) := by rw [wrap64_of _ (by omega) (by omega)]; rfl
  obtain ⟨ci, hbi, hci⟩ := forN_step hruni hkk
  simp only [b1_attribute_Valid] at hbi
  refine SW.skip ?_
  refine SW.seq ?_
  refine SW.block ?_
  refine SW.seq ?_
  obtain ⟨x, hx, hbi⟩ := obind hbi
  have xlx := getN_lt hx
  have xdx := getN_flat GSlotC 4 (fun _ => rfl) hx
  refine SW.regX (fun f_ t_ => ∃ b10 : Nat, f_ 2 = AV.ptr b2 0 ∧ f_ 3 = AV.ptr b3 0 ∧ f_ 8 = v1 ∧ f_ 10 = AV.ptr b10 0 ∧ f_ 58 = sl_GSlot (o.slots) ∧ f_ 59 = AV.int (((o.slots.length : Nat) : Int)) ∧ f_ 60 = AV.int (((k : Nat) : Int)) ∧ Kept σ0 t_ ∧ σ0.next ≤ t_.next ∧ t_.get b2 = some [nodesA (t.nodes), edgesA (t.edges)] ∧ b2 < t_.next ∧ t_.get b3 = some [intsA (o.graph.nodes), e3sA (o.graph.edges), sl_GSlot (o.slots), AV.int (o.vars), sl_GTest (o.tests)] ∧ b3 < t_.next ∧ t_.get b10 = some [AV.int (x.node), AV.int (x.attr), AV.int (x.term.var), AV.int (x.term.add)] ∧ b10 < t_.next ∧ ArrAt σ0.next t_ v1 4 (t8.map AV.bool) t8.length 1 ∧ t8.length = a.length ∧ σ0.next ≤ b10 ∧ ¬ b2 = b10 ∧ ¬ b3 = b10 ∧ (∀ i, idOf v1 = some i → ¬ i = b10)) (fun M hM => ?_) (fun fr18 τ3 hm => ?_)
  ·have nb2_0 : ¬ b2 = τ2.next := by omega
   have nb3_0 : ¬ b3 = τ2.next := by omega
   simp [go_sem, f2, f3, f58, f59, f60, f61, f8, gb2, gb3, xlx, xdx, GSlotC, nb2_0, nb3_0]
   refine (hM _ _).2 ⟨τ2.next, ?_, ?_, ?_, ?_, ?_, ?_, ?_, by intro j hj; have hj_ := hK j hj; simp [go_sem, hj_.1, hj_.2, show ¬ j = τ2.next by omega], by first | omega | (simp [go_sem]; done) | (simp [go_sem]; omega), by simp (disch := omega) [get_alloc_ne, get_set_ne, get_kill_ne, go_sem, f2, f3, f58, f59, f60, f61, f8, gb2, gb3, xlx, xdx, GSlotC, nb2_0, nb3_0], by first | omega | (simp [go_sem]; done) | (simp [go_sem]; omega), by simp (disch := omega) [get_alloc_ne, get_set_ne, get_kill_ne, go_sem, f2, f3, f58, f59, f60, f61, f8, gb2, gb3, xlx, xdx, GSlotC, nb2_0, nb3_0], by first | omega | (simp [go_sem]; done) | (simp [go_sem]; omega), by simp (disch := omega) [get_alloc_ne, get_set_ne, get_kill_ne, go_sem, f2, f3, f58, f59, f60, f61, f8, gb2, gb3, xlx, xdx, GSlotC, nb2_0, nb3_0], by first | omega | (simp [go_sem]; done) | (simp [go_sem]; omega), av1.same' (by simp [go_sem]; try omega) (fun i hi => by have zl := arrAt_lt av1 i hi; have zi0 : ¬ i = τ2.next := (by omega); constructor <;> simp [go_sem, zi0]), by first | exact qv1 | (simp; done) | (simp [qv1]; done) | (simp [go_sem, f2, f3, f58, f59, f60, f61, f8, gb2, gb3, xlx, xdx, GSlotC, nb2_0, nb3_0]; done), by omega, by omega, by omega, by first | exact ev1b10 | (intro i hi; have := arrAt_lt av1 i hi; omega)⟩ <;> simp [go_sem, f2, f3, f58, f59, f60, f61, f8, gb2, gb3, xlx, xdx, GSlotC, nb2_0, nb3_0]
  clear f2 f3 f58 f59 f60 f61 f8 hK hN gb2 ub2 gb3 ub3 av1 qv1
  obtain ⟨b10, f2, f3, f8, f10, f58, f59, f60, hK, hN, gb2, ub2, gb3, ub3, gb10, ub10, av1, qv1, wb10, eb2b10, eb3b10, ev1b10⟩ := hm
  refine SW.seq ?_
  refine SW.seq ?_
  obtain ⟨rx1, hrx1, hbi⟩ := obind hbi
  refine SW.regX (fun f_ t_ => f_ 2 = AV.ptr b2 0 ∧ f_ 3 = AV.ptr b3 0 ∧ f_ 8 = v1 ∧ f_ 10 = AV.ptr b10 0 ∧ f_ 12 = AV.bool (rx1.2) ∧ f_ 58 = sl_GSlot (o.slots) ∧ f_ 59 = AV.int (((o.slots.length : Nat) : Int)) ∧ f_ 60 = AV.int (((k : Nat) : Int)) ∧ Kept σ0 t_ ∧ σ0.next ≤ t_.next ∧ t_.get b2 = some [nodesA (t.nodes), edgesA (t.edges)] ∧ b2 < t_.next ∧ t_.get b3 = some [intsA (o.graph.nodes), e3sA (o.graph.edges), sl_GSlot (o.slots), AV.int (o.vars), sl_GTest (o.tests)] ∧ b3 < t_.next ∧ t_.get b10 = some [AV.int (x.node), AV.int (x.attr), AV.int (x.term.var), AV.int (x.term.add)] ∧ b10 < t_.next ∧ ArrAt σ0.next t_ v1 4 (t8.map AV.bool) t8.length 1 ∧ t8.length = a.length) (fun M hM => ?_) (fun fr19 τ4 hm => ?_)
  ·have nb2_0 : ¬ b2 = τ3.next := by omega
   have nb3_0 : ¬ b3 = τ3.next := by omega
   have nb10_0 : ¬ b10 = τ3.next := by omega
   simp [go_sem, f10, f2, f3, f58, f59, f60, f8, gb2, gb3, gb10, nb2_0, nb3_0, nb10_0]
   refine EWcall_pure (w_attribute_attr t o x _ hrx1) ?_
   simp [go_sem, f10, f2, f3, f58, f59, f60, f8, gb2, gb3, gb10, nb2_0, nb3_0, nb10_0]
   refine (hM _ _).2 ⟨?_, ?_, ?_, ?_, ?_, ?_, ?_, ?_, by intro j hj; have hj_ := hK j hj; simp [go_sem, hj_.1, hj_.2, show ¬ j = τ3.next by omega], by first | omega | (simp [go_sem]; done) | (simp [go_sem]; omega), by simp (disch := omega) [get_alloc_ne, get_set_ne, get_kill_ne, go_sem, f10, f2, f3, f58, f59, f60, f8, gb2, gb3, gb10, nb2_0, nb3_0, nb10_0], by first | omega | (simp [go_sem]; done) | (simp [go_sem]; omega), by simp (disch := omega) [get_alloc_ne, get_set_ne, get_kill_ne, go_sem, f10, f2, f3, f58, f59, f60, f8, gb2, gb3, gb10, nb2_0, nb3_0, nb10_0], by first | omega | (simp [go_sem]; done) | (simp [go_sem]; omega), by simp (disch := omega) [get_alloc_ne, get_set_ne, get_kill_ne, go_sem, f10, f2, f3, f58, f59, f60, f8, gb2, gb3, gb10, nb2_0, nb3_0, nb10_0], by first | omega | (simp [go_sem]; done) | (simp [go_sem]; omega), av1.same' (by simp [go_sem]; try omega) (fun i hi => by have zl := arrAt_lt av1 i hi; have zi0 : ¬ i = τ3.next := (by omega); constructor <;> simp [go_sem, zi0]), by first | exact qv1 | (simp; done) | (simp [qv1]; done) | (simp [go_sem, f10, f2, f3, f58, f59, f60, f8, gb2, gb3, gb10, nb2_0, nb3_0, nb10_0]; done)⟩ <;> simp [go_sem, f10, f2, f3, f58, f59, f60, f8, gb2, gb3, gb10, nb2_0, nb3_0, nb10_0]
  clear f10 f2 f3 f58 f59 f60 f8 hK hN gb2 ub2 gb3 ub3 gb10 ub10 av1 qv1
  obtain ⟨f2, f3, f8, f10, f12, f58, f59, f60, hK, hN, gb2, ub2, gb3, ub3, gb10, ub10, av1, qv1⟩ := hm
  refine SW.seq ?_
  obtain ⟨c1, hc1, hbi⟩ := obind hbi
  refine SW.regX (fun f_ t_ => τ4 = t_ ∧ f_ 2 = AV.ptr b2 0 ∧ f_ 3 = AV.ptr b3 0 ∧ f_ 8 = v1 ∧ f_ 10 = AV.ptr b10 0 ∧ f_ 58 = sl_GSlot (o.slots) ∧ f_ 59 = AV.int (((o.slots.length : Nat) : Int)) ∧ f_ 60 = AV.int (((k : Nat) : Int)) ∧ f_ 89 = AV.bool (c1)) (fun M hM => ?_) (fun fr20 τz14 hm => ?_)
  ·rcases Bool.eq_false_or_eq_true ((!rx1.2)) with y0 | y0
   ·have y0' := y0
    try simp at y0'
    have ky0 := condT hc1 y0
    have ec1 := Option.some.inj ky0
    simp [go_sem, f10, f12, f2, f3, f58, f59, f60, f8, gb2, gb3, gb10, y0, y0']
    refine (hM _ _).2 ⟨rfl, ?_, ?_, ?_, ?_, ?_, ?_, ?_, ?_⟩ <;> simp [go_sem, f10, f12, f2, f3, f58, f59, f60, f8, gb2, gb3, gb10, y0, y0', ← ec1]
   ·have y0' := y0
    try simp at y0'
    have ky0 := condF hc1 y0
    obtain ⟨q3, hq3, ky0⟩ := obind ky0
    rcases Bool.eq_false_or_eq_true ((!q3)) with y2 | y2
    ·have y2' := y2
     try simp [y0'] at y2'
     have ky2 := condT ky0 y2
     all_goals
      have ec1 := Option.some.inj ky2
      simp [go_sem, f10, f12, f2, f3, f58, f59, f60, f8, gb2, gb3, gb10, y0, y0', y2, y2']
      refine EWcall_pure (w_attribute_within x.term.var (-1) (IntKind.i64.wrap (o.vars - 1)) _ hq3) ?_
      simp [go_sem, f10, f12, f2, f3, f58, f59, f60, f8, gb2, gb3, gb10, y0, y0', y2, y2']
      refine (hM _ _).2 ⟨rfl, ?_, ?_, ?_, ?_, ?_, ?_, ?_, ?_⟩ <;> simp [go_sem, f10, f12, f2, f3, f58, f59, f60, f8, gb2, gb3, gb10, y0, y0', y2, y2', ← ec1]
    ·have y2' := y2
     try simp [y0'] at y2'
     have ky2 := condF ky0 y2
     all_goals
      obtain ⟨q4, hq4, ky2⟩ := obind ky2
      have ec1 := Option.some.inj ky2
      simp [go_sem, f10, f12, f2, f3, f58, f59, f60, f8, gb2, gb3, gb10, y0, y0', y2, y2']
      refine EWcall_pure (w_attribute_within x.term.var (-1) (IntKind.i64.wrap (o.vars - 1)) _ hq3) ?_
      simp [go_sem, f10, f12, f2, f3, f58, f59, f60, f8, gb2, gb3, gb10, y0, y0', y2, y2']
      refine EWcall_pure (w_attribute_within x.term.add (-1000000) 1000000 _ hq4) ?_
      simp [go_sem, f10, f12, f2, f3, f58, f59, f60, f8, gb2, gb3, gb10, y0, y0', y2, y2']
      refine (hM _ _).2 ⟨rfl, ?_, ?_, ?_, ?_, ?_, ?_, ?_, ?_⟩ <;> simp [go_sem, f10, f12, f2, f3, f58, f59, f60, f8, gb2, gb3, gb10, y0, y0', y2, y2', ← ec1]
  clear f10 f12 f2 f3 f58 f59 f60 f8
  obtain ⟨rfl, f2, f3, f8, f10, f58, f59, f60, f89⟩ := hm
  refine SW.cond _ f89 (fun vh6 => ?_) (fun vh6 => ?_)
  ·have hbi := condT hbi vh6
   refine SW.seq ?_
   refine SW.regX (fun f_ t_ => τ4 = t_ ∧ f_ 4 = AV.int (6)) (fun M hM => ?_) (fun fr21 τz15 hm => ?_)
   ·simp [go_sem, f10, f2, f3, f58, f59, f60, f8, f89, gb2, gb3, gb10]
    refine (hM _ _).2 ⟨rfl, ?_⟩ <;> simp [go_sem, f10, f2, f3, f58, f59, f60, f8, f89, gb2, gb3, gb10]
   clear f10 f2 f3 f58 f59 f60 f8 f89
   obtain ⟨rfl, f4⟩ := hm
   obtain rfl := Option.some.inj hbi
   obtain rfl := Option.some.inj hci
   obtain rfl := Option.some.inj hoi
   exact SW.ret ⟨AV.int (6), by simp [go_sem, f4], .lit _, hK.keeps⟩
  have hbi := condF hbi vh6
  refine SW.skip ?_
  refine SW.seq ?_
  refine SW.regX (fun f_ t_ => τ4 = t_ ∧ f_ 2 = AV.ptr b2 0 ∧ f_ 3 = AV.ptr b3 0 ∧ f_ 8 = v1 ∧ f_ 10 = AV.ptr b10 0 ∧ f_ 58 = sl_GSlot (o.slots) ∧ f_ 59 = AV.int (((o.slots.length : Nat) : Int)) ∧ f_ 60 = AV.int (((k : Nat) : Int)) ∧ f_ 93 = AV.bool ((decide (0 ≤ x.term.var)))) (fun M hM => ?_) (fun fr22 τz16 hm => ?_)
  ·simp [go_sem, f10, f2, f3, f58, f59, f60, f8, f89, gb2, gb3, gb10]
   refine (hM _ _).2 ⟨rfl, ?_, ?_, ?_, ?_, ?_, ?_, ?_, ?_⟩ <;> simp [go_sem, f10, f2, f3, f58, f59, f60, f8, f89, gb2, gb3, gb10]
  clear f10 f2 f3 f58 f59 f60 f8 f89
  obtain ⟨rfl, f2, f3, f8, f10, f58, f59, f60, f93⟩ := hm
  refine SW.cond _ f93 (fun vh7 => ?_) (fun vh7 => ?_)
  ·have hbi := condT hbi vh7
   obtain ⟨q5, hq5, hbi⟩ := obind hbi
   have xpq5 := getI_pos hq5
   have xlq5 := getI_lt hq5
   have xiq5 := getI_N hq5
   have xdq5 := getN_map AV.bool xiq5
   have xoq5 : (t8.map AV.bool).length = t8.length * 1 := by simp
   have st5 := set_map AV.bool true t8 x.term.var.toNat (by have := xpq5; have := xlq5; omega)
   have sust5 : x.term.var.toNat + 1 ≤ t8.length := by have := (by have := xpq5; have := xlq5; omega); omega
   refine SW.regX (fun f_ t_ => f_ 2 = AV.ptr b2 0 ∧ f_ 3 = AV.ptr b3 0 ∧ f_ 8 = v1 ∧ f_ 58 = sl_GSlot (o.slots) ∧ f_ 59 = AV.int (((o.slots.length : Nat) : Int)) ∧ f_ 60 = AV.int (((k : Nat) : Int)) ∧ Kept σ0 t_ ∧ σ0.next ≤ t_.next ∧ t_.get b2 = some [nodesA (t.nodes), edgesA (t.edges)] ∧ b2 < t_.next ∧ t_.get b3 = some [intsA (o.graph.nodes), e3sA (o.graph.edges), sl_GSlot (o.slots), AV.int (o.vars), sl_GTest (o.tests)] ∧ b3 < t_.next ∧ ArrAt σ0.next t_ v1 4 (((t8.set x.term.var.toNat true)).map AV.bool) ((t8.set x.term.var.toNat true)).length 1 ∧ ((t8.set x.term.var.toNat true)).length = a.length) (fun M hM => ?_) (fun fr23 τ5 hm => ?_)
   ·have zv1 := av1
    rcases zv1 with ⟨rfl, nv1, mv1⟩ | ⟨ov1, rfl, gov1, tov1, lov1, hiv1⟩
    ·exfalso; omega
    ·have nv1_b2 : ¬ ov1 = b2 := ev1b2 _ rfl
     have nb2_v1 : ¬ b2 = ov1 := fun e => ev1b2 _ rfl e.symm
     have nv1_b3 : ¬ ov1 = b3 := ev1b3 _ rfl
     have nb3_v1 : ¬ b3 = ov1 := fun e => ev1b3 _ rfl e.symm
     have nv1_b10 : ¬ ov1 = b10 := ev1b10 _ rfl
     have nb10_v1 : ¬ b10 = ov1 := fun e => ev1b10 _ rfl e.symm
     simp [go_sem, f10, f2, f3, f58, f59, f60, f8, f93, gb2, gb3, gb10, xpq5, xlq5, xdq5, xoq5, sust5, st5, gov1, tov1, nv1_b2, nb2_v1, nv1_b3, nb3_v1, nv1_b10, nb10_v1]
     refine (hM _ _).2 ⟨?_, ?_, ?_, ?_, ?_, ?_, by intro j hj; have hj_ := hK j hj; simp [go_sem, hj_.1, hj_.2, show ¬ j = ov1 by omega], by first | omega | (simp [go_sem]; done) | (simp [go_sem]; omega), by simp (disch := omega) [get_alloc_ne, get_set_ne, get_kill_ne, go_sem, f10, f2, f3, f58, f59, f60, f8, f93, gb2, gb3, gb10, xpq5, xlq5, xdq5, xoq5, sust5, st5, gov1, tov1, nv1_b2, nb2_v1, nv1_b3, nb3_v1, nv1_b10, nb10_v1], by first | omega | (simp [go_sem]; done) | (simp [go_sem]; omega), by simp (disch := omega) [get_alloc_ne, get_set_ne, get_kill_ne, go_sem, f10, f2, f3, f58, f59, f60, f8, f93, gb2, gb3, gb10, xpq5, xlq5, xdq5, xoq5, sust5, st5, gov1, tov1, nv1_b2, nb2_v1, nv1_b3, nb3_v1, nv1_b10, nb10_v1], by first | omega | (simp [go_sem]; done) | (simp [go_sem]; omega), .inr ⟨ov1, by simp, by simp (disch := omega) [get_alloc_ne, get_set_ne, get_kill_ne, go_sem, f10, f2, f3, f58, f59, f60, f8, f93, gb2, gb3, gb10, xpq5, xlq5, xdq5, xoq5, sust5, st5, gov1, tov1, nv1_b2, nb2_v1, nv1_b3, nb3_v1, nv1_b10, nb10_v1], by simp (disch := omega) [go_sem, f10, f2, f3, f58, f59, f60, f8, f93, gb2, gb3, gb10, xpq5, xlq5, xdq5, xoq5, sust5, st5, gov1, tov1, nv1_b2, nb2_v1, nv1_b3, nb3_v1, nv1_b10, nb10_v1], lov1, by first | omega | (simp [go_sem]; done) | (simp [go_sem]; omega)⟩, by first | exact qv1 | (simp; done) | (simp [qv1]; done) | (simp [go_sem, f10, f2, f3, f58, f59, f60, f8, f93, gb2, gb3, gb10, xpq5, xlq5, xdq5, xoq5, sust5, st5, gov1, tov1, nv1_b2, nb2_v1, nv1_b3, nb3_v1, nv1_b10, nb10_v1]; done)⟩ <;> simp [go_sem, f10, f2, f3, f58, f59, f60, f8, f93, gb2, gb3, gb10, xpq5, xlq5, xdq5, xoq5, sust5, st5, gov1, tov1, nv1_b2, nb2_v1, nv1_b3, nb3_v1, nv1_b10, nb10_v1]
   clear f10 f2 f3 f58 f59 f60 f8 f93 hK hN gb2 ub2 gb3 ub3 gb10 ub10 av1 qv1
   obtain ⟨f2, f3, f8, f58, f59, f60, hK, hN, gb2, ub2, gb3, ub3, av1, qv1⟩ := hm
   refine SW.blk ?_
   refine SW.regX (fun f_ t_ => τ5 = t_ ∧ f_ 2 = AV.ptr b2 0 ∧ f_ 3 = AV.ptr b3 0 ∧ f_ 8 = v1 ∧ f_ 58 = sl_GSlot (o.slots) ∧ f_ 59 = AV.int (((o.slots.length : Nat) : Int)) ∧ f_ 60 = AV.int (((k + 1 : Nat) : Int))) (fun M hM => ?_) (fun fr24 τz17 hm => ?_)
   ·simp [go_sem, f2, f3, f58, f59, f60, f8, gb2, gb3, hwk]
    refine (hM _ _).2 ⟨rfl, ?_, ?_, ?_, ?_, ?_, ?_⟩ <;> simp [go_sem, f2, f3, f58, f59, f60, f8, gb2, gb3, hwk]
   clear f2 f3 f58 f59 f60 f8
   obtain ⟨rfl, f2, f3, f8, f58, f59, f60⟩ := hm
   obtain rfl := Option.some.inj hbi
   exact SW.goal ⟨o.slots.length - (k + 1), by omega, (hJi _ _ _).2 ⟨k + 1, (t8.set x.term.var.toNat true), v1, rfl, hci, f2, f3, f8, f58, f59, f60, hK, hN, gb2, ub2, gb3, ub3, av1, qv1, ev1b2, ev1b3⟩⟩
  have hbi := condF hbi vh7
  refine SW.skip ?_
  refine SW.blk ?_
  refine SW.regX (fun f_ t_ => τ4 = t_ ∧ f_ 2 = AV.ptr b2 0 ∧ f_ 3 = AV.ptr b3 0 ∧ f_ 8 = v1 ∧ f_ 58 = sl_GSlot (o.slots) ∧ f_ 59 = AV.int (((o.slots.length : Nat) : Int)) ∧ f_ 60 = AV.int (((k + 1 : Nat) : Int))) (fun M hM => ?_) (fun fr25 τz18 hm => ?_)
  ·simp [go_sem, f10, f2, f3, f58, f59, f60, f8, f93, gb2, gb3, gb10, hwk]
   refine (hM _ _).2 ⟨rfl, ?_, ?_, ?_, ?_, ?_, ?_⟩ <;> simp [go_sem, f10, f2, f3, f58, f59, f60, f8, f93, gb2, gb3, gb10, hwk]
  clear f10 f2 f3 f58 f59 f60 f8 f93
  obtain ⟨rfl, f2, f3, f8, f58, f59, f60⟩ := hm
  obtain rfl := Option.some.inj hbi
  exact SW.goal ⟨o.slots.length - (k + 1), by omega, (hJi _ _ _).2 ⟨k + 1, t8, v1, rfl, hci, f2, f3, f8, f58, f59, f60, hK, hN, gb2, ub2, gb3, ub3, av1, qv1, ev1b2, ev1b3⟩⟩
 intro fr26 τ6 hm
 rw [hKLi] at hm
 clear hKLi hruni
 clear f2 f3 f58 f59 f60 f8 hK hN gb2 ub2 gb3 ub3 av
 obtain ⟨t8, v1, rfl, f3, f8, hK, hN, gb3, ub3, av1, qv1, ev1b3⟩ := hm
 simp only [Out.on] at hoi
 refine SW.seq ?_
 refine SW.seq ?_
 obtain ⟨n1, hn1, hoi⟩ := obind hoi
 refine SW.regX (fun f_ t_ => τ6 = t_ ∧ f_ 8 = v1 ∧ f_ 13 = AV.int (n1)) (fun M hM => ?_) (fun fr27 τz19 hm => ?_)
 ·simp [go_sem, f3, f8, gb3]
  refine EWcall_pure (w_difference_Valid o.vars o.tests _ hn1) ?_
  simp [go_sem, f3, f8, gb3]
  refine (hM _ _).2 ⟨rfl, ?_, ?_⟩ <;> simp [go_sem, f3, f8, gb3]
 clear f3 f8
 obtain ⟨rfl, f8, f13⟩ := hm
 refine SW.seq ?_
 refine SW.regX (fun f_ t_ => τ6 = t_ ∧ f_ 8 = v1 ∧ f_ 13 = AV.int (n1) ∧ f_ 106 = AV.bool ((!decide (n1 = 0)))) (fun M hM => ?_) (fun fr28 τz20 hm => ?_)
 ·simp [go_sem, f13, f8]
  refine (hM _ _).2 ⟨rfl, ?_, ?_, ?_⟩ <;> simp [go_sem, f13, f8]
 clear f13 f8
 obtain ⟨rfl, f8, f13, f106⟩ := hm
 refine SW.cond _ f106 (fun vh8 => ?_) (fun vh8 => ?_)
 ·have hoi := condT hoi vh8
  refine SW.seq ?_
  refine SW.regX (fun f_ t_ => τ6 = t_ ∧ f_ 4 = AV.int (n1)) (fun M hM => ?_) (fun fr29 τz21 hm => ?_)
  ·simp [go_sem, f106, f13, f8]
   refine (hM _ _).2 ⟨rfl, ?_⟩ <;> simp [go_sem, f106, f13, f8]
  clear f106 f13 f8
  obtain ⟨rfl, f4⟩ := hm
  obtain rfl := Option.some.inj hoi
  exact SW.ret ⟨AV.int (n1), by simp [go_sem, f4], .lit _, hK.keeps⟩
 have hoi := condF hoi vh8
 refine SW.skip ?_
 refine SW.seq ?_
 refine SW.seq ?_
 obtain ⟨q6, hq6, hoi⟩ := obind hoi
 refine SW.regX (fun f_ t_ => τ6 = t_ ∧ f_ 109 = AV.bool (q6)) (fun M hM => ?_) (fun fr30 τz22 hm => ?_)
 ·have zv1 := av1
  rcases zv1 with ⟨rfl, nv1, mv1⟩ | ⟨ov1, rfl, gov1, tov1, lov1, hiv1⟩
  ·simp [go_sem, f106, f13, f8, nv1, mv1]
   refine EWcall_frz (w_slices_Contains_bool t8 false _ hq6) rfl (frzL_c (ArrAt.frzle av1 (Nat.zero_le _) (DataL.map (fun _ => .lit _) t8)) (frzL_c (.lit _) (frzL_n))) ?_
   simp [go_sem, f106, f13, f8, nv1, mv1]
   refine (hM _ _).2 ⟨rfl, ?_⟩ <;> simp [go_sem, f106, f13, f8, nv1, mv1]
  ·simp [go_sem, f106, f13, f8, gov1, tov1]
   refine EWcall_frz (w_slices_Contains_bool t8 false _ hq6) rfl (frzL_c (ArrAt.frzle av1 (Nat.zero_le _) (DataL.map (fun _ => .lit _) t8)) (frzL_c (.lit _) (frzL_n))) ?_
   simp [go_sem, f106, f13, f8, gov1, tov1]
   refine (hM _ _).2 ⟨rfl, ?_⟩ <;> simp [go_sem, f106, f13, f8, gov1, tov1]
 clear f106 f13 f8
 obtain ⟨rfl, f109⟩ := hm
 refine SW.cond _ f109 (fun vh9 => ?_) (fun vh9 => ?_)
 ·have hoi := condT hoi vh9
  refine SW.seq ?_
  refine SW.regX (fun f_ t_ => τ6 = t_ ∧ f_ 4 = AV.int (9)) (fun M hM => ?_) (fun fr31 τz23 hm => ?_)
  ·simp [go_sem, f109]
   refine (hM _ _).2 ⟨rfl, ?_⟩ <;> simp [go_sem, f109]
  clear f109
  obtain ⟨rfl, f4⟩ := hm
  obtain rfl := Option.some.inj hoi
  exact SW.ret ⟨AV.int (9), by simp [go_sem, f4], .lit _, hK.keeps⟩
 have hoi := condF hoi vh9
 refine SW.skip ?_
 refine SW.seq ?_
 refine SW.regX (fun f_ t_ => τ6 = t_ ∧ f_ 4 = AV.int (0)) (fun M hM => ?_) (fun fr32 τz24 hm => ?_)
 ·simp [go_sem, f109]
  refine (hM _ _).2 ⟨rfl, ?_⟩ <;> simp [go_sem, f109]
 clear f109
 obtain ⟨rfl, f4⟩ := hm
 obtain rfl := Option.some.inj hoi
 exact SW.ret ⟨AV.int (0), by simp [go_sem, f4], .lit _, hK.keeps⟩
end Go.Proofs.YtippinddoldhkaaGreat
