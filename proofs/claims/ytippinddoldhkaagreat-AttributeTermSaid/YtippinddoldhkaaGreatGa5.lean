/-
  Plain functions and the walks that lead to them, by a program of ours (gen.py): scarfjoint/host.node, slices.Index___int_int_, slices.Contains___int_int_, scarfjoint/types.Fits.
-/
import Derived.Test.YtippinddoldhkaaGreatGd
import Derived.Test.YtippinddoldhkaaGreatGT
import Derived.Test.YtippinddoldhkaaGreatB3
import Derived.Test.YtippinddoldhkaaGreatB7
import Derived.Test.YtippinddoldhkaaGreatGS
import Derived.Test.YtippinddoldhkaaGreatLg
set_option linter.unusedSimpArgs false
set_option linter.unusedVariables false
namespace Go.Proofs.YtippinddoldhkaaGreat
open Go Go.Ew Go.Proofs Go.RowKit
set_option maxRecDepth 100000
set_option maxHeartbeats 4000000 in
theorem w_host_node (t : Types) (kind : Int) (values : List Int) (r : (Int)) (h : s_host_node t kind values = some r) : PureA Tryz.prog 156 [AV.agg [nodesA (t.nodes), edgesA (t.edges)], AV.int (kind), intsA (values)] (AV.int (r)) := by
 refine pureA_of_SW (N := 57) Tryz.func156 (by kernel_rfl) rfl (by rw [Tryz.ntmps156]; rfl) (fun σ0 => ?_)
 rw [Tryz.results156]
 obtain ⟨fr0, hfr⟩ : ∃ fr, fr = initFr [AV.agg [nodesA (t.nodes), edgesA (t.edges)], AV.int (kind), intsA (values)] := ⟨_, rfl⟩
 rw [← hfr]
 have f0 : fr0 0 = AV.agg [nodesA (t.nodes), edgesA (t.edges)] := by rw [hfr]; rfl
 have f1 : fr0 1 = AV.int (kind) := by rw [hfr]; rfl
 have f2 : fr0 2 = intsA (values) := by rw [hfr]; rfl
 clear hfr
 simp only [s_host_node] at h
 refine SW.seq ?_
 refine SW.regX (fun f_ t_ => ∃ b3 : Nat, f_ 1 = AV.int (kind) ∧ f_ 2 = intsA (values) ∧ f_ 3 = AV.ptr b3 0 ∧ Kept σ0 t_ ∧ σ0.next ≤ t_.next ∧ t_.get b3 = some [nodesA (t.nodes), edgesA (t.edges)] ∧ b3 < t_.next ∧ σ0.next ≤ b3) (fun M hM => ?_) (fun fr1 τ hm => ?_)
 ·simp [go_sem, f0, f1, f2]
  refine (hM _ _).2 ⟨σ0.next, ?_, ?_, ?_, by intro j hj; simp [go_sem, show ¬ j = σ0.next by omega], by first | omega | (simp [go_sem]; done) | (simp [go_sem]; omega), by simp (disch := omega) [get_alloc_ne, get_set_ne, get_kill_ne, go_sem, f0, f1, f2], by first | omega | (simp [go_sem]; done) | (simp [go_sem]; omega), by omega⟩ <;> simp [go_sem, f0, f1, f2]
 clear f0 f1 f2
 obtain ⟨b3, f1, f2, f3, hK, hN, gb3, ub3, wb3⟩ := hm
 refine SW.seq ?_
 refine SW.seq ?_
 refine SW.regX (fun f_ t_ => τ = t_ ∧ f_ 1 = AV.int (kind) ∧ f_ 2 = intsA (values) ∧ f_ 3 = AV.ptr b3 0 ∧ f_ 15 = AV.bool ((decide (((t.nodes.length : Nat) : Int) ≤ kind)))) (fun M hM => ?_) (fun fr2 τz hm => ?_)
 ·simp [go_sem, f1, f2, f3, gb3]
  refine (hM _ _).2 ⟨rfl, ?_, ?_, ?_, ?_⟩ <;> simp [go_sem, f1, f2, f3, gb3]
 clear f1 f2 f3
 obtain ⟨rfl, f1, f2, f3, f15⟩ := hm
 refine SW.cond _ f15 (fun vh => ?_) (fun vh => ?_)
 ·have h := condT h vh
  refine SW.seq ?_
  refine SW.regX (fun f_ t_ => τ = t_ ∧ f_ 6 = AV.int (6)) (fun M hM => ?_) (fun fr3 τz1 hm => ?_)
  ·simp [go_sem, f1, f15, f2, f3, gb3]
   refine (hM _ _).2 ⟨rfl, ?_⟩ <;> simp [go_sem, f1, f15, f2, f3, gb3]
  clear f1 f15 f2 f3
  obtain ⟨rfl, f6⟩ := hm
  obtain rfl := Option.some.inj h
  exact SW.ret ⟨AV.int (6), by simp [go_sem, f6], .lit _, hK.keeps⟩
 have h := condF h vh
 refine SW.skip ?_
 refine SW.seq ?_
 refine SW.seq ?_
 obtain ⟨x, hx, h⟩ := obind h
 have xpx := getI_pos hx
 have xlx := getI_lt hx
 have xix := getI_N hx
 have xdx := getN_flat nodeC 4 (fun _ => rfl) xix
 refine SW.regX (fun f_ t_ => τ = t_ ∧ f_ 1 = AV.int (kind) ∧ f_ 2 = intsA (values) ∧ f_ 3 = AV.ptr b3 0 ∧ f_ 21 = AV.bool (x.abst)) (fun M hM => ?_) (fun fr4 τz2 hm => ?_)
 ·simp [go_sem, f1, f15, f2, f3, gb3, xpx, xlx, xdx, nodeC]
  refine (hM _ _).2 ⟨rfl, ?_, ?_, ?_, ?_⟩ <;> simp [go_sem, f1, f15, f2, f3, gb3, xpx, xlx, xdx, nodeC]
 clear f1 f15 f2 f3
 obtain ⟨rfl, f1, f2, f3, f21⟩ := hm
 refine SW.cond _ f21 (fun vh1 => ?_) (fun vh1 => ?_)
 ·have h := condT h vh1
  refine SW.seq ?_
  refine SW.regX (fun f_ t_ => τ = t_ ∧ f_ 6 = AV.int (13)) (fun M hM => ?_) (fun fr5 τz3 hm => ?_)
  ·simp [go_sem, f1, f2, f21, f3, gb3]
   refine (hM _ _).2 ⟨rfl, ?_⟩ <;> simp [go_sem, f1, f2, f21, f3, gb3]
  clear f1 f2 f21 f3
  obtain ⟨rfl, f6⟩ := hm
  obtain rfl := Option.some.inj h
  exact SW.ret ⟨AV.int (13), by simp [go_sem, f6], .lit _, hK.keeps⟩
 have h := condF h vh1
 refine SW.skip ?_
 refine SW.seq ?_
 obtain ⟨rx, hrx, h⟩ := obind h
 refine SW.regX (fun f_ t_ => τ = t_ ∧ f_ 2 = intsA (values) ∧ f_ 7 = attrsA (rx.1)) (fun M hM => ?_) (fun fr6 τz4 hm => ?_)
 ·simp [go_sem, f1, f2, f21, f3, gb3]
  refine EWcall_pure (w_types_Attrs t kind _ hrx) ?_
  simp [go_sem, f1, f2, f21, f3, gb3]
  refine (hM _ _).2 ⟨rfl, ?_, ?_⟩ <;> simp [go_sem, f1, f2, f21, f3, gb3]
 clear f1 f2 f21 f3
 obtain ⟨rfl, f2, f7⟩ := hm
 refine SW.seq ?_
 refine SW.seq ?_
 refine SW.regX (fun f_ t_ => τ = t_ ∧ f_ 2 = intsA (values) ∧ f_ 7 = attrsA (rx.1) ∧ f_ 32 = AV.bool ((!decide (values.length = rx.1.length)))) (fun M hM => ?_) (fun fr7 τz5 hm => ?_)
 ·simp [go_sem, f2, f7]
  refine (hM _ _).2 ⟨rfl, ?_, ?_, ?_⟩ <;> simp [go_sem, f2, f7]
 clear f2 f7
 obtain ⟨rfl, f2, f7, f32⟩ := hm
 refine SW.cond _ f32 (fun vh2 => ?_) (fun vh2 => ?_)
 ·have h := condT h vh2
  refine SW.seq ?_
  refine SW.regX (fun f_ t_ => τ = t_ ∧ f_ 6 = AV.int (20)) (fun M hM => ?_) (fun fr8 τz6 hm => ?_)
  ·simp [go_sem, f2, f32, f7]
   refine (hM _ _).2 ⟨rfl, ?_⟩ <;> simp [go_sem, f2, f32, f7]
  clear f2 f32 f7
  obtain ⟨rfl, f6⟩ := hm
  obtain rfl := Option.some.inj h
  exact SW.ret ⟨AV.int (20), by simp [go_sem, f6], .lit _, hK.keeps⟩
 have h := condF h vh2
 refine SW.skip ?_
 refine SW.seq ?_
 refine SW.seq ?_
 refine SW.regX (fun f_ t_ => τ = t_ ∧ f_ 2 = intsA (values) ∧ f_ 33 = attrsA (rx.1) ∧ f_ 34 = AV.int (((rx.1.length : Nat) : Int)) ∧ f_ 35 = AV.int (0)) (fun M hM => ?_) (fun fr9 τz7 hm => ?_)
 ·simp [go_sem, f2, f32, f7]
  refine (hM _ _).2 ⟨rfl, ?_, ?_, ?_, ?_⟩ <;> simp [go_sem, f2, f32, f7]
 clear f2 f32 f7
 obtain ⟨rfl, f2, f33, f34, f35⟩ := hm
 obtain ⟨oi, hruni, hoi⟩ := obind h
 refine SW.len 33 f33 (fun hbigi => ?_)
 obtain ⟨KLi, hKLi⟩ : ∃ KL : Fr → Mem → Prop, ∀ fr' τ', KL fr' τ' ↔ (oi = .done () ∧ Kept σ0 τ' ∧ σ0.next ≤ τ'.next) := ⟨_, fun _ _ => Iff.rfl⟩
 refine SW.cut KLi ?_ ?_
 ·refine SW.block ?_
  obtain ⟨Ji, hJi⟩ : ∃ J : Nat → Fr → Mem → Prop, ∀ m_ fr' τ', J m_ fr' τ' ↔ (∃ k : Nat, m_ = rx.1.length - k ∧ forN (b1_host_node values rx) (rx.1.length - k) k () = some oi ∧ fr' 2 = intsA (values) ∧ fr' 33 = attrsA (rx.1) ∧ fr' 34 = AV.int (((rx.1.length : Nat) : Int)) ∧ fr' 35 = AV.int (((k : Nat) : Int)) ∧ Kept σ0 τ' ∧ σ0.next ≤ τ'.next) := ⟨_, fun _ _ _ => Iff.rfl⟩
  refine SW.loop Ji (rx.1.length - 0) ((hJi _ _ _).2 ⟨0, rfl, hruni, f2, f33, f34, f35, hK, hN⟩) ?_
  clear hruni
  intro m_ fr10 τ1 hm
  rw [hJi] at hm
  clear f2 f33 f34 f35 hK hN
  obtain ⟨k, rfl, hruni, f2, f33, f34, f35, hK, hN⟩ := hm
  refine SW.seq ?_
  refine SW.regX (fun f_ t_ => τ1 = t_ ∧ f_ 2 = intsA (values) ∧ f_ 33 = attrsA (rx.1) ∧ f_ 34 = AV.int (((rx.1.length : Nat) : Int)) ∧ f_ 35 = AV.int (((k : Nat) : Int)) ∧ f_ 36 = AV.bool ((decide (k < rx.1.length)))) (fun M hM => ?_) (fun fr11 τz8 hm => ?_)
  ·simp [go_sem, f2, f33, f34, f35]
   refine (hM _ _).2 ⟨rfl, ?_, ?_, ?_, ?_, ?_⟩ <;> simp [go_sem, f2, f33, f34, f35]
  clear f2 f33 f34 f35
  obtain ⟨rfl, f2, f33, f34, f35, f36⟩ := hm
  refine SW.seq ?_
  refine SW.cond _ f36 (fun vh3 => ?_) (fun vh3 => ?_)
  rotate_left
  ·have hk : ¬ k < rx.1.length := by have := of_decide_eq_false vh3; omega
   refine SW.exit rfl ?_
   exact SW.goal ((hKLi _ _).2 ⟨forN_end hruni hk, hK, hN⟩)
  have hkk : k < rx.1.length := by have := of_decide_eq_true vh3; omega
  have hwk : IntKind.i64.wrap ((k : Int) + 1) = ((k + 1 : Nat) : Int) := by rw [wrap64_of _ (by omega) (by omega)]; rfl
  obtain ⟨ci, hbi, hci⟩ := forN_step hruni hkk
  simp only [b1_host_node] at hbi
  refine SW.skip ?_
  refine SW.seq ?_
  refine SW.block ?_
  refine SW.seq ?_
  obtain ⟨x1, hx1, hbi⟩ := obind hbi
  have xlx1 := getN_lt hx1
  have xdx1 := getN_flat attrC 4 (fun _ => rfl) hx1
  refine SW.regX (fun f_ t_ => ∃ b10 : Nat, f_ 2 = intsA (values) ∧ f_ 9 = AV.int (((k : Nat) : Int)) ∧ f_ 10 = AV.ptr b10 0 ∧ f_ 33 = attrsA (rx.1) ∧ f_ 34 = AV.int (((rx.1.length : Nat) : Int)) ∧ f_ 35 = AV.int (((k : Nat) : Int)) ∧ Kept σ0 t_ ∧ σ0.next ≤ t_.next ∧ t_.get b10 = some [AV.str (x1.name), AV.int (x1.low), AV.int (x1.high), strsA (x1.names)] ∧ b10 < t_.next ∧ σ0.next ≤ b10) (fun M hM => ?_) (fun fr12 τ2 hm => ?_)
  ·simp [go_sem, f2, f33, f34, f35, f36, xlx1, xdx1, attrC]
   refine (hM _ _).2 ⟨τ1.next, ?_, ?_, ?_, ?_, ?_, ?_, by intro j hj; have hj_ := hK j hj; simp [go_sem, hj_.1, hj_.2, show ¬ j = τ1.next by omega], by first | omega | (simp [go_sem]; done) | (simp [go_sem]; omega), by simp (disch := omega) [get_alloc_ne, get_set_ne, get_kill_ne, go_sem, f2, f33, f34, f35, f36, xlx1, xdx1, attrC], by first | omega | (simp [go_sem]; done) | (simp [go_sem]; omega), by omega⟩ <;> simp [go_sem, f2, f33, f34, f35, f36, xlx1, xdx1, attrC]
  clear f2 f33 f34 f35 f36 hK hN
  obtain ⟨b10, f2, f9, f10, f33, f34, f35, hK, hN, gb10, ub10, wb10⟩ := hm
  refine SW.seq ?_
  obtain ⟨n, hn, hbi⟩ := obind hbi
  have xln := getN_lt hn
  have xdn := getN_map AV.int hn
  refine SW.regX (fun f_ t_ => τ2 = t_ ∧ f_ 2 = intsA (values) ∧ f_ 33 = attrsA (rx.1) ∧ f_ 34 = AV.int (((rx.1.length : Nat) : Int)) ∧ f_ 35 = AV.int (((k : Nat) : Int)) ∧ f_ 55 = AV.bool ((((decide (n < x1.low))) || ((decide (x1.high < n)))))) (fun M hM => ?_) (fun fr13 τz9 hm => ?_)
  ·refine EW_regionD (by kernel_rfl) (by kernel_rfl) ?_
   rcases Bool.eq_false_or_eq_true ((decide (n < x1.low))) with y0 | y0
   ·have y0' := y0
    try simp at y0'
    simp [go_sem, f10, f2, f33, f34, f35, f9, gb10, xln, xdn, y0, y0']
    refine (hM _ _).2 ⟨rfl, ?_, ?_, ?_, ?_, ?_⟩ <;> simp [go_sem, f10, f2, f33, f34, f35, f9, gb10, xln, xdn, y0, y0']
   ·have y0' := y0
    try simp at y0'
    simp [go_sem, f10, f2, f33, f34, f35, f9, gb10, xln, xdn, y0, y0', xln, xdn]
    refine (hM _ _).2 ⟨rfl, ?_, ?_, ?_, ?_, ?_⟩ <;> simp [go_sem, f10, f2, f33, f34, f35, f9, gb10, xln, xdn, y0, y0', xln, xdn]
  clear f10 f2 f33 f34 f35 f9
  obtain ⟨rfl, f2, f33, f34, f35, f55⟩ := hm
  refine SW.cond _ f55 (fun vh4 => ?_) (fun vh4 => ?_)
  ·have hbi := condT hbi vh4
   refine SW.seq ?_
   refine SW.regX (fun f_ t_ => τ2 = t_ ∧ f_ 6 = AV.int (6)) (fun M hM => ?_) (fun fr14 τz10 hm => ?_)
   ·simp [go_sem, f2, f33, f34, f35, f55]
    refine (hM _ _).2 ⟨rfl, ?_⟩ <;> simp [go_sem, f2, f33, f34, f35, f55]
   clear f2 f33 f34 f35 f55
   obtain ⟨rfl, f6⟩ := hm
   obtain rfl := Option.some.inj hbi
   obtain rfl := Option.some.inj hci
   obtain rfl := Option.some.inj hoi
   exact SW.ret ⟨AV.int (6), by simp [go_sem, f6], .lit _, hK.keeps⟩
  have hbi := condF hbi vh4
  refine SW.skip ?_
  refine SW.blk ?_
  refine SW.regX (fun f_ t_ => τ2 = t_ ∧ f_ 2 = intsA (values) ∧ f_ 33 = attrsA (rx.1) ∧ f_ 34 = AV.int (((rx.1.length : Nat) : Int)) ∧ f_ 35 = AV.int (((k + 1 : Nat) : Int))) (fun M hM => ?_) (fun fr15 τz11 hm => ?_)
  ·simp [go_sem, f2, f33, f34, f35, f55, hwk]
   refine (hM _ _).2 ⟨rfl, ?_, ?_, ?_, ?_⟩ <;> simp [go_sem, f2, f33, f34, f35, f55, hwk]
  clear f2 f33 f34 f35 f55
  obtain ⟨rfl, f2, f33, f34, f35⟩ := hm
  obtain rfl := Option.some.inj hbi
  exact SW.goal ⟨rx.1.length - (k + 1), by omega, (hJi _ _ _).2 ⟨k + 1, rfl, hci, f2, f33, f34, f35, hK, hN⟩⟩
 intro fr16 τ3 hm
 rw [hKLi] at hm
 clear hKLi hruni
 clear f2 f33 f34 f35 hK hN
 obtain ⟨rfl, hK, hN⟩ := hm
 simp only [Out.on] at hoi
 refine SW.seq ?_
 refine SW.regX (fun f_ t_ => τ3 = t_ ∧ f_ 6 = AV.int (0)) (fun M hM => ?_) (fun fr17 τz12 hm => ?_)
 ·simp [go_sem]
  refine (hM _ _).2 ⟨rfl, ?_⟩ <;> simp [go_sem]
 obtain ⟨rfl, f6⟩ := hm
 obtain rfl := Option.some.inj hoi
 exact SW.ret ⟨AV.int (0), by simp [go_sem, f6], .lit _, hK.keeps⟩
set_option maxHeartbeats 4000000 in
theorem w_types_Fits (t : Types) (edge : Int) (fromx : Int) (tox : Int) (r : (Bool)) (h : s_types_Fits t edge fromx tox = some r) : PureA Tryz.prog 157 [AV.agg [nodesA (t.nodes), edgesA (t.edges)], AV.int (edge), AV.int (fromx), AV.int (tox)] (AV.bool (r)) := by
 refine pureA_of_SW (N := 46) Tryz.func157 (by kernel_rfl) rfl (by rw [Tryz.ntmps157]; rfl) (fun σ0 => ?_)
 rw [Tryz.results157]
 obtain ⟨fr0, hfr⟩ : ∃ fr, fr = initFr [AV.agg [nodesA (t.nodes), edgesA (t.edges)], AV.int (edge), AV.int (fromx), AV.int (tox)] := ⟨_, rfl⟩
 rw [← hfr]
 have f0 : fr0 0 = AV.agg [nodesA (t.nodes), edgesA (t.edges)] := by rw [hfr]; rfl
 have f1 : fr0 1 = AV.int (edge) := by rw [hfr]; rfl
 have f2 : fr0 2 = AV.int (fromx) := by rw [hfr]; rfl
 have f3 : fr0 3 = AV.int (tox) := by rw [hfr]; rfl
 clear hfr
 simp only [s_types_Fits] at h
 refine SW.seq ?_
 refine SW.regX (fun f_ t_ => ∃ b4 : Nat, f_ 1 = AV.int (edge) ∧ f_ 2 = AV.int (fromx) ∧ f_ 3 = AV.int (tox) ∧ f_ 4 = AV.ptr b4 0 ∧ Kept σ0 t_ ∧ σ0.next ≤ t_.next ∧ t_.get b4 = some [nodesA (t.nodes), edgesA (t.edges)] ∧ b4 < t_.next ∧ σ0.next ≤ b4) (fun M hM => ?_) (fun fr1 τ hm => ?_)
 ·simp [go_sem, f0, f1, f2, f3]
  refine (hM _ _).2 ⟨σ0.next, ?_, ?_, ?_, ?_, by intro j hj; simp [go_sem, show ¬ j = σ0.next by omega], by first | omega | (simp [go_sem]; done) | (simp [go_sem]; omega), by simp (disch := omega) [get_alloc_ne, get_set_ne, get_kill_ne, go_sem, f0, f1, f2, f3], by first | omega | (simp [go_sem]; done) | (simp [go_sem]; omega), by omega⟩ <;> simp [go_sem, f0, f1, f2, f3]
 clear f0 f1 f2 f3
 obtain ⟨b4, f1, f2, f3, f4, hK, hN, gb4, ub4, wb4⟩ := hm
 refine SW.seq ?_
 refine SW.seq ?_
 obtain ⟨n, hn, h⟩ := obind h
 refine SW.regX (fun f_ t_ => f_ 1 = AV.int (edge) ∧ f_ 2 = AV.int (fromx) ∧ f_ 3 = AV.int (tox) ∧ f_ 4 = AV.ptr b4 0 ∧ f_ 25 = AV.bool ((((!decide (n = 0))) || ((((decide (edge < 0))) || ((decide (((t.edges.length : Nat) : Int) ≤ edge))))))) ∧ Kept σ0 t_ ∧ σ0.next ≤ t_.next ∧ t_.get b4 = some [nodesA (t.nodes), edgesA (t.edges)] ∧ b4 < t_.next) (fun M hM => ?_) (fun fr2 τ1 hm => ?_)
 ·rcases Bool.eq_false_or_eq_true ((!decide (n = 0))) with y0 | y0
  ·have y0' := y0
   try simp at y0'
   have nb4_0 : ¬ b4 = τ.next := by omega
   simp [go_sem, f1, f2, f3, f4, gb4, y0, y0', nb4_0]
   refine EWcall_frz (w_types_given t ([fromx, tox] : List Int) _ hn) rfl (frzL_c (frz_aggL (frzL_c ((DataA.imm (DataL.flatMap gd_nodeC t.nodes)) _ _) (frzL_c ((DataA.imm (DataL.flatMap gd_edgeC t.edges)) _ _) (frzL_n)))) (frzL_c (frz_arrL (cs := [AV.int (fromx), AV.int (tox)]) (Nat.zero_le _) (by first | (simp [go_sem, f1, f2, f3, f4, gb4, y0, y0', nb4_0]; done) | (simp [go_sem, f1, f2, f3, f4, gb4, y0, y0', nb4_0]; rfl)) (frzL_c (.lit _) (frzL_c (.lit _) (frzL_n)))) (frzL_n))) ?_
   simp [go_sem, f1, f2, f3, f4, gb4, y0, y0', nb4_0]
   refine (hM _ _).2 ⟨?_, ?_, ?_, ?_, ?_, by intro j hj; have hj_ := hK j hj; simp [go_sem, hj_.1, hj_.2, show ¬ j = τ.next by omega], by first | omega | (simp [go_sem]; done) | (simp [go_sem]; omega), by simp (disch := omega) [get_alloc_ne, get_set_ne, get_kill_ne, go_sem, f1, f2, f3, f4, gb4, y0, y0', nb4_0], by first | omega | (simp [go_sem]; done) | (simp [go_sem]; omega)⟩ <;> simp [go_sem, f1, f2, f3, f4, gb4, y0, y0', nb4_0]
  ·have y0' := y0
   try simp at y0'
   rcases Bool.eq_false_or_eq_true ((decide (edge < 0))) with y2 | y2
   ·have y2' := y2
    try simp [y0'] at y2'
    all_goals
     have nb4_0 : ¬ b4 = τ.next := by omega
     simp [go_sem, f1, f2, f3, f4, gb4, y0, y0', y2, y2', nb4_0]
     refine EWcall_frz (w_types_given t ([fromx, tox] : List Int) _ hn) rfl (frzL_c (frz_aggL (frzL_c ((DataA.imm (DataL.flatMap gd_nodeC t.nodes)) _ _) (frzL_c ((DataA.imm (DataL.flatMap gd_edgeC t.edges)) _ _) (frzL_n)))) (frzL_c (frz_arrL (cs := [AV.int (fromx), AV.int (tox)]) (Nat.zero_le _) (by first | (simp [go_sem, f1, f2, f3, f4, gb4, y0, y0', y2, y2', nb4_0]; done) | (simp [go_sem, f1, f2, f3, f4, gb4, y0, y0', y2, y2', nb4_0]; rfl)) (frzL_c (.lit _) (frzL_c (.lit _) (frzL_n)))) (frzL_n))) ?_
     simp [go_sem, f1, f2, f3, f4, gb4, y0, y0', y2, y2', nb4_0]
     refine (hM _ _).2 ⟨?_, ?_, ?_, ?_, ?_, by intro j hj; have hj_ := hK j hj; simp [go_sem, hj_.1, hj_.2, show ¬ j = τ.next by omega], by first | omega | (simp [go_sem]; done) | (simp [go_sem]; omega), by simp (disch := omega) [get_alloc_ne, get_set_ne, get_kill_ne, go_sem, f1, f2, f3, f4, gb4, y0, y0', y2, y2', nb4_0], by first | omega | (simp [go_sem]; done) | (simp [go_sem]; omega)⟩ <;> simp [go_sem, f1, f2, f3, f4, gb4, y0, y0', y2, y2', nb4_0]
   ·have y2' := y2
    try simp [y0'] at y2'
    all_goals
     have nb4_0 : ¬ b4 = τ.next := by omega
     simp [go_sem, f1, f2, f3, f4, gb4, y0, y0', y2, y2', nb4_0]
     refine EWcall_frz (w_types_given t ([fromx, tox] : List Int) _ hn) rfl (frzL_c (frz_aggL (frzL_c ((DataA.imm (DataL.flatMap gd_nodeC t.nodes)) _ _) (frzL_c ((DataA.imm (DataL.flatMap gd_edgeC t.edges)) _ _) (frzL_n)))) (frzL_c (frz_arrL (cs := [AV.int (fromx), AV.int (tox)]) (Nat.zero_le _) (by first | (simp [go_sem, f1, f2, f3, f4, gb4, y0, y0', y2, y2', nb4_0]; done) | (simp [go_sem, f1, f2, f3, f4, gb4, y0, y0', y2, y2', nb4_0]; rfl)) (frzL_c (.lit _) (frzL_c (.lit _) (frzL_n)))) (frzL_n))) ?_
     simp [go_sem, f1, f2, f3, f4, gb4, y0, y0', y2, y2', nb4_0]
     refine (hM _ _).2 ⟨?_, ?_, ?_, ?_, ?_, by intro j hj; have hj_ := hK j hj; simp [go_sem, hj_.1, hj_.2, show ¬ j = τ.next by omega], by first | omega | (simp [go_sem]; done) | (simp [go_sem]; omega), by simp (disch := omega) [get_alloc_ne, get_set_ne, get_kill_ne, go_sem, f1, f2, f3, f4, gb4, y0, y0', y2, y2', nb4_0], by first | omega | (simp [go_sem]; done) | (simp [go_sem]; omega)⟩ <;> simp [go_sem, f1, f2, f3, f4, gb4, y0, y0', y2, y2', nb4_0]
 clear f1 f2 f3 f4 hK hN gb4 ub4
 obtain ⟨f1, f2, f3, f4, f25, hK, hN, gb4, ub4⟩ := hm
 refine SW.cond _ f25 (fun vh => ?_) (fun vh => ?_)
 ·have h := condT h vh
  refine SW.seq ?_
  refine SW.regX (fun f_ t_ => τ1 = t_ ∧ f_ 8 = AV.bool (false)) (fun M hM => ?_) (fun fr3 τz hm => ?_)
  ·simp [go_sem, f1, f2, f25, f3, f4, gb4]
   refine (hM _ _).2 ⟨rfl, ?_⟩ <;> simp [go_sem, f1, f2, f25, f3, f4, gb4]
  clear f1 f2 f25 f3 f4
  obtain ⟨rfl, f8⟩ := hm
  obtain rfl := Option.some.inj h
  exact SW.ret ⟨AV.bool (false), by simp [go_sem, f8], .lit _, hK.keeps⟩
 have h := condF h vh
 refine SW.skip ?_
 refine SW.seq ?_
 obtain ⟨x, hx, h⟩ := obind h
 have xpx := getI_pos hx
 have xlx := getI_lt hx
 have xix := getI_N hx
 have xdx := getN_flat edgeC 7 (fun _ => rfl) xix
 obtain ⟨q, hq, h⟩ := obind h
 obtain ⟨c, hc, h⟩ := obind h
 refine SW.regX (fun f_ t_ => τ1 = t_ ∧ f_ 8 = AV.bool (c)) (fun M hM => ?_) (fun fr4 τz1 hm => ?_)
 ·refine EW_regionD (by kernel_rfl) (by kernel_rfl) ?_
  rcases Bool.eq_false_or_eq_true q with y0 | y0
  ·have y0' := y0
   try simp at y0'
   have ky0 := condT hc y0
   obtain ⟨q1, hq1, ky0⟩ := obind ky0
   have ec := Option.some.inj ky0
   simp [go_sem, f1, f2, f25, f3, f4, gb4, xpx, xlx, xdx, edgeC, y0, y0', xpx, xlx, xdx, edgeC]
   refine EWqcall_pure (w_types_is t fromx x.src _ hq) rfl ?_
   simp [go_sem, f1, f2, f25, f3, f4, gb4, xpx, xlx, xdx, edgeC, y0, y0', xpx, xlx, xdx, edgeC]
   refine EWqcall_pure (w_types_is t tox x.tgt _ hq1) rfl ?_
   simp [go_sem, f1, f2, f25, f3, f4, gb4, xpx, xlx, xdx, edgeC, y0, y0', xpx, xlx, xdx, edgeC]
   refine (hM _ _).2 ⟨rfl, ?_⟩ <;> simp [go_sem, f1, f2, f25, f3, f4, gb4, xpx, xlx, xdx, edgeC, y0, y0', xpx, xlx, xdx, edgeC, ← ec]
  ·have y0' := y0
   try simp at y0'
   have ky0 := condF hc y0
   have ec := Option.some.inj ky0
   simp [go_sem, f1, f2, f25, f3, f4, gb4, xpx, xlx, xdx, edgeC, y0, y0']
   refine EWqcall_pure (w_types_is t fromx x.src _ hq) rfl ?_
   simp [go_sem, f1, f2, f25, f3, f4, gb4, xpx, xlx, xdx, edgeC, y0, y0']
   refine (hM _ _).2 ⟨rfl, ?_⟩ <;> simp [go_sem, f1, f2, f25, f3, f4, gb4, xpx, xlx, xdx, edgeC, y0, y0', ← ec]
 clear f1 f2 f25 f3 f4
 obtain ⟨rfl, f8⟩ := hm
 obtain rfl := Option.some.inj h
 exact SW.ret ⟨AV.bool (c), by simp [go_sem, f8], .lit _, hK.keeps⟩
end Go.Proofs.YtippinddoldhkaaGreat
