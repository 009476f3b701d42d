/-
  Plain functions and the walks that lead to them, by a program of ours (gen.py): scarfjoint/scarfjointref04.node, scarfjoint/scarfjointref04.bound.
-/
import Derived.Test.YtdacgjleiloooaaGreatGd
import Derived.Test.YtdacgjleiloooaaGreatGT
import Derived.Test.YtdacgjleiloooaaGreatB3
import Derived.Test.YtdacgjleiloooaaGreatGS
import Derived.Test.YtdacgjleiloooaaGreatGa6
import Derived.Test.YtdacgjleiloooaaGreatGa7
set_option linter.unusedSimpArgs false
set_option linter.unusedVariables false
namespace Go.Proofs.YtdacgjleiloooaaGreat
open Go Go.Ew Go.Proofs Go.RowKit
set_option maxRecDepth 100000
set_option maxHeartbeats 4000000 in
theorem w_ref04_node (F : Nat) (t : Types) (o : Int) (r : (Int)) (h : s_ref04_node F t o = some r) : PureA Tryz.prog 74 [AV.agg [nodesA (t.nodes), edgesA (t.edges)], AV.int (o)] (AV.int (r)) := by
 refine pureA_of_SW (N := 95) Tryz.func74 (by kernel_rfl) rfl (by rw [Tryz.ntmps74]; rfl) (fun σ0 => ?_)
 rw [Tryz.results74]
 obtain ⟨fr0, hfr⟩ : ∃ fr, fr = initFr [AV.agg [nodesA (t.nodes), edgesA (t.edges)], AV.int (o)] := ⟨_, rfl⟩
 rw [← hfr]
 have f0 : fr0 0 = AV.agg [nodesA (t.nodes), edgesA (t.edges)] := by rw [hfr]; rfl
 have f1 : fr0 1 = AV.int (o) := by rw [hfr]; rfl
 clear hfr
 simp only [s_ref04_node] at h
 refine SW.seq ?_
 refine SW.regX (fun f_ t_ => ∃ b2 : Nat, f_ 1 = AV.int (o) ∧ f_ 2 = AV.ptr b2 0 ∧ Kept σ0 t_ ∧ σ0.next ≤ t_.next ∧ t_.get b2 = some [nodesA (t.nodes), edgesA (t.edges)] ∧ b2 < t_.next ∧ σ0.next ≤ b2) (fun M hM => ?_) (fun fr1 τ hm => ?_)
 ·simp [go_sem, f0, f1]
  refine (hM _ _).2 ⟨σ0.next, ?_, ?_, by intro j hj; simp [go_sem, show ¬ j = σ0.next by omega], by first | omega | (simp [go_sem]; done) | (simp [go_sem]; omega), by simp (disch := omega) [get_alloc_ne, get_set_ne, get_kill_ne, go_sem, f0, f1], by first | omega | (simp [go_sem]; done) | (simp [go_sem]; omega), by omega⟩ <;> simp [go_sem, f0, f1]
 clear f0 f1
 obtain ⟨b2, f1, f2, hK, hN, gb2, ub2, wb2⟩ := hm
 refine SW.seq ?_
 obtain ⟨x, hx, h⟩ := obind h
 have xpx := getI_pos hx
 have xlx := getI_lt hx
 have xix := getI_N hx
 have xdx := getN_flat nodeC 4 (fun _ => rfl) xix
 refine SW.regX (fun f_ t_ => ∃ b5 : Nat, f_ 1 = AV.int (o) ∧ f_ 2 = AV.ptr b2 0 ∧ f_ 5 = AV.ptr b5 0 ∧ Kept σ0 t_ ∧ σ0.next ≤ t_.next ∧ t_.get b2 = some [nodesA (t.nodes), edgesA (t.edges)] ∧ b2 < t_.next ∧ t_.get b5 = some [AV.str (x.name), AV.int (x.parent), AV.bool (x.abst), attrsA (x.attrs)] ∧ b5 < t_.next ∧ σ0.next ≤ b5 ∧ ¬ b2 = b5) (fun M hM => ?_) (fun fr2 τ1 hm => ?_)
 ·have nb2_0 : ¬ b2 = τ.next := by omega
  simp [go_sem, f1, f2, gb2, xpx, xlx, xdx, nodeC, nb2_0]
  refine (hM _ _).2 ⟨τ.next, ?_, ?_, ?_, by intro j hj; have hj_ := hK j hj; simp [go_sem, hj_.1, hj_.2, show ¬ j = τ.next by omega], by first | omega | (simp [go_sem]; done) | (simp [go_sem]; omega), by simp (disch := omega) [get_alloc_ne, get_set_ne, get_kill_ne, go_sem, f1, f2, gb2, xpx, xlx, xdx, nodeC, nb2_0], by first | omega | (simp [go_sem]; done) | (simp [go_sem]; omega), by simp (disch := omega) [get_alloc_ne, get_set_ne, get_kill_ne, go_sem, f1, f2, gb2, xpx, xlx, xdx, nodeC, nb2_0], by first | omega | (simp [go_sem]; done) | (simp [go_sem]; omega), by omega, by omega⟩ <;> simp [go_sem, f1, f2, gb2, xpx, xlx, xdx, nodeC, nb2_0]
 clear f1 f2 hK hN gb2 ub2
 obtain ⟨b5, f1, f2, f5, hK, hN, gb2, ub2, gb5, ub5, wb5, eb2b5⟩ := hm
 refine SW.seq ?_
 refine SW.seq ?_
 obtain ⟨q, hq, h⟩ := obind h
 refine SW.regX (fun f_ t_ => τ1 = t_ ∧ f_ 1 = AV.int (o) ∧ f_ 2 = AV.ptr b2 0 ∧ f_ 5 = AV.ptr b5 0 ∧ f_ 19 = AV.bool ((!q))) (fun M hM => ?_) (fun fr3 τz hm => ?_)
 ·simp [go_sem, f1, f2, f5, gb2, gb5]
  refine EWcall_pure (w_ref01_IsName x.name _ hq) ?_
  simp [go_sem, f1, f2, f5, gb2, gb5]
  refine (hM _ _).2 ⟨rfl, ?_, ?_, ?_, ?_⟩ <;> simp [go_sem, f1, f2, f5, gb2, gb5]
 clear f1 f2 f5
 obtain ⟨rfl, f1, f2, f5, f19⟩ := hm
 refine SW.cond _ f19 (fun hx => ?_) (fun hx => ?_)
 ·have h := condT h hx
  refine SW.seq ?_
  refine SW.regX (fun f_ t_ => τ1 = t_ ∧ f_ 4 = AV.int (2)) (fun M hM => ?_) (fun fr4 τz1 hm => ?_)
  ·simp [go_sem, f1, f19, f2, f5, gb2, gb5]
   refine (hM _ _).2 ⟨rfl, ?_⟩ <;> simp [go_sem, f1, f19, f2, f5, gb2, gb5]
  clear f1 f19 f2 f5
  obtain ⟨rfl, f4⟩ := hm
  obtain rfl := Option.some.inj h
  exact SW.ret ⟨AV.int (2), by simp [go_sem, f4], .lit _, hK.keeps⟩
 have h := condF h hx
 refine SW.skip ?_
 refine SW.seq ?_
 refine SW.seq ?_
 refine SW.regX (fun f_ t_ => τ1 = t_ ∧ f_ 1 = AV.int (o) ∧ f_ 2 = AV.ptr b2 0 ∧ f_ 5 = AV.ptr b5 0 ∧ f_ 6 = AV.int (0)) (fun M hM => ?_) (fun fr5 τz2 hm => ?_)
 ·simp [go_sem, f1, f19, f2, f5, gb2, gb5]
  refine (hM _ _).2 ⟨rfl, ?_, ?_, ?_, ?_⟩ <;> simp [go_sem, f1, f19, f2, f5, gb2, gb5]
 clear f1 f19 f2 f5
 obtain ⟨rfl, f1, f2, f5, f6⟩ := hm
 obtain ⟨oi, hruni, hoi⟩ := obind h
 obtain ⟨hbigi, hruni⟩ := forR_run hruni
 obtain ⟨KL, hKL⟩ : ∃ KL : Fr → Mem → Prop, ∀ fr' τ', KL fr' τ' ↔ (oi = .done () ∧ τ1 = τ' ∧ fr' 1 = AV.int (o) ∧ fr' 2 = AV.ptr b2 0 ∧ fr' 5 = AV.ptr b5 0) := ⟨_, fun _ _ => Iff.rfl⟩
 refine SW.cut KL ?_ ?_
 ·refine SW.block ?_
  obtain ⟨J, hJ⟩ : ∃ J : Nat → Fr → Mem → Prop, ∀ m_ fr' τ', J m_ fr' τ' ↔ (∃ y : Nat, m_ = o.toNat - y ∧ forN (b1_ref04_node t x) (o.toNat - y) y () = some oi ∧ τ1 = τ' ∧ fr' 1 = AV.int (o) ∧ fr' 2 = AV.ptr b2 0 ∧ fr' 5 = AV.ptr b5 0 ∧ fr' 6 = AV.int (((y : Nat) : Int))) := ⟨_, fun _ _ _ => Iff.rfl⟩
  refine SW.loop J (o.toNat - 0) ((hJ _ _ _).2 ⟨0, rfl, hruni, rfl, f1, f2, f5, f6⟩) ?_
  clear hruni
  intro m_ fr6 τ2 hm
  rw [hJ] at hm
  clear f1 f2 f5 f6
  obtain ⟨y, rfl, hruni, rfl, f1, f2, f5, f6⟩ := hm
  refine SW.seq ?_
  refine SW.seq ?_
  refine SW.regX (fun f_ t_ => τ1 = t_ ∧ f_ 1 = AV.int (o) ∧ f_ 2 = AV.ptr b2 0 ∧ f_ 5 = AV.ptr b5 0 ∧ f_ 6 = AV.int (((y : Nat) : Int)) ∧ f_ 22 = AV.bool ((decide (((y : Nat) : Int) < o)))) (fun M hM => ?_) (fun fr7 τz3 hm => ?_)
  ·simp [go_sem, f1, f2, f5, f6, gb2, gb5]
   refine (hM _ _).2 ⟨rfl, ?_, ?_, ?_, ?_, ?_⟩ <;> simp [go_sem, f1, f2, f5, f6, gb2, gb5]
  clear f1 f2 f5 f6
  obtain ⟨rfl, f1, f2, f5, f6, f22⟩ := hm
  refine SW.cond _ f22 (fun hx1 => ?_) (fun hx1 => ?_)
  rotate_left
  ·have hk : ¬ y < o.toNat := by have := of_decide_eq_false hx1; omega
   refine SW.exit rfl ?_
   exact SW.goal ((hKL _ _).2 ⟨forN_end hruni hk, rfl, f1, f2, f5⟩)
  have hky : y < o.toNat := by have := of_decide_eq_true hx1; omega
  have hwy : IntKind.i64.wrap ((y : Int) + 1) = ((y + 1 : Nat) : Int) := by rw [wrap64_of _ (by omega) (by omega)]; rfl
  obtain ⟨ci, hbi, hci⟩ := forN_step hruni hky
  simp only [b1_ref04_node] at hbi
  refine SW.skip ?_
  refine SW.seq ?_
  refine SW.block ?_
  refine SW.seq ?_
  obtain ⟨x1, hx1, hbi⟩ := obind hbi
  have xlx1 := getN_lt hx1
  have xdx1 := getN_flat nodeC 4 (fun _ => rfl) hx1
  refine SW.regX (fun f_ t_ => τ1 = t_ ∧ f_ 1 = AV.int (o) ∧ f_ 2 = AV.ptr b2 0 ∧ f_ 5 = AV.ptr b5 0 ∧ f_ 6 = AV.int (((y : Nat) : Int)) ∧ f_ 33 = AV.bool ((x1.name == x.name))) (fun M hM => ?_) (fun fr8 τz4 hm => ?_)
  ·refine EW_regionD (by kernel_rfl) (by kernel_rfl) ?_
   simp [go_sem, f1, f2, f22, f5, f6, gb2, gb5, xlx1, xdx1, nodeC]
   refine (hM _ _).2 ⟨rfl, ?_, ?_, ?_, ?_, ?_⟩ <;> simp [go_sem, f1, f2, f22, f5, f6, gb2, gb5, xlx1, xdx1, nodeC]
  clear f1 f2 f22 f5 f6
  obtain ⟨rfl, f1, f2, f5, f6, f33⟩ := hm
  refine SW.cond _ f33 (fun hx2 => ?_) (fun hx2 => ?_)
  ·have hbi := condT hbi hx2
   refine SW.seq ?_
   refine SW.regX (fun f_ t_ => τ1 = t_ ∧ f_ 4 = AV.int (5)) (fun M hM => ?_) (fun fr9 τz5 hm => ?_)
   ·simp [go_sem, f1, f2, f33, f5, f6, gb2, gb5]
    refine (hM _ _).2 ⟨rfl, ?_⟩ <;> simp [go_sem, f1, f2, f33, f5, f6, gb2, gb5]
   clear f1 f2 f33 f5 f6
   obtain ⟨rfl, f4⟩ := hm
   obtain rfl := Option.some.inj hbi
   obtain rfl := Option.some.inj hci
   obtain rfl := Option.some.inj hoi
   exact SW.ret ⟨AV.int (5), by simp [go_sem, f4], .lit _, hK.keeps⟩
  have hbi := condF hbi hx2
  refine SW.skip ?_
  refine SW.blk ?_
  refine SW.regX (fun f_ t_ => τ1 = t_ ∧ f_ 1 = AV.int (o) ∧ f_ 2 = AV.ptr b2 0 ∧ f_ 5 = AV.ptr b5 0 ∧ f_ 6 = AV.int (((y + 1 : Nat) : Int))) (fun M hM => ?_) (fun fr10 τz6 hm => ?_)
  ·simp [go_sem, f1, f2, f33, f5, f6, gb2, gb5, hwy]
   refine (hM _ _).2 ⟨rfl, ?_, ?_, ?_, ?_⟩ <;> simp [go_sem, f1, f2, f33, f5, f6, gb2, gb5, hwy]
  clear f1 f2 f33 f5 f6
  obtain ⟨rfl, f1, f2, f5, f6⟩ := hm
  obtain rfl := Option.some.inj hbi
  exact SW.goal ⟨o.toNat - (y + 1), by omega, (hJ _ _ _).2 ⟨y + 1, rfl, hci, rfl, f1, f2, f5, f6⟩⟩
 intro fr11 τ3 hm
 rw [hKL] at hm
 clear hKL hruni
 clear f1 f2 f5 f6
 obtain ⟨rfl, rfl, f1, f2, f5⟩ := hm
 simp only [Out.on] at hoi
 refine SW.seq ?_
 refine SW.seq ?_
 obtain ⟨q1, hq1, hoi⟩ := obind hoi
 refine SW.regX (fun f_ t_ => τ1 = t_ ∧ f_ 1 = AV.int (o) ∧ f_ 2 = AV.ptr b2 0 ∧ f_ 5 = AV.ptr b5 0 ∧ f_ 39 = AV.bool ((!q1))) (fun M hM => ?_) (fun fr12 τz7 hm => ?_)
 ·simp [go_sem, f1, f2, f5, gb2, gb5]
  refine EWcall_pure (w_ref04_in x.parent (-1) (IntKind.i64.wrap (o - 1)) _ hq1) ?_
  simp [go_sem, f1, f2, f5, gb2, gb5]
  refine (hM _ _).2 ⟨rfl, ?_, ?_, ?_, ?_⟩ <;> simp [go_sem, f1, f2, f5, gb2, gb5]
 clear f1 f2 f5
 obtain ⟨rfl, f1, f2, f5, f39⟩ := hm
 refine SW.cond _ f39 (fun hx3 => ?_) (fun hx3 => ?_)
 ·have hoi := condT hoi hx3
  refine SW.seq ?_
  refine SW.regX (fun f_ t_ => τ1 = t_ ∧ f_ 4 = AV.int (6)) (fun M hM => ?_) (fun fr13 τz8 hm => ?_)
  ·simp [go_sem, f1, f2, f39, f5, gb2, gb5]
   refine (hM _ _).2 ⟨rfl, ?_⟩ <;> simp [go_sem, f1, f2, f39, f5, gb2, gb5]
  clear f1 f2 f39 f5
  obtain ⟨rfl, f4⟩ := hm
  obtain rfl := Option.some.inj hoi
  exact SW.ret ⟨AV.int (6), by simp [go_sem, f4], .lit _, hK.keeps⟩
 have hoi := condF hoi hx3
 refine SW.skip ?_
 refine SW.seq ?_
 obtain ⟨rx, hrx, hoi⟩ := obind hoi
 refine SW.regX (fun f_ t_ => τ1 = t_ ∧ f_ 5 = AV.ptr b5 0 ∧ f_ 7 = attrsA (rx)) (fun M hM => ?_) (fun fr14 τz9 hm => ?_)
 ·simp [go_sem, f1, f2, f39, f5, gb2, gb5]
  refine EWcall_pure (w_ref04_attrs F t o _ hrx) ?_
  simp [go_sem, f1, f2, f39, f5, gb2, gb5]
  refine (hM _ _).2 ⟨rfl, ?_, ?_⟩ <;> simp [go_sem, f1, f2, f39, f5, gb2, gb5]
 clear f1 f2 f39 f5
 obtain ⟨rfl, f5, f7⟩ := hm
 refine SW.seq ?_
 refine SW.seq ?_
 refine SW.regX (fun f_ t_ => τ1 = t_ ∧ f_ 5 = AV.ptr b5 0 ∧ f_ 7 = attrsA (rx) ∧ f_ 51 = AV.bool ((((decide (4 < ((x.attrs.length : Nat) : Int)))) || ((decide (8 < ((rx.length : Nat) : Int))))))) (fun M hM => ?_) (fun fr15 τz10 hm => ?_)
 ·rcases Bool.eq_false_or_eq_true ((decide (4 < ((x.attrs.length : Nat) : Int)))) with y0 | y0
  ·have y0' := y0
   try simp at y0'
   simp [go_sem, f5, f7, gb5, y0, y0']
   refine (hM _ _).2 ⟨rfl, ?_, ?_, ?_⟩ <;> simp [go_sem, f5, f7, gb5, y0, y0']
  ·have y0' := y0
   try simp at y0'
   simp [go_sem, f5, f7, gb5, y0, y0']
   refine (hM _ _).2 ⟨rfl, ?_, ?_, ?_⟩ <;> simp [go_sem, f5, f7, gb5, y0, y0']
 clear f5 f7
 obtain ⟨rfl, f5, f7, f51⟩ := hm
 refine SW.cond _ f51 (fun hx4 => ?_) (fun hx4 => ?_)
 ·have hoi := condT hoi hx4
  refine SW.seq ?_
  refine SW.regX (fun f_ t_ => τ1 = t_ ∧ f_ 4 = AV.int (3)) (fun M hM => ?_) (fun fr16 τz11 hm => ?_)
  ·simp [go_sem, f5, f51, f7, gb5]
   refine (hM _ _).2 ⟨rfl, ?_⟩ <;> simp [go_sem, f5, f51, f7, gb5]
  clear f5 f51 f7
  obtain ⟨rfl, f4⟩ := hm
  obtain rfl := Option.some.inj hoi
  exact SW.ret ⟨AV.int (3), by simp [go_sem, f4], .lit _, hK.keeps⟩
 have hoi := condF hoi hx4
 refine SW.skip ?_
 refine SW.seq ?_
 refine SW.seq ?_
 refine SW.regX (fun f_ t_ => τ1 = t_ ∧ f_ 7 = attrsA (rx) ∧ f_ 8 = AV.int ((IntKind.i64.wrap (((rx.length : Nat) : Int) - ((x.attrs.length : Nat) : Int))))) (fun M hM => ?_) (fun fr17 τz12 hm => ?_)
 ·simp [go_sem, f5, f51, f7, gb5]
  refine (hM _ _).2 ⟨rfl, ?_, ?_⟩ <;> simp [go_sem, f5, f51, f7, gb5]
 clear f5 f51 f7
 obtain ⟨rfl, f7, f8⟩ := hm
 obtain ⟨oi1, hruni1, hoi1⟩ := obind hoi
 obtain ⟨KL, hKL⟩ : ∃ KL : Fr → Mem → Prop, ∀ fr' τ', KL fr' τ' ↔ (∃ t8 : Int, oi1 = .done t8 ∧ τ1 = τ') := ⟨_, fun _ _ => Iff.rfl⟩
 refine SW.cut KL ?_ ?_
 ·refine SW.block ?_
  obtain ⟨J, hJ⟩ : ∃ J : Nat → Fr → Mem → Prop, ∀ m_ fr' τ', J m_ fr' τ' ↔ (∃ t8 : Int, whileG (b3_ref04_node rx) m_ t8 = some oi1 ∧ τ1 = τ' ∧ fr' 7 = attrsA (rx) ∧ fr' 8 = AV.int (t8)) := ⟨_, fun _ _ _ => Iff.rfl⟩
  refine SW.loop J F ((hJ _ _ _).2 ⟨(IntKind.i64.wrap (((rx.length : Nat) : Int) - ((x.attrs.length : Nat) : Int))), hruni1, rfl, f7, f8⟩) ?_
  clear hruni1
  intro m_ fr18 τ4 hm
  rw [hJ] at hm
  clear f7 f8
  obtain ⟨t8, hruni1, rfl, f7, f8⟩ := hm
  obtain ⟨F', ci1, rfl, hbi1, hci1⟩ := whileG_step hruni1
  simp only [b3_ref04_node] at hbi1
  refine SW.seq ?_
  refine SW.seq ?_
  refine SW.regX (fun f_ t_ => τ1 = t_ ∧ f_ 7 = attrsA (rx) ∧ f_ 8 = AV.int (t8) ∧ f_ 61 = AV.bool ((decide (t8 < ((rx.length : Nat) : Int))))) (fun M hM => ?_) (fun fr19 τz13 hm => ?_)
  ·simp [go_sem, f7, f8]
   refine (hM _ _).2 ⟨rfl, ?_, ?_, ?_⟩ <;> simp [go_sem, f7, f8]
  clear f7 f8
  obtain ⟨rfl, f7, f8, f61⟩ := hm
  refine SW.cond _ f61 (fun hx5 => ?_) (fun hx5 => ?_)
  ·have hbi1 := condT hbi1 hx5
   refine SW.skip ?_
   refine SW.seq ?_
   refine SW.block ?_
   refine SW.seq ?_
   refine SW.seq ?_
   obtain ⟨x2, hx2, hbi1⟩ := obind hbi1
   have xpx2 := getI_pos hx2
   have xlx2 := getI_lt hx2
   have xix2 := getI_N hx2
   have xdx2 := getN_flat attrC 4 (fun _ => rfl) xix2
   obtain ⟨q2, hq2, hbi1⟩ := obind hbi1
   refine SW.regX (fun f_ t_ => τ1 = t_ ∧ f_ 7 = attrsA (rx) ∧ f_ 8 = AV.int (t8) ∧ f_ 70 = AV.bool ((!q2))) (fun M hM => ?_) (fun fr20 τz14 hm => ?_)
   ·simp [go_sem, f61, f7, f8, xpx2, xlx2, xdx2, attrC]
    refine EWcall_pure (w_ref01_IsName x2.name _ hq2) ?_
    simp [go_sem, f61, f7, f8, xpx2, xlx2, xdx2, attrC]
    refine (hM _ _).2 ⟨rfl, ?_, ?_, ?_⟩ <;> simp [go_sem, f61, f7, f8, xpx2, xlx2, xdx2, attrC]
   clear f61 f7 f8
   obtain ⟨rfl, f7, f8, f70⟩ := hm
   refine SW.cond _ f70 (fun hx6 => ?_) (fun hx6 => ?_)
   ·have hbi1 := condT hbi1 hx6
    refine SW.seq ?_
    refine SW.regX (fun f_ t_ => τ1 = t_ ∧ f_ 4 = AV.int (2)) (fun M hM => ?_) (fun fr21 τz15 hm => ?_)
    ·simp [go_sem, f7, f70, f8]
     refine (hM _ _).2 ⟨rfl, ?_⟩ <;> simp [go_sem, f7, f70, f8]
    clear f7 f70 f8
    obtain ⟨rfl, f4⟩ := hm
    obtain rfl := Option.some.inj hbi1
    obtain rfl := Option.some.inj hci1
    obtain rfl := Option.some.inj hoi1
    exact SW.ret ⟨AV.int (2), by simp [go_sem, f4], .lit _, hK.keeps⟩
   have hbi1 := condF hbi1 hx6
   refine SW.skip ?_
   refine SW.seq ?_
   refine SW.seq ?_
   refine SW.regX (fun f_ t_ => τ1 = t_ ∧ f_ 7 = attrsA (rx) ∧ f_ 8 = AV.int (t8) ∧ f_ 9 = AV.int (0)) (fun M hM => ?_) (fun fr22 τz16 hm => ?_)
   ·simp [go_sem, f7, f70, f8]
    refine (hM _ _).2 ⟨rfl, ?_, ?_, ?_⟩ <;> simp [go_sem, f7, f70, f8]
   clear f7 f70 f8
   obtain ⟨rfl, f7, f8, f9⟩ := hm
   obtain ⟨oi2, hruni2, hoi2⟩ := obind hbi1
   obtain ⟨hbigi2, hruni2⟩ := forR_run hruni2
   obtain ⟨KL, hKL⟩ : ∃ KL : Fr → Mem → Prop, ∀ fr' τ', KL fr' τ' ↔ (oi2 = .done () ∧ τ1 = τ' ∧ fr' 7 = attrsA (rx) ∧ fr' 8 = AV.int (t8)) := ⟨_, fun _ _ => Iff.rfl⟩
   refine SW.cut KL ?_ ?_
   ·refine SW.block ?_
    obtain ⟨J, hJ⟩ : ∃ J : Nat → Fr → Mem → Prop, ∀ m_ fr' τ', J m_ fr' τ' ↔ (∃ k : Nat, m_ = t8.toNat - k ∧ forN (b4_ref04_node rx x2) (t8.toNat - k) k () = some oi2 ∧ τ1 = τ' ∧ fr' 7 = attrsA (rx) ∧ fr' 8 = AV.int (t8) ∧ fr' 9 = AV.int (((k : Nat) : Int))) := ⟨_, fun _ _ _ => Iff.rfl⟩
    refine SW.loop J (t8.toNat - 0) ((hJ _ _ _).2 ⟨0, rfl, hruni2, rfl, f7, f8, f9⟩) ?_
    clear hruni2
    intro m_ fr23 τ5 hm
    rw [hJ] at hm
    clear f7 f8 f9
    obtain ⟨k, rfl, hruni2, rfl, f7, f8, f9⟩ := hm
    refine SW.seq ?_
    refine SW.seq ?_
    refine SW.regX (fun f_ t_ => τ1 = t_ ∧ f_ 7 = attrsA (rx) ∧ f_ 8 = AV.int (t8) ∧ f_ 9 = AV.int (((k : Nat) : Int)) ∧ f_ 73 = AV.bool ((decide (((k : Nat) : Int) < t8)))) (fun M hM => ?_) (fun fr24 τz17 hm => ?_)
    ·simp [go_sem, f7, f8, f9]
     refine (hM _ _).2 ⟨rfl, ?_, ?_, ?_, ?_⟩ <;> simp [go_sem, f7, f8, f9]
    clear f7 f8 f9
    obtain ⟨rfl, f7, f8, f9, f73⟩ := hm
    refine SW.cond _ f73 (fun hx7 => ?_) (fun hx7 => ?_)
    rotate_left
    ·have hk : ¬ k < t8.toNat := by have := of_decide_eq_false hx7; omega
     refine SW.exit rfl ?_
     exact SW.goal ((hKL _ _).2 ⟨forN_end hruni2 hk, rfl, f7, f8⟩)
    have hkk : k < t8.toNat := by have := of_decide_eq_true hx7; omega
    have hwk : IntKind.i64.wrap ((k : Int) + 1) = ((k + 1 : Nat) : Int) := by rw [wrap64_of _ (by omega) (by omega)]; rfl
    obtain ⟨ci2, hbi2, hci2⟩ := forN_step hruni2 hkk
    simp only [b4_ref04_node] at hbi2
    refine SW.skip ?_
    refine SW.seq ?_
    refine SW.block ?_
    refine SW.seq ?_
    obtain ⟨x3, hx3, hbi2⟩ := obind hbi2
    have xlx3 := getN_lt hx3
    have xdx3 := getN_flat attrC 4 (fun _ => rfl) hx3
    refine SW.regX (fun f_ t_ => τ1 = t_ ∧ f_ 7 = attrsA (rx) ∧ f_ 8 = AV.int (t8) ∧ f_ 9 = AV.int (((k : Nat) : Int)) ∧ f_ 86 = AV.bool ((x3.name == x2.name))) (fun M hM => ?_) (fun fr25 τz18 hm => ?_)
    ·refine EW_regionD (by kernel_rfl) (by kernel_rfl) ?_
     simp [go_sem, f7, f73, f8, f9, xlx3, xdx3, attrC, xpx2, xlx2, xdx2]
     refine (hM _ _).2 ⟨rfl, ?_, ?_, ?_, ?_⟩ <;> simp [go_sem, f7, f73, f8, f9, xlx3, xdx3, attrC, xpx2, xlx2, xdx2]
    clear f7 f73 f8 f9
    obtain ⟨rfl, f7, f8, f9, f86⟩ := hm
    refine SW.cond _ f86 (fun hx8 => ?_) (fun hx8 => ?_)
    ·have hbi2 := condT hbi2 hx8
     refine SW.seq ?_
     refine SW.regX (fun f_ t_ => τ1 = t_ ∧ f_ 4 = AV.int (5)) (fun M hM => ?_) (fun fr26 τz19 hm => ?_)
     ·simp [go_sem, f7, f8, f86, f9]
      refine (hM _ _).2 ⟨rfl, ?_⟩ <;> simp [go_sem, f7, f8, f86, f9]
     clear f7 f8 f86 f9
     obtain ⟨rfl, f4⟩ := hm
     obtain rfl := Option.some.inj hbi2
     obtain rfl := Option.some.inj hci2
     obtain rfl := Option.some.inj hoi2
     obtain rfl := Option.some.inj hci1
     obtain rfl := Option.some.inj hoi1
     exact SW.ret ⟨AV.int (5), by simp [go_sem, f4], .lit _, hK.keeps⟩
    have hbi2 := condF hbi2 hx8
    refine SW.skip ?_
    refine SW.blk ?_
    refine SW.regX (fun f_ t_ => τ1 = t_ ∧ f_ 7 = attrsA (rx) ∧ f_ 8 = AV.int (t8) ∧ f_ 9 = AV.int (((k + 1 : Nat) : Int))) (fun M hM => ?_) (fun fr27 τz20 hm => ?_)
    ·simp [go_sem, f7, f8, f86, f9, hwk]
     refine (hM _ _).2 ⟨rfl, ?_, ?_, ?_⟩ <;> simp [go_sem, f7, f8, f86, f9, hwk]
    clear f7 f8 f86 f9
    obtain ⟨rfl, f7, f8, f9⟩ := hm
    obtain rfl := Option.some.inj hbi2
    exact SW.goal ⟨t8.toNat - (k + 1), by omega, (hJ _ _ _).2 ⟨k + 1, rfl, hci2, rfl, f7, f8, f9⟩⟩
   intro fr28 τ6 hm
   rw [hKL] at hm
   clear hKL hruni2
   clear f7 f8 f9
   obtain ⟨rfl, rfl, f7, f8⟩ := hm
   simp only [Out.on] at hoi2
   refine SW.seq ?_
   obtain ⟨n, hn, hoi2⟩ := obind hoi2
   refine SW.regX (fun f_ t_ => τ1 = t_ ∧ f_ 7 = attrsA (rx) ∧ f_ 8 = AV.int (t8) ∧ f_ 10 = AV.int (n)) (fun M hM => ?_) (fun fr29 τz21 hm => ?_)
   ·simp [go_sem, f7, f8, xpx2, xlx2, xdx2, attrC]
    refine EWcall_pure (w_ref04_attribute x2 _ hn) ?_
    simp [go_sem, f7, f8, xpx2, xlx2, xdx2, attrC]
    refine (hM _ _).2 ⟨rfl, ?_, ?_, ?_⟩ <;> simp [go_sem, f7, f8, xpx2, xlx2, xdx2, attrC]
   clear f7 f8
   obtain ⟨rfl, f7, f8, f10⟩ := hm
   refine SW.seq ?_
   refine SW.regX (fun f_ t_ => τ1 = t_ ∧ f_ 7 = attrsA (rx) ∧ f_ 8 = AV.int (t8) ∧ f_ 10 = AV.int (n) ∧ f_ 93 = AV.bool ((!decide (n = 0)))) (fun M hM => ?_) (fun fr30 τz22 hm => ?_)
   ·simp [go_sem, f10, f7, f8]
    refine (hM _ _).2 ⟨rfl, ?_, ?_, ?_, ?_⟩ <;> simp [go_sem, f10, f7, f8]
   clear f10 f7 f8
   obtain ⟨rfl, f7, f8, f10, f93⟩ := hm
   refine SW.cond _ f93 (fun hx9 => ?_) (fun hx9 => ?_)
   ·have hoi2 := condT hoi2 hx9
    refine SW.seq ?_
    refine SW.regX (fun f_ t_ => τ1 = t_ ∧ f_ 4 = AV.int (n)) (fun M hM => ?_) (fun fr31 τz23 hm => ?_)
    ·simp [go_sem, f10, f7, f8, f93]
     refine (hM _ _).2 ⟨rfl, ?_⟩ <;> simp [go_sem, f10, f7, f8, f93]
    clear f10 f7 f8 f93
    obtain ⟨rfl, f4⟩ := hm
    obtain rfl := Option.some.inj hoi2
    obtain rfl := Option.some.inj hci1
    obtain rfl := Option.some.inj hoi1
    exact SW.ret ⟨AV.int (n), by simp [go_sem, f4], .lit _, hK.keeps⟩
   have hoi2 := condF hoi2 hx9
   refine SW.skip ?_
   refine SW.blk ?_
   refine SW.regX (fun f_ t_ => τ1 = t_ ∧ f_ 7 = attrsA (rx) ∧ f_ 8 = AV.int ((IntKind.i64.wrap (t8 + 1)))) (fun M hM => ?_) (fun fr32 τz24 hm => ?_)
   ·simp [go_sem, f10, f7, f8, f93]
    refine (hM _ _).2 ⟨rfl, ?_, ?_⟩ <;> simp [go_sem, f10, f7, f8, f93]
   clear f10 f7 f8 f93
   obtain ⟨rfl, f7, f8⟩ := hm
   obtain rfl := Option.some.inj hoi2
   exact SW.goal ⟨_, Nat.lt_succ_self _, (hJ _ _ _).2 ⟨(IntKind.i64.wrap (t8 + 1)), hci1, rfl, f7, f8⟩⟩
  have hbi1 := condF hbi1 hx5
  refine SW.exit rfl ?_
  obtain rfl := Option.some.inj hbi1
  exact SW.goal ((hKL _ _).2 ⟨t8, (Option.some.inj hci1).symm, rfl⟩)
 intro fr33 τ7 hm
 rw [hKL] at hm
 clear hKL hruni1
 clear f7 f8
 obtain ⟨t8, rfl, rfl⟩ := hm
 simp only [Out.on] at hoi1
 refine SW.seq ?_
 refine SW.regX (fun f_ t_ => τ1 = t_ ∧ f_ 4 = AV.int (0)) (fun M hM => ?_) (fun fr34 τz25 hm => ?_)
 ·simp [go_sem]
  refine (hM _ _).2 ⟨rfl, ?_⟩ <;> simp [go_sem]
 obtain ⟨rfl, f4⟩ := hm
 obtain rfl := Option.some.inj hoi1
 exact SW.ret ⟨AV.int (0), by simp [go_sem, f4], .lit _, hK.keeps⟩
set_option maxHeartbeats 4000000 in
theorem w_ref04_bound (low : Int) (high : Int) (r : (Bool)) (h : s_ref04_bound low high = some r) : PureA Tryz.prog 102 [AV.int (low), AV.int (high)] (AV.bool (r)) := by
 refine pureA_of_SW (N := 16) Tryz.func102 (by kernel_rfl) rfl (by rw [Tryz.ntmps102]; rfl) (fun σ0 => ?_)
 rw [Tryz.results102]
 obtain ⟨fr0, hfr⟩ : ∃ fr, fr = initFr [AV.int (low), AV.int (high)] := ⟨_, rfl⟩
 rw [← hfr]
 have f0 : fr0 0 = AV.int (low) := by rw [hfr]; rfl
 have f1 : fr0 1 = AV.int (high) := by rw [hfr]; rfl
 clear hfr
 simp only [s_ref04_bound] at h
 refine SW.seq ?_
 refine SW.regX (fun f_ t_ => σ0 = t_ ∧ f_ 0 = AV.int (low) ∧ f_ 1 = AV.int (high)) (fun M hM => ?_) (fun fr1 τz hm => ?_)
 ·simp [go_sem, f0, f1]
  refine (hM _ _).2 ⟨rfl, ?_, ?_⟩ <;> simp [go_sem, f0, f1]
 clear f0 f1
 obtain ⟨rfl, f0, f1⟩ := hm
 refine SW.seq ?_
 obtain ⟨q, hq, h⟩ := obind h
 obtain ⟨c, hc, h⟩ := obind h
 refine SW.regX (fun f_ t_ => σ0 = t_ ∧ f_ 4 = AV.bool (c)) (fun M hM => ?_) (fun fr2 τz1 hm => ?_)
 ·rcases Bool.eq_false_or_eq_true q with y0 | y0
  ·have y0' := y0
   try simp at y0'
   have ky0 := condT hc y0
   rcases Bool.eq_false_or_eq_true ((decide (high = -1))) with y2 | y2
   ·have y2' := y2
    try simp [y0'] at y2'
    have ky2 := condT ky0 y2
    have ec := Option.some.inj ky2
    simp [go_sem, f0, f1, y0, y0', y2, y2']
    refine EWcall_pure (w_ref04_in low 0 40 _ hq) ?_
    simp [go_sem, f0, f1, y0, y0', y2, y2']
    refine (hM _ _).2 ⟨rfl, ?_⟩ <;> simp [go_sem, f0, f1, y0, y0', y2, y2', ← ec]
   ·have y2' := y2
    try simp [y0'] at y2'
    have ky2 := condF ky0 y2
    obtain ⟨q1, hq1, ky2⟩ := obind ky2
    have ec := Option.some.inj ky2
    simp [go_sem, f0, f1, y0, y0', y2, y2']
    refine EWcall_pure (w_ref04_in low 0 40 _ hq) ?_
    simp [go_sem, f0, f1, y0, y0', y2, y2']
    refine EWcall_pure (w_ref04_in high low 40 _ hq1) ?_
    simp [go_sem, f0, f1, y0, y0', y2, y2']
    refine (hM _ _).2 ⟨rfl, ?_⟩ <;> simp [go_sem, f0, f1, y0, y0', y2, y2', ← ec]
  ·have y0' := y0
   try simp at y0'
   have ky0 := condF hc y0
   have ec := Option.some.inj ky0
   simp [go_sem, f0, f1, y0, y0']
   refine EWcall_pure (w_ref04_in low 0 40 _ hq) ?_
   simp [go_sem, f0, f1, y0, y0']
   refine (hM _ _).2 ⟨rfl, ?_⟩ <;> simp [go_sem, f0, f1, y0, y0', ← ec]
 clear f0 f1
 obtain ⟨rfl, f4⟩ := hm
 obtain rfl := Option.some.inj h
 exact SW.ret ⟨AV.bool (c), by simp [go_sem, f4], .lit _, Keeps.refl _⟩
end Go.Proofs.YtdacgjleiloooaaGreat
