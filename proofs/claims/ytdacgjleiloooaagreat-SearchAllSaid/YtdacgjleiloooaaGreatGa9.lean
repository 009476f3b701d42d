/-
  Plain functions and the walks that lead to them, by a program of ours (gen.py): scarfjoint/scarfjointref04.edge, scarfjoint/scarfjointref04.Valid, scarfjoint/scarfjointref05.kind.
-/
import Derived.Test.YtdacgjleiloooaaGreatGd
import Derived.Test.YtdacgjleiloooaaGreatGT
import Derived.Test.YtdacgjleiloooaaGreatB3
import Derived.Test.YtdacgjleiloooaaGreatGS
import Derived.Test.YtdacgjleiloooaaGreatGa6
import Derived.Test.YtdacgjleiloooaaGreatGa8
set_option linter.unusedSimpArgs false
set_option linter.unusedVariables false
namespace Go.Proofs.YtdacgjleiloooaaGreat
open Go Go.Ew Go.Proofs Go.RowKit
set_option maxRecDepth 100000
set_option maxHeartbeats 4000000 in
theorem w_ref04_edge (t : Types) (i : Int) (r : (Int)) (h : s_ref04_edge t i = some r) : PureA Tryz.prog 75 [AV.agg [nodesA (t.nodes), edgesA (t.edges)], AV.int (i)] (AV.int (r)) := by
 refine pureA_of_SW (N := 63) Tryz.func75 (by kernel_rfl) rfl (by rw [Tryz.ntmps75]; rfl) (fun σ0 => ?_)
 rw [Tryz.results75]
 obtain ⟨fr0, hfr⟩ : ∃ fr, fr = initFr [AV.agg [nodesA (t.nodes), edgesA (t.edges)], AV.int (i)] := ⟨_, rfl⟩
 rw [← hfr]
 have f0 : fr0 0 = AV.agg [nodesA (t.nodes), edgesA (t.edges)] := by rw [hfr]; rfl
 have f1 : fr0 1 = AV.int (i) := by rw [hfr]; rfl
 clear hfr
 simp only [s_ref04_edge] at h
 refine SW.seq ?_
 refine SW.regX (fun f_ t_ => ∃ b2 : Nat, f_ 1 = AV.int (i) ∧ f_ 2 = AV.ptr b2 0 ∧ Kept σ0 t_ ∧ σ0.next ≤ t_.next ∧ t_.get b2 = some [nodesA (t.nodes), edgesA (t.edges)] ∧ b2 < t_.next ∧ σ0.next ≤ b2) (fun M hM => ?_) (fun fr1 τ hm => ?_)
 ·simp [go_sem, f0, f1]
  refine (hM _ _).2 ⟨σ0.next, ?_, ?_, by intro j hj; simp [go_sem, show ¬ j = σ0.next by omega], by first | omega | (simp [go_sem]; done) | (simp [go_sem]; omega), by simp (disch := omega) [get_alloc_ne, get_set_ne, get_kill_ne, go_sem, f0, f1], by first | omega | (simp [go_sem]; done) | (simp [go_sem]; omega), by omega⟩ <;> simp [go_sem, f0, f1]
 clear f0 f1
 obtain ⟨b2, f1, f2, hK, hN, gb2, ub2, wb2⟩ := hm
 refine SW.seq ?_
 obtain ⟨x, hx, h⟩ := obind h
 have xpx := getI_pos hx
 have xlx := getI_lt hx
 have xix := getI_N hx
 have xdx := getN_flat edgeC 7 (fun _ => rfl) xix
 refine SW.regX (fun f_ t_ => ∃ b5 : Nat, f_ 1 = AV.int (i) ∧ f_ 2 = AV.ptr b2 0 ∧ f_ 5 = AV.ptr b5 0 ∧ Kept σ0 t_ ∧ σ0.next ≤ t_.next ∧ t_.get b2 = some [nodesA (t.nodes), edgesA (t.edges)] ∧ b2 < t_.next ∧ t_.get b5 = some [AV.str (x.name), AV.int (x.src), AV.int (x.tgt), AV.int (x.outLow), AV.int (x.outHigh), AV.int (x.inLow), AV.int (x.inHigh)] ∧ b5 < t_.next ∧ σ0.next ≤ b5 ∧ ¬ b2 = b5) (fun M hM => ?_) (fun fr2 τ1 hm => ?_)
 ·have nb2_0 : ¬ b2 = τ.next := by omega
  simp [go_sem, f1, f2, gb2, xpx, xlx, xdx, edgeC, nb2_0]
  refine (hM _ _).2 ⟨τ.next, ?_, ?_, ?_, by intro j hj; have hj_ := hK j hj; simp [go_sem, hj_.1, hj_.2, show ¬ j = τ.next by omega], by first | omega | (simp [go_sem]; done) | (simp [go_sem]; omega), by simp (disch := omega) [get_alloc_ne, get_set_ne, get_kill_ne, go_sem, f1, f2, gb2, xpx, xlx, xdx, edgeC, nb2_0], by first | omega | (simp [go_sem]; done) | (simp [go_sem]; omega), by simp (disch := omega) [get_alloc_ne, get_set_ne, get_kill_ne, go_sem, f1, f2, gb2, xpx, xlx, xdx, edgeC, nb2_0], by first | omega | (simp [go_sem]; done) | (simp [go_sem]; omega), by omega, by omega⟩ <;> simp [go_sem, f1, f2, gb2, xpx, xlx, xdx, edgeC, nb2_0]
 clear f1 f2 hK hN gb2 ub2
 obtain ⟨b5, f1, f2, f5, hK, hN, gb2, ub2, gb5, ub5, wb5, eb2b5⟩ := hm
 refine SW.seq ?_
 refine SW.seq ?_
 obtain ⟨q, hq, h⟩ := obind h
 refine SW.regX (fun f_ t_ => τ1 = t_ ∧ f_ 1 = AV.int (i) ∧ f_ 2 = AV.ptr b2 0 ∧ f_ 5 = AV.ptr b5 0 ∧ f_ 16 = AV.bool ((!q))) (fun M hM => ?_) (fun fr3 τz hm => ?_)
 ·simp [go_sem, f1, f2, f5, gb2, gb5]
  refine EWcall_pure (w_ref01_IsName x.name _ hq) ?_
  simp [go_sem, f1, f2, f5, gb2, gb5]
  refine (hM _ _).2 ⟨rfl, ?_, ?_, ?_, ?_⟩ <;> simp [go_sem, f1, f2, f5, gb2, gb5]
 clear f1 f2 f5
 obtain ⟨rfl, f1, f2, f5, f16⟩ := hm
 refine SW.cond _ f16 (fun hx => ?_) (fun hx => ?_)
 ·have h := condT h hx
  refine SW.seq ?_
  refine SW.regX (fun f_ t_ => τ1 = t_ ∧ f_ 4 = AV.int (2)) (fun M hM => ?_) (fun fr4 τz1 hm => ?_)
  ·simp [go_sem, f1, f16, f2, f5, gb2, gb5]
   refine (hM _ _).2 ⟨rfl, ?_⟩ <;> simp [go_sem, f1, f16, f2, f5, gb2, gb5]
  clear f1 f16 f2 f5
  obtain ⟨rfl, f4⟩ := hm
  obtain rfl := Option.some.inj h
  exact SW.ret ⟨AV.int (2), by simp [go_sem, f4], .lit _, hK.keeps⟩
 have h := condF h hx
 refine SW.skip ?_
 refine SW.seq ?_
 refine SW.seq ?_
 refine SW.regX (fun f_ t_ => τ1 = t_ ∧ f_ 1 = AV.int (i) ∧ f_ 2 = AV.ptr b2 0 ∧ f_ 5 = AV.ptr b5 0 ∧ f_ 6 = AV.int (0)) (fun M hM => ?_) (fun fr5 τz2 hm => ?_)
 ·simp [go_sem, f1, f16, f2, f5, gb2, gb5]
  refine (hM _ _).2 ⟨rfl, ?_, ?_, ?_, ?_⟩ <;> simp [go_sem, f1, f16, f2, f5, gb2, gb5]
 clear f1 f16 f2 f5
 obtain ⟨rfl, f1, f2, f5, f6⟩ := hm
 obtain ⟨oi1, hruni1, hoi1⟩ := obind h
 obtain ⟨hbigi1, hruni1⟩ := forR_run hruni1
 obtain ⟨KL, hKL⟩ : ∃ KL : Fr → Mem → Prop, ∀ fr' τ', KL fr' τ' ↔ (oi1 = .done () ∧ τ1 = τ' ∧ fr' 2 = AV.ptr b2 0 ∧ fr' 5 = AV.ptr b5 0) := ⟨_, fun _ _ => Iff.rfl⟩
 refine SW.cut KL ?_ ?_
 ·refine SW.block ?_
  obtain ⟨J, hJ⟩ : ∃ J : Nat → Fr → Mem → Prop, ∀ m_ fr' τ', J m_ fr' τ' ↔ (∃ k : Nat, m_ = i.toNat - k ∧ forN (b1_ref04_edge t x) (i.toNat - k) k () = some oi1 ∧ τ1 = τ' ∧ fr' 1 = AV.int (i) ∧ fr' 2 = AV.ptr b2 0 ∧ fr' 5 = AV.ptr b5 0 ∧ fr' 6 = AV.int (((k : Nat) : Int))) := ⟨_, fun _ _ _ => Iff.rfl⟩
  refine SW.loop J (i.toNat - 0) ((hJ _ _ _).2 ⟨0, rfl, hruni1, rfl, f1, f2, f5, f6⟩) ?_
  clear hruni1
  intro m_ fr6 τ2 hm
  rw [hJ] at hm
  clear f1 f2 f5 f6
  obtain ⟨k, rfl, hruni1, rfl, f1, f2, f5, f6⟩ := hm
  refine SW.seq ?_
  refine SW.seq ?_
  refine SW.regX (fun f_ t_ => τ1 = t_ ∧ f_ 1 = AV.int (i) ∧ f_ 2 = AV.ptr b2 0 ∧ f_ 5 = AV.ptr b5 0 ∧ f_ 6 = AV.int (((k : Nat) : Int)) ∧ f_ 19 = AV.bool ((decide (((k : Nat) : Int) < i)))) (fun M hM => ?_) (fun fr7 τz3 hm => ?_)
  ·simp [go_sem, f1, f2, f5, f6, gb2, gb5]
   refine (hM _ _).2 ⟨rfl, ?_, ?_, ?_, ?_, ?_⟩ <;> simp [go_sem, f1, f2, f5, f6, gb2, gb5]
  clear f1 f2 f5 f6
  obtain ⟨rfl, f1, f2, f5, f6, f19⟩ := hm
  refine SW.cond _ f19 (fun hx1 => ?_) (fun hx1 => ?_)
  rotate_left
  ·have hk : ¬ k < i.toNat := by have := of_decide_eq_false hx1; omega
   refine SW.exit rfl ?_
   exact SW.goal ((hKL _ _).2 ⟨forN_end hruni1 hk, rfl, f2, f5⟩)
  have hkk : k < i.toNat := by have := of_decide_eq_true hx1; omega
  have hwk : IntKind.i64.wrap ((k : Int) + 1) = ((k + 1 : Nat) : Int) := by rw [wrap64_of _ (by omega) (by omega)]; rfl
  obtain ⟨ci1, hbi1, hci1⟩ := forN_step hruni1 hkk
  simp only [b1_ref04_edge] at hbi1
  refine SW.skip ?_
  refine SW.seq ?_
  refine SW.block ?_
  refine SW.seq ?_
  obtain ⟨x1, hx1, hbi1⟩ := obind hbi1
  have xlx1 := getN_lt hx1
  have xdx1 := getN_flat edgeC 7 (fun _ => rfl) hx1
  refine SW.regX (fun f_ t_ => τ1 = t_ ∧ f_ 1 = AV.int (i) ∧ f_ 2 = AV.ptr b2 0 ∧ f_ 5 = AV.ptr b5 0 ∧ f_ 6 = AV.int (((k : Nat) : Int)) ∧ f_ 30 = AV.bool ((x1.name == x.name))) (fun M hM => ?_) (fun fr8 τz4 hm => ?_)
  ·refine EW_regionD (by kernel_rfl) (by kernel_rfl) ?_
   simp [go_sem, f1, f19, f2, f5, f6, gb2, gb5, xlx1, xdx1, edgeC]
   refine (hM _ _).2 ⟨rfl, ?_, ?_, ?_, ?_, ?_⟩ <;> simp [go_sem, f1, f19, f2, f5, f6, gb2, gb5, xlx1, xdx1, edgeC]
  clear f1 f19 f2 f5 f6
  obtain ⟨rfl, f1, f2, f5, f6, f30⟩ := hm
  refine SW.cond _ f30 (fun hx2 => ?_) (fun hx2 => ?_)
  ·have hbi1 := condT hbi1 hx2
   refine SW.seq ?_
   refine SW.regX (fun f_ t_ => τ1 = t_ ∧ f_ 4 = AV.int (5)) (fun M hM => ?_) (fun fr9 τz5 hm => ?_)
   ·simp [go_sem, f1, f2, f30, f5, f6, gb2, gb5]
    refine (hM _ _).2 ⟨rfl, ?_⟩ <;> simp [go_sem, f1, f2, f30, f5, f6, gb2, gb5]
   clear f1 f2 f30 f5 f6
   obtain ⟨rfl, f4⟩ := hm
   obtain rfl := Option.some.inj hbi1
   obtain rfl := Option.some.inj hci1
   obtain rfl := Option.some.inj hoi1
   exact SW.ret ⟨AV.int (5), by simp [go_sem, f4], .lit _, hK.keeps⟩
  have hbi1 := condF hbi1 hx2
  refine SW.skip ?_
  refine SW.blk ?_
  refine SW.regX (fun f_ t_ => τ1 = t_ ∧ f_ 1 = AV.int (i) ∧ f_ 2 = AV.ptr b2 0 ∧ f_ 5 = AV.ptr b5 0 ∧ f_ 6 = AV.int (((k + 1 : Nat) : Int))) (fun M hM => ?_) (fun fr10 τz6 hm => ?_)
  ·simp [go_sem, f1, f2, f30, f5, f6, gb2, gb5, hwk]
   refine (hM _ _).2 ⟨rfl, ?_, ?_, ?_, ?_⟩ <;> simp [go_sem, f1, f2, f30, f5, f6, gb2, gb5, hwk]
  clear f1 f2 f30 f5 f6
  obtain ⟨rfl, f1, f2, f5, f6⟩ := hm
  obtain rfl := Option.some.inj hbi1
  exact SW.goal ⟨i.toNat - (k + 1), by omega, (hJ _ _ _).2 ⟨k + 1, rfl, hci1, rfl, f1, f2, f5, f6⟩⟩
 intro fr11 τ3 hm
 rw [hKL] at hm
 clear hKL hruni1
 clear f1 f2 f5 f6
 obtain ⟨rfl, rfl, f2, f5⟩ := hm
 simp only [Out.on] at hoi1
 refine SW.seq ?_
 refine SW.regX (fun f_ t_ => τ1 = t_ ∧ f_ 5 = AV.ptr b5 0 ∧ f_ 7 = AV.int ((IntKind.i64.wrap (((t.nodes.length : Nat) : Int) - 1)))) (fun M hM => ?_) (fun fr12 τz7 hm => ?_)
 ·simp [go_sem, f2, f5, gb2, gb5]
  refine (hM _ _).2 ⟨rfl, ?_, ?_⟩ <;> simp [go_sem, f2, f5, gb2, gb5]
 clear f2 f5
 obtain ⟨rfl, f5, f7⟩ := hm
 refine SW.seq ?_
 refine SW.seq ?_
 obtain ⟨q1, hq1, hoi1⟩ := obind hoi1
 obtain ⟨c, hc, hoi1⟩ := obind hoi1
 refine SW.regX (fun f_ t_ => τ1 = t_ ∧ f_ 62 = AV.bool (c)) (fun M hM => ?_) (fun fr13 τz8 hm => ?_)
 ·rcases Bool.eq_false_or_eq_true ((!q1)) with y0 | y0
  ·have y0' := y0
   try simp at y0'
   have ky0 := condT hc y0
   have ec := Option.some.inj ky0
   simp [go_sem, f5, f7, gb5, y0, y0']
   refine EWcall_pure (w_ref04_in x.src 0 (IntKind.i64.wrap (((t.nodes.length : Nat) : Int) - 1)) _ hq1) ?_
   simp [go_sem, f5, f7, gb5, y0, y0']
   refine (hM _ _).2 ⟨rfl, ?_⟩ <;> simp [go_sem, f5, f7, gb5, y0, y0', ← ec]
  ·have y0' := y0
   try simp at y0'
   have ky0 := condF hc y0
   obtain ⟨q2, hq2, ky0⟩ := obind ky0
   rcases Bool.eq_false_or_eq_true ((!q2)) with y2 | y2
   ·have y2' := y2
    try simp [y0'] at y2'
    have ky2 := condT ky0 y2
    have ec := Option.some.inj ky2
    simp [go_sem, f5, f7, gb5, y0, y0', y2, y2']
    refine EWcall_pure (w_ref04_in x.src 0 (IntKind.i64.wrap (((t.nodes.length : Nat) : Int) - 1)) _ hq1) ?_
    simp [go_sem, f5, f7, gb5, y0, y0', y2, y2']
    refine EWcall_pure (w_ref04_in x.tgt 0 (IntKind.i64.wrap (((t.nodes.length : Nat) : Int) - 1)) _ hq2) ?_
    simp [go_sem, f5, f7, gb5, y0, y0', y2, y2']
    refine (hM _ _).2 ⟨rfl, ?_⟩ <;> simp [go_sem, f5, f7, gb5, y0, y0', y2, y2', ← ec]
   ·have y2' := y2
    try simp [y0'] at y2'
    have ky2 := condF ky0 y2
    obtain ⟨q3, hq3, ky2⟩ := obind ky2
    rcases Bool.eq_false_or_eq_true ((!q3)) with y4 | y4
    ·have y4' := y4
     try simp [y0', y2'] at y4'
     have ky4 := condT ky2 y4
     have ec := Option.some.inj ky4
     simp [go_sem, f5, f7, gb5, y0, y0', y2, y2', y4, y4']
     refine EWcall_pure (w_ref04_in x.src 0 (IntKind.i64.wrap (((t.nodes.length : Nat) : Int) - 1)) _ hq1) ?_
     simp [go_sem, f5, f7, gb5, y0, y0', y2, y2', y4, y4']
     refine EWcall_pure (w_ref04_in x.tgt 0 (IntKind.i64.wrap (((t.nodes.length : Nat) : Int) - 1)) _ hq2) ?_
     simp [go_sem, f5, f7, gb5, y0, y0', y2, y2', y4, y4']
     refine EWcall_pure (w_ref04_bound x.outLow x.outHigh _ hq3) ?_
     simp [go_sem, f5, f7, gb5, y0, y0', y2, y2', y4, y4']
     refine (hM _ _).2 ⟨rfl, ?_⟩ <;> simp [go_sem, f5, f7, gb5, y0, y0', y2, y2', y4, y4', ← ec]
    ·have y4' := y4
     try simp [y0', y2'] at y4'
     have ky4 := condF ky2 y4
     obtain ⟨q4, hq4, ky4⟩ := obind ky4
     have ec := Option.some.inj ky4
     simp [go_sem, f5, f7, gb5, y0, y0', y2, y2', y4, y4']
     refine EWcall_pure (w_ref04_in x.src 0 (IntKind.i64.wrap (((t.nodes.length : Nat) : Int) - 1)) _ hq1) ?_
     simp [go_sem, f5, f7, gb5, y0, y0', y2, y2', y4, y4']
     refine EWcall_pure (w_ref04_in x.tgt 0 (IntKind.i64.wrap (((t.nodes.length : Nat) : Int) - 1)) _ hq2) ?_
     simp [go_sem, f5, f7, gb5, y0, y0', y2, y2', y4, y4']
     refine EWcall_pure (w_ref04_bound x.outLow x.outHigh _ hq3) ?_
     simp [go_sem, f5, f7, gb5, y0, y0', y2, y2', y4, y4']
     refine EWcall_pure (w_ref04_bound x.inLow x.inHigh _ hq4) ?_
     simp [go_sem, f5, f7, gb5, y0, y0', y2, y2', y4, y4']
     refine (hM _ _).2 ⟨rfl, ?_⟩ <;> simp [go_sem, f5, f7, gb5, y0, y0', y2, y2', y4, y4', ← ec]
 clear f5 f7
 obtain ⟨rfl, f62⟩ := hm
 refine SW.cond _ f62 (fun hx3 => ?_) (fun hx3 => ?_)
 ·have hoi1 := condT hoi1 hx3
  refine SW.seq ?_
  refine SW.regX (fun f_ t_ => τ1 = t_ ∧ f_ 4 = AV.int (6)) (fun M hM => ?_) (fun fr14 τz9 hm => ?_)
  ·simp [go_sem, f62]
   refine (hM _ _).2 ⟨rfl, ?_⟩ <;> simp [go_sem, f62]
  clear f62
  obtain ⟨rfl, f4⟩ := hm
  obtain rfl := Option.some.inj hoi1
  exact SW.ret ⟨AV.int (6), by simp [go_sem, f4], .lit _, hK.keeps⟩
 have hoi1 := condF hoi1 hx3
 refine SW.skip ?_
 refine SW.seq ?_
 refine SW.regX (fun f_ t_ => τ1 = t_ ∧ f_ 4 = AV.int (0)) (fun M hM => ?_) (fun fr15 τz10 hm => ?_)
 ·simp [go_sem, f62]
  refine (hM _ _).2 ⟨rfl, ?_⟩ <;> simp [go_sem, f62]
 clear f62
 obtain ⟨rfl, f4⟩ := hm
 obtain rfl := Option.some.inj hoi1
 exact SW.ret ⟨AV.int (0), by simp [go_sem, f4], .lit _, hK.keeps⟩
set_option maxHeartbeats 4000000 in
theorem w_ref04_Valid (F : Nat) (t : Types) (r : ((List UInt8) × Int)) (h : s_ref04_Valid F t = some r) : PureA Tryz.prog 55 [AV.agg [nodesA (t.nodes), edgesA (t.edges)]] (AV.tup [AV.str (r.1), AV.int (r.2)]) := by
 refine pureA_of_SW (N := 60) Tryz.func55 (by kernel_rfl) rfl (by rw [Tryz.ntmps55]; rfl) (fun σ0 => ?_)
 rw [Tryz.results55]
 obtain ⟨fr0, hfr⟩ : ∃ fr, fr = initFr [AV.agg [nodesA (t.nodes), edgesA (t.edges)]] := ⟨_, rfl⟩
 rw [← hfr]
 have f0 : fr0 0 = AV.agg [nodesA (t.nodes), edgesA (t.edges)] := by rw [hfr]; rfl
 clear hfr
 simp only [s_ref04_Valid] at h
 refine SW.seq ?_
 refine SW.regX (fun f_ t_ => ∃ b1 : Nat, f_ 1 = AV.ptr b1 0 ∧ Kept σ0 t_ ∧ σ0.next ≤ t_.next ∧ t_.get b1 = some [nodesA (t.nodes), edgesA (t.edges)] ∧ b1 < t_.next ∧ σ0.next ≤ b1) (fun M hM => ?_) (fun fr1 τ hm => ?_)
 ·simp [go_sem, f0]
  refine (hM _ _).2 ⟨σ0.next, ?_, by intro j hj; simp [go_sem, show ¬ j = σ0.next by omega], by first | omega | (simp [go_sem]; done) | (simp [go_sem]; omega), by simp (disch := omega) [get_alloc_ne, get_set_ne, get_kill_ne, go_sem, f0], by first | omega | (simp [go_sem]; done) | (simp [go_sem]; omega), by omega⟩ <;> simp [go_sem, f0]
 clear f0
 obtain ⟨b1, f1, hK, hN, gb1, ub1, wb1⟩ := hm
 refine SW.seq ?_
 refine SW.seq ?_
 refine SW.regX (fun f_ t_ => τ = t_ ∧ f_ 1 = AV.ptr b1 0 ∧ f_ 11 = AV.bool ((decide (((t.nodes.length : Nat) : Int) = 0)))) (fun M hM => ?_) (fun fr2 τz hm => ?_)
 ·simp [go_sem, f1, gb1]
  refine (hM _ _).2 ⟨rfl, ?_, ?_⟩ <;> simp [go_sem, f1, gb1]
 clear f1
 obtain ⟨rfl, f1, f11⟩ := hm
 refine SW.cond _ f11 (fun hx => ?_) (fun hx => ?_)
 ·have h := condT h hx
  refine SW.seq ?_
  refine SW.regX (fun f_ t_ => τ = t_ ∧ f_ 2 = AV.str (([] : List UInt8)) ∧ f_ 3 = AV.int (7)) (fun M hM => ?_) (fun fr3 τz1 hm => ?_)
  ·simp [go_sem, f1, f11, gb1]
   refine (hM _ _).2 ⟨rfl, ?_, ?_⟩ <;> simp [go_sem, f1, f11, gb1]
  clear f1 f11
  obtain ⟨rfl, f2, f3⟩ := hm
  obtain rfl := Option.some.inj h
  exact SW.ret ⟨AV.tup [AV.str (([] : List UInt8)), AV.int (7)], by simp [go_sem, f2, f3], frz_tupL (frzL_c (.lit _) (frzL_c (.lit _) (frzL_n))), hK.keeps⟩
 have h := condF h hx
 refine SW.skip ?_
 refine SW.seq ?_
 refine SW.seq ?_
 refine SW.regX (fun f_ t_ => τ = t_ ∧ f_ 1 = AV.ptr b1 0 ∧ f_ 21 = AV.bool ((((decide (12 < ((t.nodes.length : Nat) : Int)))) || ((decide (20 < ((t.edges.length : Nat) : Int))))))) (fun M hM => ?_) (fun fr4 τz2 hm => ?_)
 ·rcases Bool.eq_false_or_eq_true ((decide (12 < ((t.nodes.length : Nat) : Int)))) with y0 | y0
  ·have y0' := y0
   try simp at y0'
   simp [go_sem, f1, f11, gb1, y0, y0']
   refine (hM _ _).2 ⟨rfl, ?_, ?_⟩ <;> simp [go_sem, f1, f11, gb1, y0, y0']
  ·have y0' := y0
   try simp at y0'
   simp [go_sem, f1, f11, gb1, y0, y0']
   refine (hM _ _).2 ⟨rfl, ?_, ?_⟩ <;> simp [go_sem, f1, f11, gb1, y0, y0']
 clear f1 f11
 obtain ⟨rfl, f1, f21⟩ := hm
 refine SW.cond _ f21 (fun hx1 => ?_) (fun hx1 => ?_)
 ·have h := condT h hx1
  refine SW.seq ?_
  refine SW.regX (fun f_ t_ => τ = t_ ∧ f_ 2 = AV.str (([] : List UInt8)) ∧ f_ 3 = AV.int (3)) (fun M hM => ?_) (fun fr5 τz3 hm => ?_)
  ·simp [go_sem, f1, f21, gb1]
   refine (hM _ _).2 ⟨rfl, ?_, ?_⟩ <;> simp [go_sem, f1, f21, gb1]
  clear f1 f21
  obtain ⟨rfl, f2, f3⟩ := hm
  obtain rfl := Option.some.inj h
  exact SW.ret ⟨AV.tup [AV.str (([] : List UInt8)), AV.int (3)], by simp [go_sem, f2, f3], frz_tupL (frzL_c (.lit _) (frzL_c (.lit _) (frzL_n))), hK.keeps⟩
 have h := condF h hx1
 refine SW.skip ?_
 refine SW.seq ?_
 refine SW.seq ?_
 refine SW.regX (fun f_ t_ => τ = t_ ∧ f_ 1 = AV.ptr b1 0 ∧ f_ 4 = AV.int (0)) (fun M hM => ?_) (fun fr6 τz4 hm => ?_)
 ·simp [go_sem, f1, f21, gb1]
  refine (hM _ _).2 ⟨rfl, ?_, ?_⟩ <;> simp [go_sem, f1, f21, gb1]
 clear f1 f21
 obtain ⟨rfl, f1, f4⟩ := hm
 obtain ⟨oi1, hruni1, hoi1⟩ := obind h
 refine SW.lenB b1 0 gb1 rfl (fun hbigi1 => ?_)
 obtain ⟨KL, hKL⟩ : ∃ KL : Fr → Mem → Prop, ∀ fr' τ', KL fr' τ' ↔ (oi1 = .done () ∧ τ = τ' ∧ fr' 1 = AV.ptr b1 0) := ⟨_, fun _ _ => Iff.rfl⟩
 refine SW.cut KL ?_ ?_
 ·refine SW.block ?_
  obtain ⟨J, hJ⟩ : ∃ J : Nat → Fr → Mem → Prop, ∀ m_ fr' τ', J m_ fr' τ' ↔ (∃ i : Nat, m_ = t.nodes.length - i ∧ forN (b1_ref04_Valid F t) (t.nodes.length - i) i () = some oi1 ∧ τ = τ' ∧ fr' 1 = AV.ptr b1 0 ∧ fr' 4 = AV.int (((i : Nat) : Int))) := ⟨_, fun _ _ _ => Iff.rfl⟩
  refine SW.loop J (t.nodes.length - 0) ((hJ _ _ _).2 ⟨0, rfl, hruni1, rfl, f1, f4⟩) ?_
  clear hruni1
  intro m_ fr7 τ1 hm
  rw [hJ] at hm
  clear f1 f4
  obtain ⟨i, rfl, hruni1, rfl, f1, f4⟩ := hm
  refine SW.seq ?_
  refine SW.seq ?_
  refine SW.regX (fun f_ t_ => τ = t_ ∧ f_ 1 = AV.ptr b1 0 ∧ f_ 4 = AV.int (((i : Nat) : Int)) ∧ f_ 26 = AV.bool ((decide (i < t.nodes.length)))) (fun M hM => ?_) (fun fr8 τz5 hm => ?_)
  ·simp [go_sem, f1, f4, gb1]
   refine (hM _ _).2 ⟨rfl, ?_, ?_, ?_⟩ <;> simp [go_sem, f1, f4, gb1]
  clear f1 f4
  obtain ⟨rfl, f1, f4, f26⟩ := hm
  refine SW.cond _ f26 (fun hx2 => ?_) (fun hx2 => ?_)
  rotate_left
  ·have hk : ¬ i < t.nodes.length := by have := of_decide_eq_false hx2; omega
   refine SW.exit rfl ?_
   exact SW.goal ((hKL _ _).2 ⟨forN_end hruni1 hk, rfl, f1⟩)
  have hki : i < t.nodes.length := by have := of_decide_eq_true hx2; omega
  have hwi : IntKind.i64.wrap ((i : Int) + 1) = ((i + 1 : Nat) : Int) := by rw [wrap64_of _ (by omega) (by omega)]; rfl
  obtain ⟨ci1, hbi1, hci1⟩ := forN_step hruni1 hki
  simp only [b1_ref04_Valid] at hbi1
  refine SW.skip ?_
  refine SW.seq ?_
  refine SW.block ?_
  refine SW.seq ?_
  obtain ⟨n, hn, hbi1⟩ := obind hbi1
  refine SW.regX (fun f_ t_ => τ = t_ ∧ f_ 1 = AV.ptr b1 0 ∧ f_ 4 = AV.int (((i : Nat) : Int)) ∧ f_ 5 = AV.int (n)) (fun M hM => ?_) (fun fr9 τz6 hm => ?_)
  ·simp [go_sem, f1, f26, f4, gb1]
   refine EWcall_pure (w_ref04_node F t ((i : Nat) : Int) _ hn) ?_
   simp [go_sem, f1, f26, f4, gb1]
   refine (hM _ _).2 ⟨rfl, ?_, ?_, ?_⟩ <;> simp [go_sem, f1, f26, f4, gb1]
  clear f1 f26 f4
  obtain ⟨rfl, f1, f4, f5⟩ := hm
  refine SW.seq ?_
  refine SW.regX (fun f_ t_ => τ = t_ ∧ f_ 1 = AV.ptr b1 0 ∧ f_ 4 = AV.int (((i : Nat) : Int)) ∧ f_ 5 = AV.int (n) ∧ f_ 33 = AV.bool ((!decide (n = 0)))) (fun M hM => ?_) (fun fr10 τz7 hm => ?_)
  ·simp [go_sem, f1, f4, f5, gb1]
   refine (hM _ _).2 ⟨rfl, ?_, ?_, ?_, ?_⟩ <;> simp [go_sem, f1, f4, f5, gb1]
  clear f1 f4 f5
  obtain ⟨rfl, f1, f4, f5, f33⟩ := hm
  refine SW.cond _ f33 (fun hx3 => ?_) (fun hx3 => ?_)
  ·have hbi1 := condT hbi1 hx3
   refine SW.seq ?_
   obtain ⟨x, hx, hbi1⟩ := obind hbi1
   have xlx := getN_lt hx
   have xdx := getN_flat nodeC 4 (fun _ => rfl) hx
   refine SW.regX (fun f_ t_ => τ = t_ ∧ f_ 2 = AV.str (x.name) ∧ f_ 3 = AV.int (n)) (fun M hM => ?_) (fun fr11 τz8 hm => ?_)
   ·simp [go_sem, f1, f33, f4, f5, gb1, xlx, xdx, nodeC]
    refine (hM _ _).2 ⟨rfl, ?_, ?_⟩ <;> simp [go_sem, f1, f33, f4, f5, gb1, xlx, xdx, nodeC]
   clear f1 f33 f4 f5
   obtain ⟨rfl, f2, f3⟩ := hm
   obtain rfl := Option.some.inj hbi1
   obtain rfl := Option.some.inj hci1
   obtain rfl := Option.some.inj hoi1
   exact SW.ret ⟨AV.tup [AV.str (x.name), AV.int (n)], by simp [go_sem, f2, f3], frz_tupL (frzL_c (.lit _) (frzL_c (.lit _) (frzL_n))), hK.keeps⟩
  have hbi1 := condF hbi1 hx3
  refine SW.skip ?_
  refine SW.blk ?_
  refine SW.regX (fun f_ t_ => τ = t_ ∧ f_ 1 = AV.ptr b1 0 ∧ f_ 4 = AV.int (((i + 1 : Nat) : Int))) (fun M hM => ?_) (fun fr12 τz9 hm => ?_)
  ·simp [go_sem, f1, f33, f4, f5, gb1, hwi]
   refine (hM _ _).2 ⟨rfl, ?_, ?_⟩ <;> simp [go_sem, f1, f33, f4, f5, gb1, hwi]
  clear f1 f33 f4 f5
  obtain ⟨rfl, f1, f4⟩ := hm
  obtain rfl := Option.some.inj hbi1
  exact SW.goal ⟨t.nodes.length - (i + 1), by omega, (hJ _ _ _).2 ⟨i + 1, rfl, hci1, rfl, f1, f4⟩⟩
 intro fr13 τ2 hm
 rw [hKL] at hm
 clear hKL hruni1
 clear f1 f4
 obtain ⟨rfl, rfl, f1⟩ := hm
 simp only [Out.on] at hoi1
 refine SW.seq ?_
 refine SW.seq ?_
 refine SW.regX (fun f_ t_ => τ = t_ ∧ f_ 1 = AV.ptr b1 0 ∧ f_ 6 = AV.int (0)) (fun M hM => ?_) (fun fr14 τz10 hm => ?_)
 ·simp [go_sem, f1, gb1]
  refine (hM _ _).2 ⟨rfl, ?_, ?_⟩ <;> simp [go_sem, f1, gb1]
 clear f1
 obtain ⟨rfl, f1, f6⟩ := hm
 obtain ⟨oi3, hruni3, hoi3⟩ := obind hoi1
 refine SW.lenB b1 1 gb1 rfl (fun hbigi3 => ?_)
 obtain ⟨KL, hKL⟩ : ∃ KL : Fr → Mem → Prop, ∀ fr' τ', KL fr' τ' ↔ (oi3 = .done () ∧ τ = τ') := ⟨_, fun _ _ => Iff.rfl⟩
 refine SW.cut KL ?_ ?_
 ·refine SW.block ?_
  obtain ⟨J, hJ⟩ : ∃ J : Nat → Fr → Mem → Prop, ∀ m_ fr' τ', J m_ fr' τ' ↔ (∃ i2 : Nat, m_ = t.edges.length - i2 ∧ forN (b3_ref04_Valid t) (t.edges.length - i2) i2 () = some oi3 ∧ τ = τ' ∧ fr' 1 = AV.ptr b1 0 ∧ fr' 6 = AV.int (((i2 : Nat) : Int))) := ⟨_, fun _ _ _ => Iff.rfl⟩
  refine SW.loop J (t.edges.length - 0) ((hJ _ _ _).2 ⟨0, rfl, hruni3, rfl, f1, f6⟩) ?_
  clear hruni3
  intro m_ fr15 τ3 hm
  rw [hJ] at hm
  clear f1 f6
  obtain ⟨i2, rfl, hruni3, rfl, f1, f6⟩ := hm
  refine SW.seq ?_
  refine SW.seq ?_
  refine SW.regX (fun f_ t_ => τ = t_ ∧ f_ 1 = AV.ptr b1 0 ∧ f_ 6 = AV.int (((i2 : Nat) : Int)) ∧ f_ 45 = AV.bool ((decide (i2 < t.edges.length)))) (fun M hM => ?_) (fun fr16 τz11 hm => ?_)
  ·simp [go_sem, f1, f6, gb1]
   refine (hM _ _).2 ⟨rfl, ?_, ?_, ?_⟩ <;> simp [go_sem, f1, f6, gb1]
  clear f1 f6
  obtain ⟨rfl, f1, f6, f45⟩ := hm
  refine SW.cond _ f45 (fun hx4 => ?_) (fun hx4 => ?_)
  rotate_left
  ·have hk : ¬ i2 < t.edges.length := by have := of_decide_eq_false hx4; omega
   refine SW.exit rfl ?_
   exact SW.goal ((hKL _ _).2 ⟨forN_end hruni3 hk, rfl⟩)
  have hki2 : i2 < t.edges.length := by have := of_decide_eq_true hx4; omega
  have hwi2 : IntKind.i64.wrap ((i2 : Int) + 1) = ((i2 + 1 : Nat) : Int) := by rw [wrap64_of _ (by omega) (by omega)]; rfl
  obtain ⟨ci3, hbi3, hci3⟩ := forN_step hruni3 hki2
  simp only [b3_ref04_Valid] at hbi3
  refine SW.skip ?_
  refine SW.seq ?_
  refine SW.block ?_
  refine SW.seq ?_
  obtain ⟨n1, hn1, hbi3⟩ := obind hbi3
  refine SW.regX (fun f_ t_ => τ = t_ ∧ f_ 1 = AV.ptr b1 0 ∧ f_ 6 = AV.int (((i2 : Nat) : Int)) ∧ f_ 7 = AV.int (n1)) (fun M hM => ?_) (fun fr17 τz12 hm => ?_)
  ·simp [go_sem, f1, f45, f6, gb1]
   refine EWcall_pure (w_ref04_edge t ((i2 : Nat) : Int) _ hn1) ?_
   simp [go_sem, f1, f45, f6, gb1]
   refine (hM _ _).2 ⟨rfl, ?_, ?_, ?_⟩ <;> simp [go_sem, f1, f45, f6, gb1]
  clear f1 f45 f6
  obtain ⟨rfl, f1, f6, f7⟩ := hm
  refine SW.seq ?_
  refine SW.regX (fun f_ t_ => τ = t_ ∧ f_ 1 = AV.ptr b1 0 ∧ f_ 6 = AV.int (((i2 : Nat) : Int)) ∧ f_ 7 = AV.int (n1) ∧ f_ 52 = AV.bool ((!decide (n1 = 0)))) (fun M hM => ?_) (fun fr18 τz13 hm => ?_)
  ·simp [go_sem, f1, f6, f7, gb1]
   refine (hM _ _).2 ⟨rfl, ?_, ?_, ?_, ?_⟩ <;> simp [go_sem, f1, f6, f7, gb1]
  clear f1 f6 f7
  obtain ⟨rfl, f1, f6, f7, f52⟩ := hm
  refine SW.cond _ f52 (fun hx5 => ?_) (fun hx5 => ?_)
  ·have hbi3 := condT hbi3 hx5
   refine SW.seq ?_
   obtain ⟨x1, hx1, hbi3⟩ := obind hbi3
   have xlx1 := getN_lt hx1
   have xdx1 := getN_flat edgeC 7 (fun _ => rfl) hx1
   refine SW.regX (fun f_ t_ => τ = t_ ∧ f_ 2 = AV.str (x1.name) ∧ f_ 3 = AV.int (n1)) (fun M hM => ?_) (fun fr19 τz14 hm => ?_)
   ·simp [go_sem, f1, f52, f6, f7, gb1, xlx1, xdx1, edgeC]
    refine (hM _ _).2 ⟨rfl, ?_, ?_⟩ <;> simp [go_sem, f1, f52, f6, f7, gb1, xlx1, xdx1, edgeC]
   clear f1 f52 f6 f7
   obtain ⟨rfl, f2, f3⟩ := hm
   obtain rfl := Option.some.inj hbi3
   obtain rfl := Option.some.inj hci3
   obtain rfl := Option.some.inj hoi3
   exact SW.ret ⟨AV.tup [AV.str (x1.name), AV.int (n1)], by simp [go_sem, f2, f3], frz_tupL (frzL_c (.lit _) (frzL_c (.lit _) (frzL_n))), hK.keeps⟩
  have hbi3 := condF hbi3 hx5
  refine SW.skip ?_
  refine SW.blk ?_
  refine SW.regX (fun f_ t_ => τ = t_ ∧ f_ 1 = AV.ptr b1 0 ∧ f_ 6 = AV.int (((i2 + 1 : Nat) : Int))) (fun M hM => ?_) (fun fr20 τz15 hm => ?_)
  ·simp [go_sem, f1, f52, f6, f7, gb1, hwi2]
   refine (hM _ _).2 ⟨rfl, ?_, ?_⟩ <;> simp [go_sem, f1, f52, f6, f7, gb1, hwi2]
  clear f1 f52 f6 f7
  obtain ⟨rfl, f1, f6⟩ := hm
  obtain rfl := Option.some.inj hbi3
  exact SW.goal ⟨t.edges.length - (i2 + 1), by omega, (hJ _ _ _).2 ⟨i2 + 1, rfl, hci3, rfl, f1, f6⟩⟩
 intro fr21 τ4 hm
 rw [hKL] at hm
 clear hKL hruni3
 clear f1 f6
 obtain ⟨rfl, rfl⟩ := hm
 simp only [Out.on] at hoi3
 refine SW.seq ?_
 refine SW.regX (fun f_ t_ => τ = t_ ∧ f_ 2 = AV.str (([] : List UInt8)) ∧ f_ 3 = AV.int (0)) (fun M hM => ?_) (fun fr22 τz16 hm => ?_)
 ·simp [go_sem]
  refine (hM _ _).2 ⟨rfl, ?_, ?_⟩ <;> simp [go_sem]
 obtain ⟨rfl, f2, f3⟩ := hm
 obtain rfl := Option.some.inj hoi3
 exact SW.ret ⟨AV.tup [AV.str (([] : List UInt8)), AV.int (0)], by simp [go_sem, f2, f3], frz_tupL (frzL_c (.lit _) (frzL_c (.lit _) (frzL_n))), hK.keeps⟩
set_option maxHeartbeats 4000000 in
theorem w_ref05_kind (n : Int) (r : (Bool)) (h : s_ref05_kind n = some r) : PureA Tryz.prog 61 [AV.int (n)] (AV.bool (r)) := by
 refine pureA_of_SW (N := 9) Tryz.func61 (by kernel_rfl) rfl (by rw [Tryz.ntmps61]; rfl) (fun σ0 => ?_)
 rw [Tryz.results61]
 obtain ⟨fr0, hfr⟩ : ∃ fr, fr = initFr [AV.int (n)] := ⟨_, rfl⟩
 rw [← hfr]
 have f0 : fr0 0 = AV.int (n) := by rw [hfr]; rfl
 clear hfr
 simp only [s_ref05_kind] at h
 refine SW.seq ?_
 refine SW.regX (fun f_ t_ => σ0 = t_ ∧ f_ 0 = AV.int (n)) (fun M hM => ?_) (fun fr1 τz hm => ?_)
 ·simp [go_sem, f0]
  refine (hM _ _).2 ⟨rfl, ?_⟩ <;> simp [go_sem, f0]
 clear f0
 obtain ⟨rfl, f0⟩ := hm
 refine SW.seq ?_
 refine SW.regX (fun f_ t_ => σ0 = t_ ∧ f_ 2 = AV.bool ((((decide (0 ≤ n))) && ((decide (n ≤ 99)))))) (fun M hM => ?_) (fun fr2 τz1 hm => ?_)
 ·rcases Bool.eq_false_or_eq_true ((decide (0 ≤ n))) with y0 | y0
  ·have y0' := y0
   try simp at y0'
   simp [go_sem, f0, y0, y0']
   refine (hM _ _).2 ⟨rfl, ?_⟩ <;> simp [go_sem, f0, y0, y0']
  ·have y0' := y0
   try simp at y0'
   simp [go_sem, f0, y0, y0']
   refine (hM _ _).2 ⟨rfl, ?_⟩ <;> simp [go_sem, f0, y0, y0']
 clear f0
 obtain ⟨rfl, f2⟩ := hm
 obtain rfl := Option.some.inj h
 exact SW.ret ⟨AV.bool ((((decide (0 ≤ n))) && ((decide (n ≤ 99))))), by simp [go_sem, f2], .lit _, Keeps.refl _⟩
end Go.Proofs.YtdacgjleiloooaaGreat
