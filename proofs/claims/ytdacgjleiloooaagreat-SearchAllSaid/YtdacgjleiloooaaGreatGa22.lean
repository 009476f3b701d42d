/-
  Plain functions and the walks that lead to them, by a program of ours (gen.py): scarfjoint/scarfjointlaw17.SearchAll.
-/
import Derived.Test.YtdacgjleiloooaaGreatGd
import Derived.Test.YtdacgjleiloooaaGreatGT
import Derived.Test.YtdacgjleiloooaaGreatB3
import Derived.Test.YtdacgjleiloooaaGreatGS
import Derived.Test.YtdacgjleiloooaaGreatGa5
import Derived.Test.YtdacgjleiloooaaGreatGa11
import Derived.Test.YtdacgjleiloooaaGreatGa2
import Derived.Test.YtdacgjleiloooaaGreatGa21
import Derived.Test.YtdacgjleiloooaaGreatGa4
import Derived.Test.YtdacgjleiloooaaGreatGa12
set_option linter.unusedSimpArgs false
set_option linter.unusedVariables false
namespace Go.Proofs.YtdacgjleiloooaaGreat
open Go Go.Ew Go.Proofs Go.RowKit
set_option maxRecDepth 100000
set_option maxHeartbeats 4000000 in
theorem w_law17_SearchAll (F : Nat) (t : Gscarfjointlaw17_Case) (o : Bool) (r : (Bool)) (h : s_law17_SearchAll F t o = some r) : PureA Tryz.prog 8 [AV.agg [nodesA (t.t.nodes), edgesA (t.t.edges), intsA (t.p.nodes), e3sA (t.p.edges), intsA (t.g.nodes), e3sA (t.g.edges)], AV.bool (o)] (AV.bool (r)) := by
 refine pureA_of_SW (N := 125) Tryz.func8 (by kernel_rfl) rfl (by rw [Tryz.ntmps8]; rfl) (fun σ0 => ?_)
 rw [Tryz.results8]
 obtain ⟨fr0, hfr⟩ : ∃ fr, fr = initFr [AV.agg [nodesA (t.t.nodes), edgesA (t.t.edges), intsA (t.p.nodes), e3sA (t.p.edges), intsA (t.g.nodes), e3sA (t.g.edges)], AV.bool (o)] := ⟨_, rfl⟩
 rw [← hfr]
 have f0 : fr0 0 = AV.agg [nodesA (t.t.nodes), edgesA (t.t.edges), intsA (t.p.nodes), e3sA (t.p.edges), intsA (t.g.nodes), e3sA (t.g.edges)] := by rw [hfr]; rfl
 have f1 : fr0 1 = AV.bool (o) := by rw [hfr]; rfl
 clear hfr
 simp only [s_law17_SearchAll] at h
 refine SW.seq ?_
 refine SW.regX (fun f_ t_ => ∃ b2 : Nat, f_ 1 = AV.bool (o) ∧ f_ 2 = AV.ptr b2 0 ∧ Kept σ0 t_ ∧ σ0.next ≤ t_.next ∧ t_.get b2 = some [nodesA (t.t.nodes), edgesA (t.t.edges), intsA (t.p.nodes), e3sA (t.p.edges), intsA (t.g.nodes), e3sA (t.g.edges)] ∧ b2 < t_.next ∧ σ0.next ≤ b2) (fun M hM => ?_) (fun fr1 τ hm => ?_)
 ·simp [go_sem, f0, f1]
  refine (hM _ _).2 ⟨σ0.next, ?_, ?_, by intro j hj; simp [go_sem, show ¬ j = σ0.next by omega], by first | omega | (simp [go_sem]; done) | (simp [go_sem]; omega), by simp (disch := omega) [get_alloc_ne, get_set_ne, get_kill_ne, go_sem, f0, f1], by first | omega | (simp [go_sem]; done) | (simp [go_sem]; omega), by omega⟩ <;> simp [go_sem, f0, f1]
 clear f0 f1
 obtain ⟨b2, f1, f2, hK, hN, gb2, ub2, wb2⟩ := hm
 refine SW.seq ?_
 refine SW.seq ?_
 obtain ⟨q, hq, h⟩ := obind h
 obtain ⟨c, hc, h⟩ := obind h
 refine SW.regX (fun f_ t_ => τ = t_ ∧ f_ 1 = AV.bool (o) ∧ f_ 2 = AV.ptr b2 0 ∧ f_ 26 = AV.bool (c)) (fun M hM => ?_) (fun fr2 τz hm => ?_)
 ·rcases Bool.eq_false_or_eq_true ((!q)) with y0 | y0
  ·have y0' := y0
   try simp at y0'
   have ky0 := condT hc y0
   have ec := Option.some.inj ky0
   simp [go_sem, f1, f2, gb2, y0, y0']
   refine EWcall_pure (w_law17_awake _ hq) ?_
   simp [go_sem, f1, f2, gb2, y0, y0']
   refine (hM _ _).2 ⟨rfl, ?_, ?_, ?_⟩ <;> simp [go_sem, f1, f2, gb2, y0, y0', ← ec]
  ·have y0' := y0
   try simp at y0'
   have ky0 := condF hc y0
   obtain ⟨q1, hq1, ky0⟩ := obind ky0
   have ec := Option.some.inj ky0
   simp [go_sem, f1, f2, gb2, y0, y0']
   refine EWcall_pure (w_law17_awake _ hq) ?_
   simp [go_sem, f1, f2, gb2, y0, y0']
   refine EWcall_pure (w_ref17_Light F t.t t.p t.g _ hq1) ?_
   simp [go_sem, f1, f2, gb2, y0, y0']
   refine (hM _ _).2 ⟨rfl, ?_, ?_, ?_⟩ <;> simp [go_sem, f1, f2, gb2, y0, y0', ← ec]
 clear f1 f2
 obtain ⟨rfl, f1, f2, f26⟩ := hm
 refine SW.cond _ f26 (fun hx => ?_) (fun hx => ?_)
 ·have h := condT h hx
  refine SW.seq ?_
  obtain ⟨q2, hq2, h⟩ := obind h
  refine SW.regX (fun f_ t_ => τ = t_ ∧ f_ 4 = AV.bool (q2)) (fun M hM => ?_) (fun fr3 τz1 hm => ?_)
  ·simp [go_sem, f1, f2, f26, gb2]
   refine EWcall_pure (w_law17_awake _ hq2) ?_
   simp [go_sem, f1, f2, f26, gb2]
   refine (hM _ _).2 ⟨rfl, ?_⟩ <;> simp [go_sem, f1, f2, f26, gb2]
  clear f1 f2 f26
  obtain ⟨rfl, f4⟩ := hm
  obtain rfl := Option.some.inj h
  exact SW.ret ⟨AV.bool (q2), by simp [go_sem, f4], .lit _, hK.keeps⟩
 have h := condF h hx
 refine SW.skip ?_
 refine SW.seq ?_
 obtain ⟨rx, hrx, h⟩ := obind h
 refine SW.regX (fun f_ t_ => τ = t_ ∧ f_ 1 = AV.bool (o) ∧ f_ 2 = AV.ptr b2 0 ∧ f_ 5 = morphsA (rx.1) ∧ f_ 6 = AV.int (rx.2)) (fun M hM => ?_) (fun fr4 τz2 hm => ?_)
 ·simp [go_sem, f1, f2, f26, gb2]
  refine EWcall_pure (w_search_All t.t t.p t.g o _ hrx) ?_
  simp [go_sem, f1, f2, f26, gb2]
  refine (hM _ _).2 ⟨rfl, ?_, ?_, ?_, ?_⟩ <;> simp [go_sem, f1, f2, f26, gb2]
 clear f1 f2 f26
 obtain ⟨rfl, f1, f2, f5, f6⟩ := hm
 refine SW.seq ?_
 obtain ⟨rx1, hrx1, h⟩ := obind h
 refine SW.regX (fun f_ t_ => τ = t_ ∧ f_ 1 = AV.bool (o) ∧ f_ 2 = AV.ptr b2 0 ∧ f_ 5 = morphsA (rx.1) ∧ f_ 6 = AV.int (rx.2) ∧ f_ 7 = morphsA (rx1.1) ∧ f_ 8 = AV.int (rx1.2)) (fun M hM => ?_) (fun fr5 τz3 hm => ?_)
 ·simp [go_sem, f1, f2, f5, f6, gb2]
  refine EWcall_pure (w_ref17_All F t.t t.p t.g o _ hrx1) ?_
  simp [go_sem, f1, f2, f5, f6, gb2]
  refine (hM _ _).2 ⟨rfl, ?_, ?_, ?_, ?_, ?_, ?_⟩ <;> simp [go_sem, f1, f2, f5, f6, gb2]
 clear f1 f2 f5 f6
 obtain ⟨rfl, f1, f2, f5, f6, f7, f8⟩ := hm
 refine SW.seq ?_
 obtain ⟨rx2, hrx2, h⟩ := obind h
 refine SW.regX (fun f_ t_ => τ = t_ ∧ f_ 1 = AV.bool (o) ∧ f_ 2 = AV.ptr b2 0 ∧ f_ 5 = morphsA (rx.1) ∧ f_ 6 = AV.int (rx.2) ∧ f_ 7 = morphsA (rx1.1) ∧ f_ 8 = AV.int (rx1.2) ∧ f_ 9 = AV.int (rx2.1) ∧ f_ 10 = AV.int (rx2.2)) (fun M hM => ?_) (fun fr6 τz4 hm => ?_)
 ·simp [go_sem, f1, f2, f5, f6, f7, f8, gb2]
  refine EWcall_pure (w_search_Count t.t t.p t.g o _ hrx2) ?_
  simp [go_sem, f1, f2, f5, f6, f7, f8, gb2]
  refine (hM _ _).2 ⟨rfl, ?_, ?_, ?_, ?_, ?_, ?_, ?_, ?_⟩ <;> simp [go_sem, f1, f2, f5, f6, f7, f8, gb2]
 clear f1 f2 f5 f6 f7 f8
 obtain ⟨rfl, f1, f2, f5, f6, f7, f8, f9, f10⟩ := hm
 refine SW.seq ?_
 refine SW.seq ?_
 obtain ⟨c1, hc1, h⟩ := obind h
 refine SW.regX (fun f_ t_ => τ = t_ ∧ f_ 1 = AV.bool (o) ∧ f_ 2 = AV.ptr b2 0 ∧ f_ 5 = morphsA (rx.1) ∧ f_ 80 = AV.bool (c1)) (fun M hM => ?_) (fun fr7 τz5 hm => ?_)
 ·rcases Bool.eq_false_or_eq_true ((!decide (rx.2 = rx1.2))) with y0 | y0
  ·have y0' := y0
   try simp at y0'
   have ky0 := condT hc1 y0
   have ec1 := Option.some.inj ky0
   simp [go_sem, f1, f10, f2, f5, f6, f7, f8, f9, gb2, y0, y0']
   refine (hM _ _).2 ⟨rfl, ?_, ?_, ?_, ?_⟩ <;> simp [go_sem, f1, f10, f2, f5, f6, f7, f8, f9, gb2, y0, y0', ← ec1]
  ·have y0' := y0
   try simp at y0'
   have ky0 := condF hc1 y0
   rcases Bool.eq_false_or_eq_true ((!decide (rx2.2 = rx.2))) with y2 | y2
   ·have y2' := y2
    try simp [y0'] at y2'
    have ky2 := condT ky0 y2
    have ec1 := Option.some.inj ky2
    simp [go_sem, f1, f10, f2, f5, f6, f7, f8, f9, gb2, y0, y0', y2, y2']
    refine (hM _ _).2 ⟨rfl, ?_, ?_, ?_, ?_⟩ <;> simp [go_sem, f1, f10, f2, f5, f6, f7, f8, f9, gb2, y0, y0', y2, y2', ← ec1]
   ·have y2' := y2
    try simp [y0'] at y2'
    have ky2 := condF ky0 y2
    rcases Bool.eq_false_or_eq_true ((!decide (rx2.1 = ((rx1.1.length : Nat) : Int)))) with y4 | y4
    ·have y4' := y4
     try simp [y0', y2'] at y4'
     have ky4 := condT ky2 y4
     have ec1 := Option.some.inj ky4
     simp [go_sem, f1, f10, f2, f5, f6, f7, f8, f9, gb2, y0, y0', y2, y2', y4, y4']
     refine (hM _ _).2 ⟨rfl, ?_, ?_, ?_, ?_⟩ <;> simp [go_sem, f1, f10, f2, f5, f6, f7, f8, f9, gb2, y0, y0', y2, y2', y4, y4', ← ec1]
    ·have y4' := y4
     try simp [y0', y2'] at y4'
     have ky4 := condF ky2 y4
     obtain ⟨q3, hq3, ky4⟩ := obind ky4
     have ec1 := Option.some.inj ky4
     simp [go_sem, f1, f10, f2, f5, f6, f7, f8, f9, gb2, y0, y0', y2, y2', y4, y4']
     refine EWcall_pure (w_ref17_SameAll rx.1 rx1.1 _ hq3) ?_
     simp [go_sem, f1, f10, f2, f5, f6, f7, f8, f9, gb2, y0, y0', y2, y2', y4, y4']
     refine (hM _ _).2 ⟨rfl, ?_, ?_, ?_, ?_⟩ <;> simp [go_sem, f1, f10, f2, f5, f6, f7, f8, f9, gb2, y0, y0', y2, y2', y4, y4', ← ec1]
 clear f1 f10 f2 f5 f6 f7 f8 f9
 obtain ⟨rfl, f1, f2, f5, f80⟩ := hm
 refine SW.cond _ f80 (fun hx1 => ?_) (fun hx1 => ?_)
 ·have h := condT h hx1
  refine SW.seq ?_
  refine SW.regX (fun f_ t_ => τ = t_ ∧ f_ 4 = AV.bool (false)) (fun M hM => ?_) (fun fr8 τz6 hm => ?_)
  ·simp [go_sem, f1, f2, f5, f80, gb2]
   refine (hM _ _).2 ⟨rfl, ?_⟩ <;> simp [go_sem, f1, f2, f5, f80, gb2]
  clear f1 f2 f5 f80
  obtain ⟨rfl, f4⟩ := hm
  obtain rfl := Option.some.inj h
  exact SW.ret ⟨AV.bool (false), by simp [go_sem, f4], .lit _, hK.keeps⟩
 have h := condF h hx1
 refine SW.skip ?_
 refine SW.seq ?_
 refine SW.seq ?_
 refine SW.regX (fun f_ t_ => τ = t_ ∧ f_ 1 = AV.bool (o) ∧ f_ 2 = AV.ptr b2 0 ∧ f_ 5 = morphsA (rx.1) ∧ f_ 81 = morphsA (rx.1) ∧ f_ 82 = AV.int (((rx.1.length : Nat) : Int)) ∧ f_ 83 = AV.int (0)) (fun M hM => ?_) (fun fr9 τz7 hm => ?_)
 ·simp [go_sem, f1, f2, f5, f80, gb2]
  refine (hM _ _).2 ⟨rfl, ?_, ?_, ?_, ?_, ?_, ?_⟩ <;> simp [go_sem, f1, f2, f5, f80, gb2]
 clear f1 f2 f5 f80
 obtain ⟨rfl, f1, f2, f5, f81, f82, f83⟩ := hm
 obtain ⟨oi, hruni, hoi⟩ := obind h
 refine SW.len 5 f5 (fun hbigi => ?_)
 obtain ⟨KL, hKL⟩ : ∃ KL : Fr → Mem → Prop, ∀ fr' τ', KL fr' τ' ↔ (oi = .done () ∧ Kept σ0 τ' ∧ σ0.next ≤ τ'.next) := ⟨_, fun _ _ => Iff.rfl⟩
 refine SW.cut KL ?_ ?_
 ·refine SW.block ?_
  obtain ⟨J, hJ⟩ : ∃ J : Nat → Fr → Mem → Prop, ∀ m_ fr' τ', J m_ fr' τ' ↔ (∃ k : Nat, m_ = rx.1.length - k ∧ forN (b1_law17_SearchAll t o rx) (rx.1.length - k) k () = some oi ∧ fr' 1 = AV.bool (o) ∧ fr' 2 = AV.ptr b2 0 ∧ fr' 5 = morphsA (rx.1) ∧ fr' 81 = morphsA (rx.1) ∧ fr' 82 = AV.int (((rx.1.length : Nat) : Int)) ∧ fr' 83 = AV.int (((k : Nat) : Int)) ∧ Kept σ0 τ' ∧ σ0.next ≤ τ'.next ∧ τ'.get b2 = some [nodesA (t.t.nodes), edgesA (t.t.edges), intsA (t.p.nodes), e3sA (t.p.edges), intsA (t.g.nodes), e3sA (t.g.edges)] ∧ b2 < τ'.next) := ⟨_, fun _ _ _ => Iff.rfl⟩
  refine SW.loop J (rx.1.length - 0) ((hJ _ _ _).2 ⟨0, rfl, hruni, f1, f2, f5, f81, f82, f83, hK, hN, gb2, ub2⟩) ?_
  clear hruni
  intro m_ fr10 τ1 hm
  rw [hJ] at hm
  clear f1 f2 f5 f81 f82 f83 hK hN gb2 ub2
  obtain ⟨k, rfl, hruni, f1, f2, f5, f81, f82, f83, hK, hN, gb2, ub2⟩ := hm
  refine SW.seq ?_
  refine SW.regX (fun f_ t_ => τ1 = t_ ∧ f_ 1 = AV.bool (o) ∧ f_ 2 = AV.ptr b2 0 ∧ f_ 5 = morphsA (rx.1) ∧ f_ 81 = morphsA (rx.1) ∧ f_ 82 = AV.int (((rx.1.length : Nat) : Int)) ∧ f_ 83 = AV.int (((k : Nat) : Int)) ∧ f_ 84 = AV.bool ((decide (k < rx.1.length)))) (fun M hM => ?_) (fun fr11 τz8 hm => ?_)
  ·simp [go_sem, f1, f2, f5, f81, f82, f83, gb2]
   refine (hM _ _).2 ⟨rfl, ?_, ?_, ?_, ?_, ?_, ?_, ?_⟩ <;> simp [go_sem, f1, f2, f5, f81, f82, f83, gb2]
  clear f1 f2 f5 f81 f82 f83
  obtain ⟨rfl, f1, f2, f5, f81, f82, f83, f84⟩ := hm
  refine SW.seq ?_
  refine SW.cond _ f84 (fun hx2 => ?_) (fun hx2 => ?_)
  rotate_left
  ·have hk : ¬ k < rx.1.length := by have := of_decide_eq_false hx2; omega
   refine SW.exit rfl ?_
   exact SW.goal ((hKL _ _).2 ⟨forN_end hruni hk, hK, hN⟩)
  have hkk : k < rx.1.length := by have := of_decide_eq_true hx2; omega
  have hwk : IntKind.i64.wrap ((k : Int) + 1) = ((k + 1 : Nat) : Int) := by rw [wrap64_of _ (by omega) (by omega)]; rfl
  obtain ⟨ci, hbi, hci⟩ := forN_step hruni hkk
  simp only [b1_law17_SearchAll] at hbi
  refine SW.skip ?_
  refine SW.seq ?_
  refine SW.block ?_
  refine SW.seq ?_
  obtain ⟨x, hx, hbi⟩ := obind hbi
  have xlx := getN_lt hx
  have xdx := getN_flat morphC 2 (fun _ => rfl) hx
  refine SW.regX (fun f_ t_ => ∃ b12 : Nat, f_ 1 = AV.bool (o) ∧ f_ 2 = AV.ptr b2 0 ∧ f_ 5 = morphsA (rx.1) ∧ f_ 11 = AV.int (((k : Nat) : Int)) ∧ f_ 12 = AV.ptr b12 0 ∧ f_ 81 = morphsA (rx.1) ∧ f_ 82 = AV.int (((rx.1.length : Nat) : Int)) ∧ f_ 83 = AV.int (((k : Nat) : Int)) ∧ Kept σ0 t_ ∧ σ0.next ≤ t_.next ∧ t_.get b2 = some [nodesA (t.t.nodes), edgesA (t.t.edges), intsA (t.p.nodes), e3sA (t.p.edges), intsA (t.g.nodes), e3sA (t.g.edges)] ∧ b2 < t_.next ∧ t_.get b12 = some [intsA (x.nodes), intsA (x.edges)] ∧ b12 < t_.next ∧ σ0.next ≤ b12 ∧ ¬ b2 = b12) (fun M hM => ?_) (fun fr12 τ2 hm => ?_)
  ·have nb2_0 : ¬ b2 = τ1.next := by omega
   simp [go_sem, f1, f2, f5, f81, f82, f83, f84, gb2, xlx, xdx, morphC, nb2_0]
   refine (hM _ _).2 ⟨τ1.next, ?_, ?_, ?_, ?_, ?_, ?_, ?_, ?_, by intro j hj; have hj_ := hK j hj; simp [go_sem, hj_.1, hj_.2, show ¬ j = τ1.next by omega], by first | omega | (simp [go_sem]; done) | (simp [go_sem]; omega), by simp (disch := omega) [get_alloc_ne, get_set_ne, get_kill_ne, go_sem, f1, f2, f5, f81, f82, f83, f84, gb2, xlx, xdx, morphC, nb2_0], by first | omega | (simp [go_sem]; done) | (simp [go_sem]; omega), by simp (disch := omega) [get_alloc_ne, get_set_ne, get_kill_ne, go_sem, f1, f2, f5, f81, f82, f83, f84, gb2, xlx, xdx, morphC, nb2_0], by first | omega | (simp [go_sem]; done) | (simp [go_sem]; omega), by omega, by omega⟩ <;> simp [go_sem, f1, f2, f5, f81, f82, f83, f84, gb2, xlx, xdx, morphC, nb2_0]
  clear f1 f2 f5 f81 f82 f83 f84 hK hN gb2 ub2
  obtain ⟨b12, f1, f2, f5, f11, f12, f81, f82, f83, hK, hN, gb2, ub2, gb12, ub12, wb12, eb2b12⟩ := hm
  refine SW.seq ?_
  refine SW.seq ?_
  obtain ⟨n, hn, hbi⟩ := obind hbi
  refine SW.regX (fun f_ t_ => τ2 = t_ ∧ f_ 1 = AV.bool (o) ∧ f_ 2 = AV.ptr b2 0 ∧ f_ 5 = morphsA (rx.1) ∧ f_ 11 = AV.int (((k : Nat) : Int)) ∧ f_ 12 = AV.ptr b12 0 ∧ f_ 81 = morphsA (rx.1) ∧ f_ 82 = AV.int (((rx.1.length : Nat) : Int)) ∧ f_ 83 = AV.int (((k : Nat) : Int)) ∧ f_ 97 = AV.bool ((!decide (n = 0)))) (fun M hM => ?_) (fun fr13 τz9 hm => ?_)
  ·simp [go_sem, f1, f11, f12, f2, f5, f81, f82, f83, gb2, gb12]
   refine EWcall_pure (w_search_Check t.t t.p t.g x o _ hn) ?_
   simp [go_sem, f1, f11, f12, f2, f5, f81, f82, f83, gb2, gb12]
   refine (hM _ _).2 ⟨rfl, ?_, ?_, ?_, ?_, ?_, ?_, ?_, ?_, ?_⟩ <;> simp [go_sem, f1, f11, f12, f2, f5, f81, f82, f83, gb2, gb12]
  clear f1 f11 f12 f2 f5 f81 f82 f83
  obtain ⟨rfl, f1, f2, f5, f11, f12, f81, f82, f83, f97⟩ := hm
  refine SW.cond _ f97 (fun hx3 => ?_) (fun hx3 => ?_)
  ·have hbi := condT hbi hx3
   refine SW.seq ?_
   refine SW.regX (fun f_ t_ => τ2 = t_ ∧ f_ 4 = AV.bool (false)) (fun M hM => ?_) (fun fr14 τz10 hm => ?_)
   ·simp [go_sem, f1, f11, f12, f2, f5, f81, f82, f83, f97, gb2, gb12]
    refine (hM _ _).2 ⟨rfl, ?_⟩ <;> simp [go_sem, f1, f11, f12, f2, f5, f81, f82, f83, f97, gb2, gb12]
   clear f1 f11 f12 f2 f5 f81 f82 f83 f97
   obtain ⟨rfl, f4⟩ := hm
   obtain rfl := Option.some.inj hbi
   obtain rfl := Option.some.inj hci
   obtain rfl := Option.some.inj hoi
   exact SW.ret ⟨AV.bool (false), by simp [go_sem, f4], .lit _, hK.keeps⟩
  have hbi := condF hbi hx3
  refine SW.skip ?_
  refine SW.seq ?_
  refine SW.regX (fun f_ t_ => τ2 = t_ ∧ f_ 1 = AV.bool (o) ∧ f_ 2 = AV.ptr b2 0 ∧ f_ 5 = morphsA (rx.1) ∧ f_ 11 = AV.int (((k : Nat) : Int)) ∧ f_ 12 = AV.ptr b12 0 ∧ f_ 81 = morphsA (rx.1) ∧ f_ 82 = AV.int (((rx.1.length : Nat) : Int)) ∧ f_ 83 = AV.int (((k : Nat) : Int)) ∧ f_ 99 = AV.bool ((decide (0 < ((k : Nat) : Int))))) (fun M hM => ?_) (fun fr15 τz11 hm => ?_)
  ·simp [go_sem, f1, f11, f12, f2, f5, f81, f82, f83, f97, gb2, gb12]
   refine (hM _ _).2 ⟨rfl, ?_, ?_, ?_, ?_, ?_, ?_, ?_, ?_, ?_⟩ <;> simp [go_sem, f1, f11, f12, f2, f5, f81, f82, f83, f97, gb2, gb12]
  clear f1 f11 f12 f2 f5 f81 f82 f83 f97
  obtain ⟨rfl, f1, f2, f5, f11, f12, f81, f82, f83, f99⟩ := hm
  refine SW.cond _ f99 (fun hx4 => ?_) (fun hx4 => ?_)
  ·have hbi := condT hbi hx4
   refine SW.seq ?_
   obtain ⟨w, nw⟩ : ∃ w : Int, (IntKind.i64.wrap (((k : Nat) : Int) - 1)) = w := ⟨_, rfl⟩
   rw [nw] at hbi
   obtain ⟨x1, hx1, hbi⟩ := obind hbi
   have xpx1 := getI_pos hx1
   have xlx1 := getI_lt hx1
   have xix1 := getI_N hx1
   have xdx1 := getN_flat morphC 2 (fun _ => rfl) xix1
   refine SW.regX (fun f_ t_ => ∃ b13 : Nat, f_ 1 = AV.bool (o) ∧ f_ 2 = AV.ptr b2 0 ∧ f_ 5 = morphsA (rx.1) ∧ f_ 12 = AV.ptr b12 0 ∧ f_ 13 = AV.ptr b13 0 ∧ f_ 81 = morphsA (rx.1) ∧ f_ 82 = AV.int (((rx.1.length : Nat) : Int)) ∧ f_ 83 = AV.int (((k : Nat) : Int)) ∧ Kept σ0 t_ ∧ σ0.next ≤ t_.next ∧ t_.get b2 = some [nodesA (t.t.nodes), edgesA (t.t.edges), intsA (t.p.nodes), e3sA (t.p.edges), intsA (t.g.nodes), e3sA (t.g.edges)] ∧ b2 < t_.next ∧ t_.get b12 = some [intsA (x.nodes), intsA (x.edges)] ∧ b12 < t_.next ∧ t_.get b13 = some [intsA (x1.nodes), intsA (x1.edges)] ∧ b13 < t_.next ∧ σ0.next ≤ b13 ∧ ¬ b2 = b13 ∧ ¬ b12 = b13) (fun M hM => ?_) (fun fr16 τ3 hm => ?_)
   ·have nb2_0 : ¬ b2 = τ2.next := by omega
    have nb12_0 : ¬ b12 = τ2.next := by omega
    simp [go_sem, f1, f11, f12, f2, f5, f81, f82, f83, f99, gb2, gb12, xpx1, xlx1, xdx1, morphC, nw, nb2_0, nb12_0]
    refine (hM _ _).2 ⟨τ2.next, ?_, ?_, ?_, ?_, ?_, ?_, ?_, ?_, by intro j hj; have hj_ := hK j hj; simp [go_sem, hj_.1, hj_.2, show ¬ j = τ2.next by omega], by first | omega | (simp [go_sem]; done) | (simp [go_sem]; omega), by simp (disch := omega) [get_alloc_ne, get_set_ne, get_kill_ne, go_sem, f1, f11, f12, f2, f5, f81, f82, f83, f99, gb2, gb12, xpx1, xlx1, xdx1, morphC, nw, nb2_0, nb12_0], by first | omega | (simp [go_sem]; done) | (simp [go_sem]; omega), by simp (disch := omega) [get_alloc_ne, get_set_ne, get_kill_ne, go_sem, f1, f11, f12, f2, f5, f81, f82, f83, f99, gb2, gb12, xpx1, xlx1, xdx1, morphC, nw, nb2_0, nb12_0], by first | omega | (simp [go_sem]; done) | (simp [go_sem]; omega), by simp (disch := omega) [get_alloc_ne, get_set_ne, get_kill_ne, go_sem, f1, f11, f12, f2, f5, f81, f82, f83, f99, gb2, gb12, xpx1, xlx1, xdx1, morphC, nw, nb2_0, nb12_0], by first | omega | (simp [go_sem]; done) | (simp [go_sem]; omega), by omega, by omega, by omega⟩ <;> simp [go_sem, f1, f11, f12, f2, f5, f81, f82, f83, f99, gb2, gb12, xpx1, xlx1, xdx1, morphC, nw, nb2_0, nb12_0]
   clear f1 f11 f12 f2 f5 f81 f82 f83 f99 hK hN gb2 ub2 gb12 ub12
   obtain ⟨b13, f1, f2, f5, f12, f13, f81, f82, f83, hK, hN, gb2, ub2, gb12, ub12, gb13, ub13, wb13, eb2b13, eb12b13⟩ := hm
   refine SW.seq ?_
   obtain ⟨n1, hn1, hbi⟩ := obind hbi
   refine SW.regX (fun f_ t_ => τ3 = t_ ∧ f_ 1 = AV.bool (o) ∧ f_ 2 = AV.ptr b2 0 ∧ f_ 5 = morphsA (rx.1) ∧ f_ 12 = AV.ptr b12 0 ∧ f_ 13 = AV.ptr b13 0 ∧ f_ 14 = AV.int (n1) ∧ f_ 81 = morphsA (rx.1) ∧ f_ 82 = AV.int (((rx.1.length : Nat) : Int)) ∧ f_ 83 = AV.int (((k : Nat) : Int))) (fun M hM => ?_) (fun fr17 τz12 hm => ?_)
   ·simp [go_sem, f1, f12, f13, f2, f5, f81, f82, f83, gb2, gb12, gb13]
    refine EWcall_pure (w_slices_Compare_int x1.nodes x.nodes _ hn1) ?_
    simp [go_sem, f1, f12, f13, f2, f5, f81, f82, f83, gb2, gb12, gb13]
    refine (hM _ _).2 ⟨rfl, ?_, ?_, ?_, ?_, ?_, ?_, ?_, ?_, ?_⟩ <;> simp [go_sem, f1, f12, f13, f2, f5, f81, f82, f83, gb2, gb12, gb13]
   clear f1 f12 f13 f2 f5 f81 f82 f83
   obtain ⟨rfl, f1, f2, f5, f12, f13, f14, f81, f82, f83⟩ := hm
   refine SW.seq ?_
   obtain ⟨c2, hc2, hbi⟩ := obind hbi
   refine SW.regX (fun f_ t_ => τ3 = t_ ∧ f_ 1 = AV.bool (o) ∧ f_ 2 = AV.ptr b2 0 ∧ f_ 5 = morphsA (rx.1) ∧ f_ 81 = morphsA (rx.1) ∧ f_ 82 = AV.int (((rx.1.length : Nat) : Int)) ∧ f_ 83 = AV.int (((k : Nat) : Int)) ∧ f_ 123 = AV.bool (c2)) (fun M hM => ?_) (fun fr18 τz13 hm => ?_)
   ·rcases Bool.eq_false_or_eq_true ((decide (0 < n1))) with y0 | y0
    ·have y0' := y0
     try simp at y0'
     have ky0 := condT hc2 y0
     have ec2 := Option.some.inj ky0
     simp [go_sem, f1, f12, f13, f14, f2, f5, f81, f82, f83, gb2, gb12, gb13, y0, y0']
     refine (hM _ _).2 ⟨rfl, ?_, ?_, ?_, ?_, ?_, ?_, ?_⟩ <;> simp [go_sem, f1, f12, f13, f14, f2, f5, f81, f82, f83, gb2, gb12, gb13, y0, y0', ← ec2]
    ·have y0' := y0
     try simp at y0'
     have ky0 := condF hc2 y0
     rcases Bool.eq_false_or_eq_true ((decide (n1 = 0))) with y2 | y2
     ·have y2' := y2
      try simp [y0'] at y2'
      have ky2 := condT ky0 y2
      obtain ⟨n2, hn2, ky2⟩ := obind ky2
      have ec2 := Option.some.inj ky2
      simp [go_sem, f1, f12, f13, f14, f2, f5, f81, f82, f83, gb2, gb12, gb13, y0, y0', y2, y2']
      refine EWcall_pure (w_slices_Compare_int x1.edges x.edges _ hn2) ?_
      simp [go_sem, f1, f12, f13, f14, f2, f5, f81, f82, f83, gb2, gb12, gb13, y0, y0', y2, y2']
      refine (hM _ _).2 ⟨rfl, ?_, ?_, ?_, ?_, ?_, ?_, ?_⟩ <;> simp [go_sem, f1, f12, f13, f14, f2, f5, f81, f82, f83, gb2, gb12, gb13, y0, y0', y2, y2', ← ec2]
     ·have y2' := y2
      try simp [y0'] at y2'
      have ky2 := condF ky0 y2
      have ec2 := Option.some.inj ky2
      simp [go_sem, f1, f12, f13, f14, f2, f5, f81, f82, f83, gb2, gb12, gb13, y0, y0', y2, y2']
      refine (hM _ _).2 ⟨rfl, ?_, ?_, ?_, ?_, ?_, ?_, ?_⟩ <;> simp [go_sem, f1, f12, f13, f14, f2, f5, f81, f82, f83, gb2, gb12, gb13, y0, y0', y2, y2', ← ec2]
   clear f1 f12 f13 f14 f2 f5 f81 f82 f83
   obtain ⟨rfl, f1, f2, f5, f81, f82, f83, f123⟩ := hm
   refine SW.cond _ f123 (fun hx5 => ?_) (fun hx5 => ?_)
   ·have hbi := condT hbi hx5
    refine SW.seq ?_
    refine SW.regX (fun f_ t_ => τ3 = t_ ∧ f_ 4 = AV.bool (false)) (fun M hM => ?_) (fun fr19 τz14 hm => ?_)
    ·simp [go_sem, f1, f123, f2, f5, f81, f82, f83, gb2]
     refine (hM _ _).2 ⟨rfl, ?_⟩ <;> simp [go_sem, f1, f123, f2, f5, f81, f82, f83, gb2]
    clear f1 f123 f2 f5 f81 f82 f83
    obtain ⟨rfl, f4⟩ := hm
    obtain rfl := Option.some.inj hbi
    obtain rfl := Option.some.inj hci
    obtain rfl := Option.some.inj hoi
    exact SW.ret ⟨AV.bool (false), by simp [go_sem, f4], .lit _, hK.keeps⟩
   have hbi := condF hbi hx5
   refine SW.skip ?_
   refine SW.blk ?_
   refine SW.regX (fun f_ t_ => τ3 = t_ ∧ f_ 1 = AV.bool (o) ∧ f_ 2 = AV.ptr b2 0 ∧ f_ 5 = morphsA (rx.1) ∧ f_ 81 = morphsA (rx.1) ∧ f_ 82 = AV.int (((rx.1.length : Nat) : Int)) ∧ f_ 83 = AV.int (((k + 1 : Nat) : Int))) (fun M hM => ?_) (fun fr20 τz15 hm => ?_)
   ·simp [go_sem, f1, f123, f2, f5, f81, f82, f83, gb2, hwk]
    refine (hM _ _).2 ⟨rfl, ?_, ?_, ?_, ?_, ?_, ?_⟩ <;> simp [go_sem, f1, f123, f2, f5, f81, f82, f83, gb2, hwk]
   clear f1 f123 f2 f5 f81 f82 f83
   obtain ⟨rfl, f1, f2, f5, f81, f82, f83⟩ := hm
   obtain rfl := Option.some.inj hbi
   exact SW.goal ⟨rx.1.length - (k + 1), by omega, (hJ _ _ _).2 ⟨k + 1, rfl, hci, f1, f2, f5, f81, f82, f83, hK, hN, gb2, ub2⟩⟩
  have hbi := condF hbi hx4
  refine SW.skip ?_
  refine SW.blk ?_
  refine SW.regX (fun f_ t_ => τ2 = t_ ∧ f_ 1 = AV.bool (o) ∧ f_ 2 = AV.ptr b2 0 ∧ f_ 5 = morphsA (rx.1) ∧ f_ 81 = morphsA (rx.1) ∧ f_ 82 = AV.int (((rx.1.length : Nat) : Int)) ∧ f_ 83 = AV.int (((k + 1 : Nat) : Int))) (fun M hM => ?_) (fun fr21 τz16 hm => ?_)
  ·simp [go_sem, f1, f11, f12, f2, f5, f81, f82, f83, f99, gb2, gb12, hwk]
   refine (hM _ _).2 ⟨rfl, ?_, ?_, ?_, ?_, ?_, ?_⟩ <;> simp [go_sem, f1, f11, f12, f2, f5, f81, f82, f83, f99, gb2, gb12, hwk]
  clear f1 f11 f12 f2 f5 f81 f82 f83 f99
  obtain ⟨rfl, f1, f2, f5, f81, f82, f83⟩ := hm
  obtain rfl := Option.some.inj hbi
  exact SW.goal ⟨rx.1.length - (k + 1), by omega, (hJ _ _ _).2 ⟨k + 1, rfl, hci, f1, f2, f5, f81, f82, f83, hK, hN, gb2, ub2⟩⟩
 intro fr22 τ4 hm
 rw [hKL] at hm
 clear hKL hruni
 clear f1 f2 f5 f81 f82 f83 hK hN gb2 ub2
 obtain ⟨rfl, hK, hN⟩ := hm
 simp only [Out.on] at hoi
 refine SW.seq ?_
 refine SW.regX (fun f_ t_ => τ4 = t_ ∧ f_ 4 = AV.bool (true)) (fun M hM => ?_) (fun fr23 τz17 hm => ?_)
 ·simp [go_sem]
  refine (hM _ _).2 ⟨rfl, ?_⟩ <;> simp [go_sem]
 obtain ⟨rfl, f4⟩ := hm
 obtain rfl := Option.some.inj hoi
 exact SW.ret ⟨AV.bool (true), by simp [go_sem, f4], .lit _, hK.keeps⟩
end Go.Proofs.YtdacgjleiloooaaGreat
