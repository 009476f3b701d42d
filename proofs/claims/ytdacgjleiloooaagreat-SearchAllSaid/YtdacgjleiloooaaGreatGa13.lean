/-
  Plain functions and the walks that lead to them, by a program of ours (gen.py): (*scarfjoint/scarfjointref17.search).fits, (*scarfjoint/scarfjointref17.search).used.
-/
import Derived.Test.YtdacgjleiloooaaGreatGd
import Derived.Test.YtdacgjleiloooaaGreatGT
import Derived.Test.YtdacgjleiloooaaGreatB3
import Derived.Test.YtdacgjleiloooaaGreatGS
set_option linter.unusedSimpArgs false
set_option linter.unusedVariables false
namespace Go.Proofs.YtdacgjleiloooaaGreat
open Go Go.Ew Go.Proofs Go.RowKit
set_option maxRecDepth 100000
set_option maxHeartbeats 4000000 in
theorem w_ref17_search_fits (t : Gscarfjointref17_search) (o : List Int) (r : (Bool)) (h : s_ref17_search_fits t o = some r) : PureA Tryz.prog 91 [AV.iptr [nodesA (t.t.nodes), edgesA (t.t.edges), intsA (t.p.nodes), e3sA (t.p.edges), intsA (t.g.nodes), e3sA (t.g.edges), intsA (t.partialx.nodes), intsA (t.partialx.edges), AV.bool (t.injective), AV.int (t.most), morphsA (t.found)], intsA (o)] (AV.bool (r)) := by
 refine pureA_of_SW (N := 88) Tryz.func91 (by kernel_rfl) rfl (by rw [Tryz.ntmps91]; rfl) (fun σ0 => ?_)
 rw [Tryz.results91]
 obtain ⟨fr0, hfr⟩ : ∃ fr, fr = initFr [AV.iptr [nodesA (t.t.nodes), edgesA (t.t.edges), intsA (t.p.nodes), e3sA (t.p.edges), intsA (t.g.nodes), e3sA (t.g.edges), intsA (t.partialx.nodes), intsA (t.partialx.edges), AV.bool (t.injective), AV.int (t.most), morphsA (t.found)], intsA (o)] := ⟨_, rfl⟩
 rw [← hfr]
 have f0 : fr0 0 = AV.iptr [nodesA (t.t.nodes), edgesA (t.t.edges), intsA (t.p.nodes), e3sA (t.p.edges), intsA (t.g.nodes), e3sA (t.g.edges), intsA (t.partialx.nodes), intsA (t.partialx.edges), AV.bool (t.injective), AV.int (t.most), morphsA (t.found)] := by rw [hfr]; rfl
 have f1 : fr0 1 = intsA (o) := by rw [hfr]; rfl
 clear hfr
 simp only [s_ref17_search_fits] at h
 refine SW.seq ?_
 refine SW.regX (fun f_ t_ => σ0 = t_ ∧ f_ 0 = AV.iptr [nodesA (t.t.nodes), edgesA (t.t.edges), intsA (t.p.nodes), e3sA (t.p.edges), intsA (t.g.nodes), e3sA (t.g.edges), intsA (t.partialx.nodes), intsA (t.partialx.edges), AV.bool (t.injective), AV.int (t.most), morphsA (t.found)] ∧ f_ 1 = intsA (o)) (fun M hM => ?_) (fun fr1 τz hm => ?_)
 ·simp [go_sem, f0, f1]
  refine (hM _ _).2 ⟨rfl, ?_, ?_⟩ <;> simp [go_sem, f0, f1]
 clear f0 f1
 obtain ⟨rfl, f0, f1⟩ := hm
 refine SW.seq ?_
 refine SW.seq ?_
 refine SW.regX (fun f_ t_ => σ0 = t_ ∧ f_ 0 = AV.iptr [nodesA (t.t.nodes), edgesA (t.t.edges), intsA (t.p.nodes), e3sA (t.p.edges), intsA (t.g.nodes), e3sA (t.g.edges), intsA (t.partialx.nodes), intsA (t.partialx.edges), AV.bool (t.injective), AV.int (t.most), morphsA (t.found)] ∧ f_ 1 = intsA (o) ∧ f_ 5 = AV.int (0)) (fun M hM => ?_) (fun fr2 τz1 hm => ?_)
 ·simp [go_sem, f0, f1]
  refine (hM _ _).2 ⟨rfl, ?_, ?_, ?_⟩ <;> simp [go_sem, f0, f1]
 clear f0 f1
 obtain ⟨rfl, f0, f1, f5⟩ := hm
 obtain ⟨oi, hruni, hoi⟩ := obind h
 obtain ⟨hbigi, hruni⟩ := forR_run hruni
 obtain ⟨KL, hKL⟩ : ∃ KL : Fr → Mem → Prop, ∀ fr' τ', KL fr' τ' ↔ (oi = .done () ∧ Kept σ0 τ' ∧ σ0.next ≤ τ'.next) := ⟨_, fun _ _ => Iff.rfl⟩
 refine SW.cut KL ?_ ?_
 ·refine SW.block ?_
  obtain ⟨J, hJ⟩ : ∃ J : Nat → Fr → Mem → Prop, ∀ m_ fr' τ', J m_ fr' τ' ↔ (∃ a : Nat, m_ = t.p.edges.length - a ∧ forN (b1_ref17_search_fits t o) (t.p.edges.length - a) a () = some oi ∧ fr' 0 = AV.iptr [nodesA (t.t.nodes), edgesA (t.t.edges), intsA (t.p.nodes), e3sA (t.p.edges), intsA (t.g.nodes), e3sA (t.g.edges), intsA (t.partialx.nodes), intsA (t.partialx.edges), AV.bool (t.injective), AV.int (t.most), morphsA (t.found)] ∧ fr' 1 = intsA (o) ∧ fr' 5 = AV.int (((a : Nat) : Int)) ∧ Kept σ0 τ' ∧ σ0.next ≤ τ'.next) := ⟨_, fun _ _ _ => Iff.rfl⟩
  refine SW.loop J (t.p.edges.length - 0) ((hJ _ _ _).2 ⟨0, rfl, hruni, f0, f1, f5, Kept.refl _, Nat.le_refl _⟩) ?_
  clear hruni
  intro m_ fr3 τ hm
  rw [hJ] at hm
  clear f0 f1 f5
  obtain ⟨a, rfl, hruni, f0, f1, f5, hK, hN⟩ := hm
  refine SW.seq ?_
  refine SW.seq ?_
  refine SW.regX (fun f_ t_ => τ = t_ ∧ f_ 0 = AV.iptr [nodesA (t.t.nodes), edgesA (t.t.edges), intsA (t.p.nodes), e3sA (t.p.edges), intsA (t.g.nodes), e3sA (t.g.edges), intsA (t.partialx.nodes), intsA (t.partialx.edges), AV.bool (t.injective), AV.int (t.most), morphsA (t.found)] ∧ f_ 1 = intsA (o) ∧ f_ 5 = AV.int (((a : Nat) : Int)) ∧ f_ 17 = AV.bool ((decide (a < t.p.edges.length)))) (fun M hM => ?_) (fun fr4 τz2 hm => ?_)
  ·simp [go_sem, f0, f1, f5]
   refine (hM _ _).2 ⟨rfl, ?_, ?_, ?_, ?_⟩ <;> simp [go_sem, f0, f1, f5]
  clear f0 f1 f5
  obtain ⟨rfl, f0, f1, f5, f17⟩ := hm
  refine SW.cond _ f17 (fun hx => ?_) (fun hx => ?_)
  rotate_left
  ·have hk : ¬ a < t.p.edges.length := by have := of_decide_eq_false hx; omega
   refine SW.exit rfl ?_
   exact SW.goal ((hKL _ _).2 ⟨forN_end hruni hk, hK, hN⟩)
  have hka : a < t.p.edges.length := by have := of_decide_eq_true hx; omega
  have hwa : IntKind.i64.wrap ((a : Int) + 1) = ((a + 1 : Nat) : Int) := by rw [wrap64_of _ (by omega) (by omega)]; rfl
  obtain ⟨ci, hbi, hci⟩ := forN_step hruni hka
  simp only [b1_ref17_search_fits] at hbi
  refine SW.skip ?_
  refine SW.seq ?_
  refine SW.block ?_
  refine SW.seq ?_
  obtain ⟨x, hx, hbi⟩ := obind hbi
  have xlx := getN_lt hx
  have xdx := getN_flat e3C 3 (fun _ => rfl) hx
  refine SW.regX (fun f_ t_ => ∃ b6 : Nat, f_ 0 = AV.iptr [nodesA (t.t.nodes), edgesA (t.t.edges), intsA (t.p.nodes), e3sA (t.p.edges), intsA (t.g.nodes), e3sA (t.g.edges), intsA (t.partialx.nodes), intsA (t.partialx.edges), AV.bool (t.injective), AV.int (t.most), morphsA (t.found)] ∧ f_ 1 = intsA (o) ∧ f_ 5 = AV.int (((a : Nat) : Int)) ∧ f_ 6 = AV.ptr b6 0 ∧ Kept σ0 t_ ∧ σ0.next ≤ t_.next ∧ t_.get b6 = some [AV.int (x.kind), AV.int (x.src), AV.int (x.tgt)] ∧ b6 < t_.next ∧ σ0.next ≤ b6) (fun M hM => ?_) (fun fr5 τ1 hm => ?_)
  ·simp [go_sem, f0, f1, f17, f5, xlx, xdx, e3C]
   refine (hM _ _).2 ⟨τ.next, ?_, ?_, ?_, ?_, by intro j hj; have hj_ := hK j hj; simp [go_sem, hj_.1, hj_.2, show ¬ j = τ.next by omega], by first | omega | (simp [go_sem]; done) | (simp [go_sem]; omega), by simp (disch := omega) [get_alloc_ne, get_set_ne, get_kill_ne, go_sem, f0, f1, f17, f5, xlx, xdx, e3C], by first | omega | (simp [go_sem]; done) | (simp [go_sem]; omega), by omega⟩ <;> simp [go_sem, f0, f1, f17, f5, xlx, xdx, e3C]
  clear f0 f1 f17 f5 hK hN
  obtain ⟨b6, f0, f1, f5, f6, hK, hN, gb6, ub6, wb6⟩ := hm
  refine SW.seq ?_
  refine SW.seq ?_
  refine SW.regX (fun f_ t_ => τ1 = t_ ∧ f_ 0 = AV.iptr [nodesA (t.t.nodes), edgesA (t.t.edges), intsA (t.p.nodes), e3sA (t.p.edges), intsA (t.g.nodes), e3sA (t.g.edges), intsA (t.partialx.nodes), intsA (t.partialx.edges), AV.bool (t.injective), AV.int (t.most), morphsA (t.found)] ∧ f_ 1 = intsA (o) ∧ f_ 5 = AV.int (((a : Nat) : Int)) ∧ f_ 6 = AV.ptr b6 0 ∧ f_ 39 = AV.bool ((((decide (((o.length : Nat) : Int) ≤ x.src))) || ((decide (((o.length : Nat) : Int) ≤ x.tgt)))))) (fun M hM => ?_) (fun fr6 τz3 hm => ?_)
  ·rcases Bool.eq_false_or_eq_true ((decide (((o.length : Nat) : Int) ≤ x.src))) with y0 | y0
   ·have y0' := y0
    try simp at y0'
    simp [go_sem, f0, f1, f5, f6, gb6, y0, y0']
    refine (hM _ _).2 ⟨rfl, ?_, ?_, ?_, ?_, ?_⟩ <;> simp [go_sem, f0, f1, f5, f6, gb6, y0, y0']
   ·have y0' := y0
    try simp at y0'
    simp [go_sem, f0, f1, f5, f6, gb6, y0, y0']
    refine (hM _ _).2 ⟨rfl, ?_, ?_, ?_, ?_, ?_⟩ <;> simp [go_sem, f0, f1, f5, f6, gb6, y0, y0']
  clear f0 f1 f5 f6
  obtain ⟨rfl, f0, f1, f5, f6, f39⟩ := hm
  refine SW.cond _ f39 (fun hx1 => ?_) (fun hx1 => ?_)
  ·have hbi := condT hbi hx1
   refine SW.exit rfl ?_
   refine SW.regX (fun f_ t_ => τ1 = t_ ∧ f_ 0 = AV.iptr [nodesA (t.t.nodes), edgesA (t.t.edges), intsA (t.p.nodes), e3sA (t.p.edges), intsA (t.g.nodes), e3sA (t.g.edges), intsA (t.partialx.nodes), intsA (t.partialx.edges), AV.bool (t.injective), AV.int (t.most), morphsA (t.found)] ∧ f_ 1 = intsA (o) ∧ f_ 5 = AV.int (((a + 1 : Nat) : Int))) (fun M hM => ?_) (fun fr7 τz4 hm => ?_)
   ·simp [go_sem, f0, f1, f39, f5, f6, gb6, hwa]
    refine (hM _ _).2 ⟨rfl, ?_, ?_, ?_⟩ <;> simp [go_sem, f0, f1, f39, f5, f6, gb6, hwa]
   clear f0 f1 f39 f5 f6
   obtain ⟨rfl, f0, f1, f5⟩ := hm
   obtain rfl := Option.some.inj hbi
   exact SW.goal ⟨t.p.edges.length - (a + 1), by omega, (hJ _ _ _).2 ⟨a + 1, rfl, hci, f0, f1, f5, hK, hN⟩⟩
  have hbi := condF hbi hx1
  refine SW.skip ?_
  refine SW.seq ?_
  refine SW.regX (fun f_ t_ => τ1 = t_ ∧ f_ 0 = AV.iptr [nodesA (t.t.nodes), edgesA (t.t.edges), intsA (t.p.nodes), e3sA (t.p.edges), intsA (t.g.nodes), e3sA (t.g.edges), intsA (t.partialx.nodes), intsA (t.partialx.edges), AV.bool (t.injective), AV.int (t.most), morphsA (t.found)] ∧ f_ 1 = intsA (o) ∧ f_ 5 = AV.int (((a : Nat) : Int)) ∧ f_ 6 = AV.ptr b6 0 ∧ f_ 7 = AV.bool (false)) (fun M hM => ?_) (fun fr8 τz5 hm => ?_)
  ·simp [go_sem, f0, f1, f39, f5, f6, gb6]
   refine (hM _ _).2 ⟨rfl, ?_, ?_, ?_, ?_, ?_⟩ <;> simp [go_sem, f0, f1, f39, f5, f6, gb6]
  clear f0 f1 f39 f5 f6
  obtain ⟨rfl, f0, f1, f5, f6, f7⟩ := hm
  refine SW.seq ?_
  refine SW.seq ?_
  refine SW.regX (fun f_ t_ => τ1 = t_ ∧ f_ 0 = AV.iptr [nodesA (t.t.nodes), edgesA (t.t.edges), intsA (t.p.nodes), e3sA (t.p.edges), intsA (t.g.nodes), e3sA (t.g.edges), intsA (t.partialx.nodes), intsA (t.partialx.edges), AV.bool (t.injective), AV.int (t.most), morphsA (t.found)] ∧ f_ 1 = intsA (o) ∧ f_ 5 = AV.int (((a : Nat) : Int)) ∧ f_ 6 = AV.ptr b6 0 ∧ f_ 7 = AV.bool (false) ∧ f_ 8 = AV.int (0)) (fun M hM => ?_) (fun fr9 τz6 hm => ?_)
  ·simp [go_sem, f0, f1, f5, f6, f7, gb6]
   refine (hM _ _).2 ⟨rfl, ?_, ?_, ?_, ?_, ?_, ?_⟩ <;> simp [go_sem, f0, f1, f5, f6, f7, gb6]
  clear f0 f1 f5 f6 f7
  obtain ⟨rfl, f0, f1, f5, f6, f7, f8⟩ := hm
  obtain ⟨oi1, hruni1, hoi1⟩ := obind hbi
  obtain ⟨hbigi1, hruni1⟩ := forR_run hruni1
  obtain ⟨KL, hKL⟩ : ∃ KL : Fr → Mem → Prop, ∀ fr' τ', KL fr' τ' ↔ (∃ t7 : Bool, oi1 = .done t7 ∧ fr' 0 = AV.iptr [nodesA (t.t.nodes), edgesA (t.t.edges), intsA (t.p.nodes), e3sA (t.p.edges), intsA (t.g.nodes), e3sA (t.g.edges), intsA (t.partialx.nodes), intsA (t.partialx.edges), AV.bool (t.injective), AV.int (t.most), morphsA (t.found)] ∧ fr' 1 = intsA (o) ∧ fr' 5 = AV.int (((a : Nat) : Int)) ∧ fr' 7 = AV.bool (t7) ∧ Kept σ0 τ' ∧ σ0.next ≤ τ'.next) := ⟨_, fun _ _ => Iff.rfl⟩
  refine SW.cut KL ?_ ?_
  ·refine SW.block ?_
   obtain ⟨J, hJ⟩ : ∃ J : Nat → Fr → Mem → Prop, ∀ m_ fr' τ', J m_ fr' τ' ↔ (∃ k : Nat, ∃ t7 : Bool, m_ = t.g.edges.length - k ∧ forN (b2_ref17_search_fits t o x) (t.g.edges.length - k) k t7 = some oi1 ∧ fr' 0 = AV.iptr [nodesA (t.t.nodes), edgesA (t.t.edges), intsA (t.p.nodes), e3sA (t.p.edges), intsA (t.g.nodes), e3sA (t.g.edges), intsA (t.partialx.nodes), intsA (t.partialx.edges), AV.bool (t.injective), AV.int (t.most), morphsA (t.found)] ∧ fr' 1 = intsA (o) ∧ fr' 5 = AV.int (((a : Nat) : Int)) ∧ fr' 6 = AV.ptr b6 0 ∧ fr' 7 = AV.bool (t7) ∧ fr' 8 = AV.int (((k : Nat) : Int)) ∧ Kept σ0 τ' ∧ σ0.next ≤ τ'.next ∧ τ'.get b6 = some [AV.int (x.kind), AV.int (x.src), AV.int (x.tgt)] ∧ b6 < τ'.next) := ⟨_, fun _ _ _ => Iff.rfl⟩
   refine SW.loop J (t.g.edges.length - 0) ((hJ _ _ _).2 ⟨0, false, rfl, hruni1, f0, f1, f5, f6, f7, f8, hK, hN, gb6, ub6⟩) ?_
   clear hruni1
   intro m_ fr10 τ2 hm
   rw [hJ] at hm
   clear f0 f1 f5 f6 f7 f8 hK hN gb6 ub6
   obtain ⟨k, t7, rfl, hruni1, f0, f1, f5, f6, f7, f8, hK, hN, gb6, ub6⟩ := hm
   refine SW.seq ?_
   refine SW.seq ?_
   refine SW.regX (fun f_ t_ => τ2 = t_ ∧ f_ 0 = AV.iptr [nodesA (t.t.nodes), edgesA (t.t.edges), intsA (t.p.nodes), e3sA (t.p.edges), intsA (t.g.nodes), e3sA (t.g.edges), intsA (t.partialx.nodes), intsA (t.partialx.edges), AV.bool (t.injective), AV.int (t.most), morphsA (t.found)] ∧ f_ 1 = intsA (o) ∧ f_ 5 = AV.int (((a : Nat) : Int)) ∧ f_ 6 = AV.ptr b6 0 ∧ f_ 7 = AV.bool (t7) ∧ f_ 8 = AV.int (((k : Nat) : Int)) ∧ f_ 47 = AV.bool ((decide (k < t.g.edges.length)))) (fun M hM => ?_) (fun fr11 τz7 hm => ?_)
   ·simp [go_sem, f0, f1, f5, f6, f7, f8, gb6]
    refine (hM _ _).2 ⟨rfl, ?_, ?_, ?_, ?_, ?_, ?_, ?_⟩ <;> simp [go_sem, f0, f1, f5, f6, f7, f8, gb6]
   clear f0 f1 f5 f6 f7 f8
   obtain ⟨rfl, f0, f1, f5, f6, f7, f8, f47⟩ := hm
   refine SW.cond _ f47 (fun hx2 => ?_) (fun hx2 => ?_)
   rotate_left
   ·have hk : ¬ k < t.g.edges.length := by have := of_decide_eq_false hx2; omega
    refine SW.exit rfl ?_
    exact SW.goal ((hKL _ _).2 ⟨t7, forN_end hruni1 hk, f0, f1, f5, f7, hK, hN⟩)
   have hkk : k < t.g.edges.length := by have := of_decide_eq_true hx2; omega
   have hwk : IntKind.i64.wrap ((k : Int) + 1) = ((k + 1 : Nat) : Int) := by rw [wrap64_of _ (by omega) (by omega)]; rfl
   obtain ⟨ci1, hbi1, hci1⟩ := forN_step hruni1 hkk
   simp only [b2_ref17_search_fits] at hbi1
   refine SW.skip ?_
   refine SW.seq ?_
   refine SW.block ?_
   refine SW.seq ?_
   obtain ⟨x1, hx1, hbi1⟩ := obind hbi1
   have xlx1 := getN_lt hx1
   have xdx1 := getN_flat e3C 3 (fun _ => rfl) hx1
   refine SW.regX (fun f_ t_ => ∃ b9 : Nat, f_ 0 = AV.iptr [nodesA (t.t.nodes), edgesA (t.t.edges), intsA (t.p.nodes), e3sA (t.p.edges), intsA (t.g.nodes), e3sA (t.g.edges), intsA (t.partialx.nodes), intsA (t.partialx.edges), AV.bool (t.injective), AV.int (t.most), morphsA (t.found)] ∧ f_ 1 = intsA (o) ∧ f_ 5 = AV.int (((a : Nat) : Int)) ∧ f_ 6 = AV.ptr b6 0 ∧ f_ 7 = AV.bool (t7) ∧ f_ 8 = AV.int (((k : Nat) : Int)) ∧ f_ 9 = AV.ptr b9 0 ∧ Kept σ0 t_ ∧ σ0.next ≤ t_.next ∧ t_.get b6 = some [AV.int (x.kind), AV.int (x.src), AV.int (x.tgt)] ∧ b6 < t_.next ∧ t_.get b9 = some [AV.int (x1.kind), AV.int (x1.src), AV.int (x1.tgt)] ∧ b9 < t_.next ∧ σ0.next ≤ b9 ∧ ¬ b6 = b9) (fun M hM => ?_) (fun fr12 τ3 hm => ?_)
   ·have nb6_0 : ¬ b6 = τ2.next := by omega
    simp [go_sem, f0, f1, f47, f5, f6, f7, f8, gb6, xlx1, xdx1, e3C, nb6_0]
    refine (hM _ _).2 ⟨τ2.next, ?_, ?_, ?_, ?_, ?_, ?_, ?_, by intro j hj; have hj_ := hK j hj; simp [go_sem, hj_.1, hj_.2, show ¬ j = τ2.next by omega], by first | omega | (simp [go_sem]; done) | (simp [go_sem]; omega), by simp (disch := omega) [get_alloc_ne, get_set_ne, get_kill_ne, go_sem, f0, f1, f47, f5, f6, f7, f8, gb6, xlx1, xdx1, e3C, nb6_0], by first | omega | (simp [go_sem]; done) | (simp [go_sem]; omega), by simp (disch := omega) [get_alloc_ne, get_set_ne, get_kill_ne, go_sem, f0, f1, f47, f5, f6, f7, f8, gb6, xlx1, xdx1, e3C, nb6_0], by first | omega | (simp [go_sem]; done) | (simp [go_sem]; omega), by omega, by omega⟩ <;> simp [go_sem, f0, f1, f47, f5, f6, f7, f8, gb6, xlx1, xdx1, e3C, nb6_0]
   clear f0 f1 f47 f5 f6 f7 f8 hK hN gb6 ub6
   obtain ⟨b9, f0, f1, f5, f6, f7, f8, f9, hK, hN, gb6, ub6, gb9, ub9, wb9, eb6b9⟩ := hm
   obtain ⟨c, hc, hbi1⟩ := obind hbi1
   refine SW.regX (fun f_ t_ => τ3 = t_ ∧ f_ 0 = AV.iptr [nodesA (t.t.nodes), edgesA (t.t.edges), intsA (t.p.nodes), e3sA (t.p.edges), intsA (t.g.nodes), e3sA (t.g.edges), intsA (t.partialx.nodes), intsA (t.partialx.edges), AV.bool (t.injective), AV.int (t.most), morphsA (t.found)] ∧ f_ 1 = intsA (o) ∧ f_ 5 = AV.int (((a : Nat) : Int)) ∧ f_ 6 = AV.ptr b6 0 ∧ f_ 7 = AV.bool (c) ∧ f_ 8 = AV.int (((k : Nat) : Int))) (fun M hM => ?_) (fun fr13 τz8 hm => ?_)
   ·refine EW_regionD (by kernel_rfl) (by kernel_rfl) ?_
    rcases Bool.eq_false_or_eq_true t7 with y0 | y0
    ·have y0' := y0
     try simp at y0'
     have ky0 := condT hc y0
     have ec := Option.some.inj ky0
     simp [go_sem, f0, f1, f5, f6, f7, f8, f9, gb6, gb9, y0, y0']
     refine (hM _ _).2 ⟨rfl, ?_, ?_, ?_, ?_, ?_, ?_⟩ <;> simp [go_sem, f0, f1, f5, f6, f7, f8, f9, gb6, gb9, y0, y0', ← ec]
    ·have y0' := y0
     try simp at y0'
     have ky0 := condF hc y0
     rcases Bool.eq_false_or_eq_true ((decide (x.kind = x1.kind))) with y2 | y2
     ·have y2' := y2
      try simp [y0'] at y2'
      have ky2 := condT ky0 y2
      obtain ⟨n, hn, ky2⟩ := obind ky2
      have xpn := getI_pos hn
      have xln := getI_lt hn
      have xin := getI_N hn
      have xdn := getN_map AV.int xin
      rcases Bool.eq_false_or_eq_true ((decide (x1.src = n))) with y4 | y4
      ·have y4' := y4
       try simp [y0', y2'] at y4'
       have ky4 := condT ky2 y4
       obtain ⟨n1, hn1, ky4⟩ := obind ky4
       have xpn1 := getI_pos hn1
       have xln1 := getI_lt hn1
       have xin1 := getI_N hn1
       have xdn1 := getN_map AV.int xin1
       have ec := Option.some.inj ky4
       simp [go_sem, f0, f1, f5, f6, f7, f8, f9, gb6, gb9, y0, y0', y2, y2', xpn, xln, xdn, y4, y4', xpn1, xln1, xdn1]
       refine (hM _ _).2 ⟨rfl, ?_, ?_, ?_, ?_, ?_, ?_⟩ <;> simp [go_sem, f0, f1, f5, f6, f7, f8, f9, gb6, gb9, y0, y0', y2, y2', xpn, xln, xdn, y4, y4', xpn1, xln1, xdn1, ← ec]
      ·have y4' := y4
       try simp [y0', y2'] at y4'
       have ky4 := condF ky2 y4
       have ec := Option.some.inj ky4
       simp [go_sem, f0, f1, f5, f6, f7, f8, f9, gb6, gb9, y0, y0', y2, y2', xpn, xln, xdn, y4, y4']
       refine (hM _ _).2 ⟨rfl, ?_, ?_, ?_, ?_, ?_, ?_⟩ <;> simp [go_sem, f0, f1, f5, f6, f7, f8, f9, gb6, gb9, y0, y0', y2, y2', xpn, xln, xdn, y4, y4', ← ec]
     ·have y2' := y2
      try simp [y0'] at y2'
      have ky2 := condF ky0 y2
      have ec := Option.some.inj ky2
      simp [go_sem, f0, f1, f5, f6, f7, f8, f9, gb6, gb9, y0, y0', y2, y2']
      refine (hM _ _).2 ⟨rfl, ?_, ?_, ?_, ?_, ?_, ?_⟩ <;> simp [go_sem, f0, f1, f5, f6, f7, f8, f9, gb6, gb9, y0, y0', y2, y2', ← ec]
   clear f0 f1 f5 f6 f7 f8 f9
   obtain ⟨rfl, f0, f1, f5, f6, f7, f8⟩ := hm
   refine SW.blk ?_
   refine SW.regX (fun f_ t_ => τ3 = t_ ∧ f_ 0 = AV.iptr [nodesA (t.t.nodes), edgesA (t.t.edges), intsA (t.p.nodes), e3sA (t.p.edges), intsA (t.g.nodes), e3sA (t.g.edges), intsA (t.partialx.nodes), intsA (t.partialx.edges), AV.bool (t.injective), AV.int (t.most), morphsA (t.found)] ∧ f_ 1 = intsA (o) ∧ f_ 5 = AV.int (((a : Nat) : Int)) ∧ f_ 6 = AV.ptr b6 0 ∧ f_ 7 = AV.bool (c) ∧ f_ 8 = AV.int (((k + 1 : Nat) : Int))) (fun M hM => ?_) (fun fr14 τz9 hm => ?_)
   ·simp [go_sem, f0, f1, f5, f6, f7, f8, gb6, hwk]
    refine (hM _ _).2 ⟨rfl, ?_, ?_, ?_, ?_, ?_, ?_⟩ <;> simp [go_sem, f0, f1, f5, f6, f7, f8, gb6, hwk]
   clear f0 f1 f5 f6 f7 f8
   obtain ⟨rfl, f0, f1, f5, f6, f7, f8⟩ := hm
   obtain rfl := Option.some.inj hbi1
   exact SW.goal ⟨t.g.edges.length - (k + 1), by omega, (hJ _ _ _).2 ⟨k + 1, c, rfl, hci1, f0, f1, f5, f6, f7, f8, hK, hN, gb6, ub6⟩⟩
  intro fr15 τ4 hm
  rw [hKL] at hm
  clear hKL hruni1
  clear f0 f1 f5 f6 f7 f8 hK hN gb6 ub6
  obtain ⟨t7, rfl, f0, f1, f5, f7, hK, hN⟩ := hm
  simp only [Out.on] at hoi1
  refine SW.seq ?_
  refine SW.regX (fun f_ t_ => τ4 = t_ ∧ f_ 0 = AV.iptr [nodesA (t.t.nodes), edgesA (t.t.edges), intsA (t.p.nodes), e3sA (t.p.edges), intsA (t.g.nodes), e3sA (t.g.edges), intsA (t.partialx.nodes), intsA (t.partialx.edges), AV.bool (t.injective), AV.int (t.most), morphsA (t.found)] ∧ f_ 1 = intsA (o) ∧ f_ 5 = AV.int (((a : Nat) : Int)) ∧ f_ 87 = AV.bool ((!t7))) (fun M hM => ?_) (fun fr16 τz10 hm => ?_)
  ·simp [go_sem, f0, f1, f5, f7]
   refine (hM _ _).2 ⟨rfl, ?_, ?_, ?_, ?_⟩ <;> simp [go_sem, f0, f1, f5, f7]
  clear f0 f1 f5 f7
  obtain ⟨rfl, f0, f1, f5, f87⟩ := hm
  refine SW.cond _ f87 (fun hx3 => ?_) (fun hx3 => ?_)
  ·have hoi1 := condT hoi1 hx3
   refine SW.seq ?_
   refine SW.regX (fun f_ t_ => τ4 = t_ ∧ f_ 4 = AV.bool (false)) (fun M hM => ?_) (fun fr17 τz11 hm => ?_)
   ·simp [go_sem, f0, f1, f5, f87]
    refine (hM _ _).2 ⟨rfl, ?_⟩ <;> simp [go_sem, f0, f1, f5, f87]
   clear f0 f1 f5 f87
   obtain ⟨rfl, f4⟩ := hm
   obtain rfl := Option.some.inj hoi1
   obtain rfl := Option.some.inj hci
   obtain rfl := Option.some.inj hoi
   exact SW.ret ⟨AV.bool (false), by simp [go_sem, f4], .lit _, hK.keeps⟩
  have hoi1 := condF hoi1 hx3
  refine SW.skip ?_
  refine SW.blk ?_
  refine SW.regX (fun f_ t_ => τ4 = t_ ∧ f_ 0 = AV.iptr [nodesA (t.t.nodes), edgesA (t.t.edges), intsA (t.p.nodes), e3sA (t.p.edges), intsA (t.g.nodes), e3sA (t.g.edges), intsA (t.partialx.nodes), intsA (t.partialx.edges), AV.bool (t.injective), AV.int (t.most), morphsA (t.found)] ∧ f_ 1 = intsA (o) ∧ f_ 5 = AV.int (((a + 1 : Nat) : Int))) (fun M hM => ?_) (fun fr18 τz12 hm => ?_)
  ·simp [go_sem, f0, f1, f5, f87, hwa]
   refine (hM _ _).2 ⟨rfl, ?_, ?_, ?_⟩ <;> simp [go_sem, f0, f1, f5, f87, hwa]
  clear f0 f1 f5 f87
  obtain ⟨rfl, f0, f1, f5⟩ := hm
  obtain rfl := Option.some.inj hoi1
  exact SW.goal ⟨t.p.edges.length - (a + 1), by omega, (hJ _ _ _).2 ⟨a + 1, rfl, hci, f0, f1, f5, hK, hN⟩⟩
 intro fr19 τ5 hm
 rw [hKL] at hm
 clear hKL hruni
 clear f0 f1 f5
 obtain ⟨rfl, hK, hN⟩ := hm
 simp only [Out.on] at hoi
 refine SW.seq ?_
 refine SW.regX (fun f_ t_ => τ5 = t_ ∧ f_ 4 = AV.bool (true)) (fun M hM => ?_) (fun fr20 τz13 hm => ?_)
 ·simp [go_sem]
  refine (hM _ _).2 ⟨rfl, ?_⟩ <;> simp [go_sem]
 obtain ⟨rfl, f4⟩ := hm
 obtain rfl := Option.some.inj hoi
 exact SW.ret ⟨AV.bool (true), by simp [go_sem, f4], .lit _, hK.keeps⟩
set_option maxHeartbeats 4000000 in
theorem w_ref17_search_used (F : Nat) (s : Gscarfjointref17_search) (l : List Int) (n : Int) (r : (Bool)) (h : s_ref17_search_used F s l n = some r) : PureA Tryz.prog 93 [AV.iptr [nodesA (s.t.nodes), edgesA (s.t.edges), intsA (s.p.nodes), e3sA (s.p.edges), intsA (s.g.nodes), e3sA (s.g.edges), intsA (s.partialx.nodes), intsA (s.partialx.edges), AV.bool (s.injective), AV.int (s.most), morphsA (s.found)], intsA (l), AV.int (n)] (AV.bool (r)) := by
 refine pureA_of_SW (N := 26) Tryz.func93 (by kernel_rfl) rfl (by rw [Tryz.ntmps93]; rfl) (fun σ0 => ?_)
 rw [Tryz.results93]
 obtain ⟨fr0, hfr⟩ : ∃ fr, fr = initFr [AV.iptr [nodesA (s.t.nodes), edgesA (s.t.edges), intsA (s.p.nodes), e3sA (s.p.edges), intsA (s.g.nodes), e3sA (s.g.edges), intsA (s.partialx.nodes), intsA (s.partialx.edges), AV.bool (s.injective), AV.int (s.most), morphsA (s.found)], intsA (l), AV.int (n)] := ⟨_, rfl⟩
 rw [← hfr]
 have f0 : fr0 0 = AV.iptr [nodesA (s.t.nodes), edgesA (s.t.edges), intsA (s.p.nodes), e3sA (s.p.edges), intsA (s.g.nodes), e3sA (s.g.edges), intsA (s.partialx.nodes), intsA (s.partialx.edges), AV.bool (s.injective), AV.int (s.most), morphsA (s.found)] := by rw [hfr]; rfl
 have f1 : fr0 1 = intsA (l) := by rw [hfr]; rfl
 have f2 : fr0 2 = AV.int (n) := by rw [hfr]; rfl
 clear hfr
 simp only [s_ref17_search_used] at h
 refine SW.seq ?_
 refine SW.regX (fun f_ t_ => σ0 = t_ ∧ f_ 0 = AV.iptr [nodesA (s.t.nodes), edgesA (s.t.edges), intsA (s.p.nodes), e3sA (s.p.edges), intsA (s.g.nodes), e3sA (s.g.edges), intsA (s.partialx.nodes), intsA (s.partialx.edges), AV.bool (s.injective), AV.int (s.most), morphsA (s.found)] ∧ f_ 1 = intsA (l) ∧ f_ 2 = AV.int (n)) (fun M hM => ?_) (fun fr1 τz hm => ?_)
 ·simp [go_sem, f0, f1, f2]
  refine (hM _ _).2 ⟨rfl, ?_, ?_, ?_⟩ <;> simp [go_sem, f0, f1, f2]
 clear f0 f1 f2
 obtain ⟨rfl, f0, f1, f2⟩ := hm
 refine SW.seq ?_
 refine SW.seq ?_
 refine SW.regX (fun f_ t_ => σ0 = t_ ∧ f_ 0 = AV.iptr [nodesA (s.t.nodes), edgesA (s.t.edges), intsA (s.p.nodes), e3sA (s.p.edges), intsA (s.g.nodes), e3sA (s.g.edges), intsA (s.partialx.nodes), intsA (s.partialx.edges), AV.bool (s.injective), AV.int (s.most), morphsA (s.found)] ∧ f_ 1 = intsA (l) ∧ f_ 2 = AV.int (n) ∧ f_ 7 = AV.int (0)) (fun M hM => ?_) (fun fr2 τz1 hm => ?_)
 ·simp [go_sem, f0, f1, f2]
  refine (hM _ _).2 ⟨rfl, ?_, ?_, ?_, ?_⟩ <;> simp [go_sem, f0, f1, f2]
 clear f0 f1 f2
 obtain ⟨rfl, f0, f1, f2, f7⟩ := hm
 obtain ⟨oi1, hruni1, hoi1⟩ := obind h
 obtain ⟨KL, hKL⟩ : ∃ KL : Fr → Mem → Prop, ∀ fr' τ', KL fr' τ' ↔ (∃ i : Int, oi1 = .done i ∧ σ0 = τ') := ⟨_, fun _ _ => Iff.rfl⟩
 refine SW.cut KL ?_ ?_
 ·refine SW.block ?_
  obtain ⟨J, hJ⟩ : ∃ J : Nat → Fr → Mem → Prop, ∀ m_ fr' τ', J m_ fr' τ' ↔ (∃ i : Int, whileG (b1_ref17_search_used s l n) m_ i = some oi1 ∧ σ0 = τ' ∧ fr' 0 = AV.iptr [nodesA (s.t.nodes), edgesA (s.t.edges), intsA (s.p.nodes), e3sA (s.p.edges), intsA (s.g.nodes), e3sA (s.g.edges), intsA (s.partialx.nodes), intsA (s.partialx.edges), AV.bool (s.injective), AV.int (s.most), morphsA (s.found)] ∧ fr' 1 = intsA (l) ∧ fr' 2 = AV.int (n) ∧ fr' 7 = AV.int (i)) := ⟨_, fun _ _ _ => Iff.rfl⟩
  refine SW.loop J F ((hJ _ _ _).2 ⟨0, hruni1, rfl, f0, f1, f2, f7⟩) ?_
  clear hruni1
  intro m_ fr3 τ hm
  rw [hJ] at hm
  clear f0 f1 f2 f7
  obtain ⟨i, hruni1, rfl, f0, f1, f2, f7⟩ := hm
  obtain ⟨F', ci1, rfl, hbi1, hci1⟩ := whileG_step hruni1
  simp only [b1_ref17_search_used] at hbi1
  refine SW.seq ?_
  refine SW.seq ?_
  refine SW.regX (fun f_ t_ => σ0 = t_ ∧ f_ 0 = AV.iptr [nodesA (s.t.nodes), edgesA (s.t.edges), intsA (s.p.nodes), e3sA (s.p.edges), intsA (s.g.nodes), e3sA (s.g.edges), intsA (s.partialx.nodes), intsA (s.partialx.edges), AV.bool (s.injective), AV.int (s.most), morphsA (s.found)] ∧ f_ 1 = intsA (l) ∧ f_ 2 = AV.int (n) ∧ f_ 7 = AV.int (i) ∧ f_ 17 = AV.bool ((((decide (i < ((l.length : Nat) : Int)))) && s.injective))) (fun M hM => ?_) (fun fr4 τz2 hm => ?_)
  ·rcases Bool.eq_false_or_eq_true ((decide (i < ((l.length : Nat) : Int)))) with y0 | y0
   ·have y0' := y0
    try simp at y0'
    simp [go_sem, f0, f1, f2, f7, y0, y0']
    refine (hM _ _).2 ⟨rfl, ?_, ?_, ?_, ?_, ?_⟩ <;> simp [go_sem, f0, f1, f2, f7, y0, y0']
   ·have y0' := y0
    try simp at y0'
    simp [go_sem, f0, f1, f2, f7, y0, y0']
    refine (hM _ _).2 ⟨rfl, ?_, ?_, ?_, ?_, ?_⟩ <;> simp [go_sem, f0, f1, f2, f7, y0, y0']
  clear f0 f1 f2 f7
  obtain ⟨rfl, f0, f1, f2, f7, f17⟩ := hm
  refine SW.cond _ f17 (fun hx => ?_) (fun hx => ?_)
  ·have hbi1 := condT hbi1 hx
   refine SW.skip ?_
   refine SW.seq ?_
   refine SW.block ?_
   refine SW.seq ?_
   obtain ⟨n1, hn1, hbi1⟩ := obind hbi1
   have xpn1 := getI_pos hn1
   have xln1 := getI_lt hn1
   have xin1 := getI_N hn1
   have xdn1 := getN_map AV.int xin1
   refine SW.regX (fun f_ t_ => σ0 = t_ ∧ f_ 0 = AV.iptr [nodesA (s.t.nodes), edgesA (s.t.edges), intsA (s.p.nodes), e3sA (s.p.edges), intsA (s.g.nodes), e3sA (s.g.edges), intsA (s.partialx.nodes), intsA (s.partialx.edges), AV.bool (s.injective), AV.int (s.most), morphsA (s.found)] ∧ f_ 1 = intsA (l) ∧ f_ 2 = AV.int (n) ∧ f_ 7 = AV.int (i) ∧ f_ 25 = AV.bool ((decide (n1 = n)))) (fun M hM => ?_) (fun fr5 τz3 hm => ?_)
   ·simp [go_sem, f0, f1, f17, f2, f7, xpn1, xln1, xdn1]
    refine (hM _ _).2 ⟨rfl, ?_, ?_, ?_, ?_, ?_⟩ <;> simp [go_sem, f0, f1, f17, f2, f7, xpn1, xln1, xdn1]
   clear f0 f1 f17 f2 f7
   obtain ⟨rfl, f0, f1, f2, f7, f25⟩ := hm
   refine SW.cond _ f25 (fun hx1 => ?_) (fun hx1 => ?_)
   ·have hbi1 := condT hbi1 hx1
    refine SW.seq ?_
    refine SW.regX (fun f_ t_ => σ0 = t_ ∧ f_ 6 = AV.bool (true)) (fun M hM => ?_) (fun fr6 τz4 hm => ?_)
    ·simp [go_sem, f0, f1, f2, f25, f7]
     refine (hM _ _).2 ⟨rfl, ?_⟩ <;> simp [go_sem, f0, f1, f2, f25, f7]
    clear f0 f1 f2 f25 f7
    obtain ⟨rfl, f6⟩ := hm
    obtain rfl := Option.some.inj hbi1
    obtain rfl := Option.some.inj hci1
    obtain rfl := Option.some.inj hoi1
    exact SW.ret ⟨AV.bool (true), by simp [go_sem, f6], .lit _, Keeps.refl _⟩
   have hbi1 := condF hbi1 hx1
   refine SW.skip ?_
   refine SW.blk ?_
   refine SW.regX (fun f_ t_ => σ0 = t_ ∧ f_ 0 = AV.iptr [nodesA (s.t.nodes), edgesA (s.t.edges), intsA (s.p.nodes), e3sA (s.p.edges), intsA (s.g.nodes), e3sA (s.g.edges), intsA (s.partialx.nodes), intsA (s.partialx.edges), AV.bool (s.injective), AV.int (s.most), morphsA (s.found)] ∧ f_ 1 = intsA (l) ∧ f_ 2 = AV.int (n) ∧ f_ 7 = AV.int ((IntKind.i64.wrap (i + 1)))) (fun M hM => ?_) (fun fr7 τz5 hm => ?_)
   ·simp [go_sem, f0, f1, f2, f25, f7]
    refine (hM _ _).2 ⟨rfl, ?_, ?_, ?_, ?_⟩ <;> simp [go_sem, f0, f1, f2, f25, f7]
   clear f0 f1 f2 f25 f7
   obtain ⟨rfl, f0, f1, f2, f7⟩ := hm
   obtain rfl := Option.some.inj hbi1
   exact SW.goal ⟨_, Nat.lt_succ_self _, (hJ _ _ _).2 ⟨(IntKind.i64.wrap (i + 1)), hci1, rfl, f0, f1, f2, f7⟩⟩
  have hbi1 := condF hbi1 hx
  refine SW.exit rfl ?_
  obtain rfl := Option.some.inj hbi1
  exact SW.goal ((hKL _ _).2 ⟨i, (Option.some.inj hci1).symm, rfl⟩)
 intro fr8 τ1 hm
 rw [hKL] at hm
 clear hKL hruni1
 clear f0 f1 f2 f7
 obtain ⟨i, rfl, rfl⟩ := hm
 simp only [Out.on] at hoi1
 refine SW.seq ?_
 refine SW.regX (fun f_ t_ => σ0 = t_ ∧ f_ 6 = AV.bool (false)) (fun M hM => ?_) (fun fr9 τz6 hm => ?_)
 ·simp [go_sem]
  refine (hM _ _).2 ⟨rfl, ?_⟩ <;> simp [go_sem]
 obtain ⟨rfl, f6⟩ := hm
 obtain rfl := Option.some.inj hoi1
 exact SW.ret ⟨AV.bool (false), by simp [go_sem, f6], .lit _, Keeps.refl _⟩
end Go.Proofs.YtdacgjleiloooaaGreat
