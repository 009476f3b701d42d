/-
  Plain functions and the walks that lead to them, by a program of ours (gen.py): scarfjoint/scarfjointref17.Made.
-/
import Derived.Test.YtdacgjleiloooaaGreatGd
import Derived.Test.YtdacgjleiloooaaGreatGT
import Derived.Test.YtdacgjleiloooaaGreatB3
import Derived.Test.YtdacgjleiloooaaGreatGS
import Derived.Test.YtdacgjleiloooaaGreatGa23
set_option linter.unusedSimpArgs false
set_option linter.unusedVariables false
namespace Go.Proofs.YtdacgjleiloooaaGreat
open Go Go.Ew Go.Proofs Go.RowKit
set_option maxRecDepth 100000
def O_ref17_Made (r : (Graph)) (n : Nat) (x : AV) (τ : Mem) : Prop := ∃ v0_ v1_ : AV, x = AV.agg [v0_, v1_] ∧ ArrAt n τ v0_ 3 (r.nodes.map AV.int) r.nodes.length 1 ∧ ArrAt n τ v1_ 77 (r.edges.flatMap e3C) r.edges.length 3 ∧ Apart v0_ v1_
set_option maxHeartbeats 4000000 in
theorem o_ref17_Made (F : Nat) (t : Types) (o : Gscarfjointref05_Draft) (A : Bool) (r : (Graph)) (h : s_ref17_Made F t o A = some r) (σ0 : Mem) : CallA Tryz.prog 52 [AV.agg [nodesA (t.nodes), edgesA (t.edges)], AV.agg [sl_Int_u8 (o.nodes), sl_Ar3_Int (o.edges)], AV.bool (A)] σ0 (fun x τ => O_ref17_Made r σ0.next x τ ∧ Kept σ0 τ ∧ σ0.next ≤ τ.next) := by
 refine callA_of_SW (N := 157) Tryz.func52 (by kernel_rfl) rfl (by rw [Tryz.ntmps52]; rfl) ?_
 rw [Tryz.results52]
 obtain ⟨fr0, hfr⟩ : ∃ fr, fr = initFr [AV.agg [nodesA (t.nodes), edgesA (t.edges)], AV.agg [sl_Int_u8 (o.nodes), sl_Ar3_Int (o.edges)], AV.bool (A)] := ⟨_, rfl⟩
 rw [← hfr]
 have f0 : fr0 0 = AV.agg [nodesA (t.nodes), edgesA (t.edges)] := by rw [hfr]; rfl
 have f1 : fr0 1 = AV.agg [sl_Int_u8 (o.nodes), sl_Ar3_Int (o.edges)] := by rw [hfr]; rfl
 have f2 : fr0 2 = AV.bool (A) := by rw [hfr]; rfl
 clear hfr
 simp only [s_ref17_Made] at h
 refine SW.seq ?_
 refine SW.regX (fun f_ t_ => ∃ b3 : Nat, ∃ b4 : Nat, ∃ b6 : Nat, f_ 2 = AV.bool (A) ∧ f_ 3 = AV.ptr b3 0 ∧ f_ 4 = AV.ptr b4 0 ∧ f_ 6 = AV.ptr b6 0 ∧ Kept σ0 t_ ∧ σ0.next ≤ t_.next ∧ t_.get b3 = some [nodesA (t.nodes), edgesA (t.edges)] ∧ b3 < t_.next ∧ t_.get b4 = some [sl_Int_u8 (o.nodes), sl_Ar3_Int (o.edges)] ∧ b4 < t_.next ∧ t_.get b6 = some [AV.nils, AV.nils] ∧ b6 < t_.next ∧ σ0.next ≤ b3 ∧ σ0.next ≤ b4 ∧ ¬ b3 = b4 ∧ σ0.next ≤ b6 ∧ ¬ b3 = b6 ∧ ¬ b4 = b6) (fun M hM => ?_) (fun fr1 τ hm => ?_)
 ·simp [go_sem, f0, f1, f2]
  refine (hM _ _).2 ⟨σ0.next, (σ0.next + 1), (σ0.next + 2), ?_, ?_, ?_, ?_, by intro j hj; simp [go_sem, show ¬ j = σ0.next by omega, show ¬ j = σ0.next + 1 by omega, show ¬ j = σ0.next + 2 by omega], by first | omega | (simp [go_sem]; done) | (simp [go_sem]; omega), by simp (disch := omega) [get_alloc_ne, get_set_ne, get_kill_ne, go_sem, f0, f1, f2], by first | omega | (simp [go_sem]; done) | (simp [go_sem]; omega), by simp (disch := omega) [get_alloc_ne, get_set_ne, get_kill_ne, go_sem, f0, f1, f2], by first | omega | (simp [go_sem]; done) | (simp [go_sem]; omega), by simp (disch := omega) [get_alloc_ne, get_set_ne, get_kill_ne, go_sem, f0, f1, f2], by first | omega | (simp [go_sem]; done) | (simp [go_sem]; omega), by omega, by omega, by omega, by omega, by omega, by omega⟩ <;> simp [go_sem, f0, f1, f2]
 clear f0 f1 f2
 obtain ⟨b3, b4, b6, f2, f3, f4, f6, hK, hN, gb3, ub3, gb4, ub4, gb6, ub6, wb3, wb4, eb3b4, wb6, eb3b6, eb4b6⟩ := hm
 refine SW.seq ?_
 refine SW.regX (fun f_ t_ => τ = t_ ∧ f_ 2 = AV.bool (A) ∧ f_ 3 = AV.ptr b3 0 ∧ f_ 4 = AV.ptr b4 0 ∧ f_ 6 = AV.ptr b6 0 ∧ f_ 7 = AV.nils) (fun M hM => ?_) (fun fr2 τz hm => ?_)
 ·simp [go_sem, f2, f3, f4, f6, gb3, gb4, gb6]
  refine (hM _ _).2 ⟨rfl, ?_, ?_, ?_, ?_, ?_⟩ <;> simp [go_sem, f2, f3, f4, f6, gb3, gb4, gb6]
 clear f2 f3 f4 f6
 obtain ⟨rfl, f2, f3, f4, f6, f7⟩ := hm
 refine SW.seq ?_
 refine SW.seq ?_
 refine SW.regX (fun f_ t_ => τ = t_ ∧ f_ 2 = AV.bool (A) ∧ f_ 3 = AV.ptr b3 0 ∧ f_ 4 = AV.ptr b4 0 ∧ f_ 6 = AV.ptr b6 0 ∧ f_ 7 = AV.nils ∧ f_ 8 = AV.int (0)) (fun M hM => ?_) (fun fr3 τz1 hm => ?_)
 ·simp [go_sem, f2, f3, f4, f6, f7, gb3, gb4, gb6]
  refine (hM _ _).2 ⟨rfl, ?_, ?_, ?_, ?_, ?_, ?_⟩ <;> simp [go_sem, f2, f3, f4, f6, f7, gb3, gb4, gb6]
 clear f2 f3 f4 f6 f7
 obtain ⟨rfl, f2, f3, f4, f6, f7, f8⟩ := hm
 obtain ⟨oi, hruni, hoi⟩ := obind h
 refine SW.lenB b3 0 gb3 rfl (fun hbigi => ?_)
 obtain ⟨KL, hKL⟩ : ∃ KL : Fr → Mem → Prop, ∀ fr' τ', KL fr' τ' ↔ (∃ t7 : List Int, ∃ v : AV, oi = .done t7 ∧ fr' 3 = AV.ptr b3 0 ∧ fr' 4 = AV.ptr b4 0 ∧ fr' 6 = AV.ptr b6 0 ∧ fr' 7 = v ∧ Kept σ0 τ' ∧ σ0.next ≤ τ'.next ∧ τ'.get b3 = some [nodesA (t.nodes), edgesA (t.edges)] ∧ b3 < τ'.next ∧ τ'.get b4 = some [sl_Int_u8 (o.nodes), sl_Ar3_Int (o.edges)] ∧ b4 < τ'.next ∧ τ'.get b6 = some [AV.nils, AV.nils] ∧ b6 < τ'.next ∧ ArrAt σ0.next τ' v 3 (t7.map AV.int) t7.length 1 ∧ (∀ i, idOf v = some i → ¬ i = b3) ∧ (∀ i, idOf v = some i → ¬ i = b4) ∧ (∀ i, idOf v = some i → ¬ i = b6)) := ⟨_, fun _ _ => Iff.rfl⟩
 refine SW.cut KL ?_ ?_
 ·refine SW.block ?_
  obtain ⟨J, hJ⟩ : ∃ J : Nat → Fr → Mem → Prop, ∀ m_ fr' τ', J m_ fr' τ' ↔ (∃ k : Nat, ∃ t7 : List Int, ∃ v : AV, m_ = t.nodes.length - k ∧ forN (b1_ref17_Made t A) (t.nodes.length - k) k t7 = some oi ∧ fr' 2 = AV.bool (A) ∧ fr' 3 = AV.ptr b3 0 ∧ fr' 4 = AV.ptr b4 0 ∧ fr' 6 = AV.ptr b6 0 ∧ fr' 7 = v ∧ fr' 8 = AV.int (((k : Nat) : Int)) ∧ Kept σ0 τ' ∧ σ0.next ≤ τ'.next ∧ τ'.get b3 = some [nodesA (t.nodes), edgesA (t.edges)] ∧ b3 < τ'.next ∧ τ'.get b4 = some [sl_Int_u8 (o.nodes), sl_Ar3_Int (o.edges)] ∧ b4 < τ'.next ∧ τ'.get b6 = some [AV.nils, AV.nils] ∧ b6 < τ'.next ∧ ArrAt σ0.next τ' v 3 (t7.map AV.int) t7.length 1 ∧ (∀ i, idOf v = some i → ¬ i = b3) ∧ (∀ i, idOf v = some i → ¬ i = b4) ∧ (∀ i, idOf v = some i → ¬ i = b6)) := ⟨_, fun _ _ _ => Iff.rfl⟩
  refine SW.loop J (t.nodes.length - 0) ((hJ _ _ _).2 ⟨0, ([] : List Int), AV.nils, rfl, hruni, f2, f3, f4, f6, f7, f8, hK, hN, gb3, ub3, gb4, ub4, gb6, ub6, .inl ⟨rfl, rfl, rfl⟩, (fun i h => by cases h), (fun i h => by cases h), (fun i h => by cases h)⟩) ?_
  clear hruni
  intro m_ fr4 τ1 hm
  rw [hJ] at hm
  clear f2 f3 f4 f6 f7 f8 hK hN gb3 ub3 gb4 ub4 gb6 ub6
  obtain ⟨k, t7, v, rfl, hruni, f2, f3, f4, f6, f7, f8, hK, hN, gb3, ub3, gb4, ub4, gb6, ub6, av, evb3, evb4, evb6⟩ := hm
  refine SW.seq ?_
  refine SW.seq ?_
  refine SW.regX (fun f_ t_ => τ1 = t_ ∧ f_ 2 = AV.bool (A) ∧ f_ 3 = AV.ptr b3 0 ∧ f_ 4 = AV.ptr b4 0 ∧ f_ 6 = AV.ptr b6 0 ∧ f_ 7 = v ∧ f_ 8 = AV.int (((k : Nat) : Int)) ∧ f_ 19 = AV.bool ((decide (k < t.nodes.length)))) (fun M hM => ?_) (fun fr5 τz2 hm => ?_)
  ·simp [go_sem, f2, f3, f4, f6, f7, f8, gb3, gb4, gb6]
   refine (hM _ _).2 ⟨rfl, ?_, ?_, ?_, ?_, ?_, ?_, ?_⟩ <;> simp [go_sem, f2, f3, f4, f6, f7, f8, gb3, gb4, gb6]
  clear f2 f3 f4 f6 f7 f8
  obtain ⟨rfl, f2, f3, f4, f6, f7, f8, f19⟩ := hm
  refine SW.cond _ f19 (fun hx => ?_) (fun hx => ?_)
  rotate_left
  ·have hk : ¬ k < t.nodes.length := by have := of_decide_eq_false hx; omega
   refine SW.exit rfl ?_
   exact SW.goal ((hKL _ _).2 ⟨t7, v, forN_end hruni hk, f3, f4, f6, f7, hK, hN, gb3, ub3, gb4, ub4, gb6, ub6, av, evb3, evb4, evb6⟩)
  have hkk : k < t.nodes.length := by have := of_decide_eq_true hx; omega
  have hwk : IntKind.i64.wrap ((k : Int) + 1) = ((k + 1 : Nat) : Int) := by rw [wrap64_of _ (by omega) (by omega)]; rfl
  obtain ⟨ci, hbi, hci⟩ := forN_step hruni hkk
  simp only [b1_ref17_Made] at hbi
  refine SW.skip ?_
  refine SW.seq ?_
  refine SW.block ?_
  refine SW.seq ?_
  obtain ⟨c, hc, hbi⟩ := obind hbi
  refine SW.regX (fun f_ t_ => τ1 = t_ ∧ f_ 2 = AV.bool (A) ∧ f_ 3 = AV.ptr b3 0 ∧ f_ 4 = AV.ptr b4 0 ∧ f_ 6 = AV.ptr b6 0 ∧ f_ 7 = v ∧ f_ 8 = AV.int (((k : Nat) : Int)) ∧ f_ 31 = AV.bool (c)) (fun M hM => ?_) (fun fr6 τz3 hm => ?_)
  ·rcases Bool.eq_false_or_eq_true A with y0 | y0
   ·have y0' := y0
    try simp at y0'
    have ky0 := condT hc y0
    have ec := Option.some.inj ky0
    simp [go_sem, f19, f2, f3, f4, f6, f7, f8, gb3, gb4, gb6, y0, y0']
    refine (hM _ _).2 ⟨rfl, ?_, ?_, ?_, ?_, ?_, ?_, ?_⟩ <;> simp [go_sem, f19, f2, f3, f4, f6, f7, f8, gb3, gb4, gb6, y0, y0', ← ec]
   ·have y0' := y0
    try simp at y0'
    have ky0 := condF hc y0
    obtain ⟨x, hx, ky0⟩ := obind ky0
    have xlx := getN_lt hx
    have xdx := getN_flat nodeC 4 (fun _ => rfl) hx
    have ec := Option.some.inj ky0
    simp [go_sem, f19, f2, f3, f4, f6, f7, f8, gb3, gb4, gb6, y0, y0', xlx, xdx, nodeC]
    refine (hM _ _).2 ⟨rfl, ?_, ?_, ?_, ?_, ?_, ?_, ?_⟩ <;> simp [go_sem, f19, f2, f3, f4, f6, f7, f8, gb3, gb4, gb6, y0, y0', xlx, xdx, nodeC, ← ec]
  clear f19 f2 f3 f4 f6 f7 f8
  obtain ⟨rfl, f2, f3, f4, f6, f7, f8, f31⟩ := hm
  refine SW.cond _ f31 (fun hx1 => ?_) (fun hx1 => ?_)
  ·have hbi := condT hbi hx1
   obtain ⟨a, ha, hbi⟩ := obind hbi
   obtain ⟨la, ea⟩ := catL_spec ha
   refine SW.regX (fun f_ t_ => ∃ v1 : AV, f_ 2 = AV.bool (A) ∧ f_ 3 = AV.ptr b3 0 ∧ f_ 4 = AV.ptr b4 0 ∧ f_ 6 = AV.ptr b6 0 ∧ f_ 7 = v1 ∧ f_ 8 = AV.int (((k : Nat) : Int)) ∧ Kept σ0 t_ ∧ σ0.next ≤ t_.next ∧ t_.get b3 = some [nodesA (t.nodes), edgesA (t.edges)] ∧ b3 < t_.next ∧ t_.get b4 = some [sl_Int_u8 (o.nodes), sl_Ar3_Int (o.edges)] ∧ b4 < t_.next ∧ t_.get b6 = some [AV.nils, AV.nils] ∧ b6 < t_.next ∧ ArrAt σ0.next t_ v1 3 (a.map AV.int) a.length 1 ∧ (∀ i, idOf v1 = some i → ¬ i = b3) ∧ (∀ i, idOf v1 = some i → ¬ i = b4) ∧ (∀ i, idOf v1 = some i → ¬ i = b6)) (fun M hM => ?_) (fun fr7 τ2 hm => ?_)
   ·have nb3_0 : ¬ b3 = τ1.next := by omega
    have nb3_1 : ¬ b3 = τ1.next + 1 := by omega
    have nb4_0 : ¬ b4 = τ1.next := by omega
    have nb4_1 : ¬ b4 = τ1.next + 1 := by omega
    have nb6_0 : ¬ b6 = τ1.next := by omega
    have nb6_1 : ¬ b6 = τ1.next + 1 := by omega
    have zv := av
    rcases zv with ⟨rfl, nv, mv⟩ | ⟨ov, rfl, gov, tov, lov, hiv⟩
    ·simp [go_sem, f2, f3, f31, f4, f6, f7, f8, gb3, gb4, gb6, nb3_0, nb3_1, nb4_0, nb4_1, nb6_0, nb6_1, nv, mv]
     refine (hM _ _).2 ⟨AV.arr (τ1.next + 1) 0 a.length 1, ?_, ?_, ?_, ?_, ?_, ?_, by intro j hj; have hj_ := hK j hj; simp [go_sem, hj_.1, hj_.2, show ¬ j = τ1.next by omega, show ¬ j = τ1.next + 1 by omega], by first | omega | (simp [go_sem]; done) | (simp [go_sem]; omega), by simp (disch := omega) [get_alloc_ne, get_set_ne, get_kill_ne, go_sem, f2, f3, f31, f4, f6, f7, f8, gb3, gb4, gb6, nb3_0, nb3_1, nb4_0, nb4_1, nb6_0, nb6_1, nv, mv, ea], by first | omega | (simp [go_sem]; done) | (simp [go_sem]; omega), by simp (disch := omega) [get_alloc_ne, get_set_ne, get_kill_ne, go_sem, f2, f3, f31, f4, f6, f7, f8, gb3, gb4, gb6, nb3_0, nb3_1, nb4_0, nb4_1, nb6_0, nb6_1, nv, mv, ea], by first | omega | (simp [go_sem]; done) | (simp [go_sem]; omega), by simp (disch := omega) [get_alloc_ne, get_set_ne, get_kill_ne, go_sem, f2, f3, f31, f4, f6, f7, f8, gb3, gb4, gb6, nb3_0, nb3_1, nb4_0, nb4_1, nb6_0, nb6_1, nv, mv, ea], by first | omega | (simp [go_sem]; done) | (simp [go_sem]; omega), .inr ⟨(τ1.next + 1), rfl, by simp (disch := omega) [get_alloc_ne, get_set_ne, get_kill_ne, go_sem, f2, f3, f31, f4, f6, f7, f8, gb3, gb4, gb6, nb3_0, nb3_1, nb4_0, nb4_1, nb6_0, nb6_1, nv, mv, ea], by simp [go_sem, f2, f3, f31, f4, f6, f7, f8, gb3, gb4, gb6, nb3_0, nb3_1, nb4_0, nb4_1, nb6_0, nb6_1, nv, mv, ea], by omega, by first | (simp [go_sem]; done) | (simp [go_sem]; omega)⟩, by intro i hi; first | (simp [idOf] at hi; done) | (simp [idOf] at hi; omega), by intro i hi; first | (simp [idOf] at hi; done) | (simp [idOf] at hi; omega), by intro i hi; first | (simp [idOf] at hi; done) | (simp [idOf] at hi; omega)⟩ <;> simp [go_sem, f2, f3, f31, f4, f6, f7, f8, gb3, gb4, gb6, nb3_0, nb3_1, nb4_0, nb4_1, nb6_0, nb6_1, nv, mv, ea]
    ·have nv_0 : ¬ ov = τ1.next := by omega
     have nv_1 : ¬ ov = τ1.next + 1 := by omega
     have nv_b3 : ¬ ov = b3 := evb3 _ rfl
     have nb3_v : ¬ b3 = ov := fun e => evb3 _ rfl e.symm
     have nv_b4 : ¬ ov = b4 := evb4 _ rfl
     have nb4_v : ¬ b4 = ov := fun e => evb4 _ rfl e.symm
     have nv_b6 : ¬ ov = b6 := evb6 _ rfl
     have nb6_v : ¬ b6 = ov := fun e => evb6 _ rfl e.symm
     have ca_0 : t7.length ≤ 9223372036854775806 := by have c_ := la; (try simp at c_); omega
     have ca_1 : (t7.length + 1) * 8 ≤ 140737488355328 := by have c_ := la; (try simp at c_); omega
     simp [go_sem, f2, f3, f31, f4, f6, f7, f8, gb3, gb4, gb6, nb3_0, nb3_1, nb4_0, nb4_1, nb6_0, nb6_1, gov, tov, nv_0, nv_1, nv_b3, nb3_v, nv_b4, nb4_v, nv_b6, nb6_v, ca_0, ca_1]
     refine (hM _ _).2 ⟨AV.arr (τ1.next + 1) 0 a.length 1, ?_, ?_, ?_, ?_, ?_, ?_, by intro j hj; have hj_ := hK j hj; simp [go_sem, hj_.1, hj_.2, show ¬ j = τ1.next by omega, show ¬ j = τ1.next + 1 by omega, show ¬ j = ov by omega], by first | omega | (simp [go_sem]; done) | (simp [go_sem]; omega), by simp (disch := omega) [get_alloc_ne, get_set_ne, get_kill_ne, go_sem, f2, f3, f31, f4, f6, f7, f8, gb3, gb4, gb6, nb3_0, nb3_1, nb4_0, nb4_1, nb6_0, nb6_1, gov, tov, nv_0, nv_1, nv_b3, nb3_v, nv_b4, nb4_v, nv_b6, nb6_v, ca_0, ca_1, ea], by first | omega | (simp [go_sem]; done) | (simp [go_sem]; omega), by simp (disch := omega) [get_alloc_ne, get_set_ne, get_kill_ne, go_sem, f2, f3, f31, f4, f6, f7, f8, gb3, gb4, gb6, nb3_0, nb3_1, nb4_0, nb4_1, nb6_0, nb6_1, gov, tov, nv_0, nv_1, nv_b3, nb3_v, nv_b4, nb4_v, nv_b6, nb6_v, ca_0, ca_1, ea], by first | omega | (simp [go_sem]; done) | (simp [go_sem]; omega), by simp (disch := omega) [get_alloc_ne, get_set_ne, get_kill_ne, go_sem, f2, f3, f31, f4, f6, f7, f8, gb3, gb4, gb6, nb3_0, nb3_1, nb4_0, nb4_1, nb6_0, nb6_1, gov, tov, nv_0, nv_1, nv_b3, nb3_v, nv_b4, nb4_v, nv_b6, nb6_v, ca_0, ca_1, ea], by first | omega | (simp [go_sem]; done) | (simp [go_sem]; omega), .inr ⟨(τ1.next + 1), rfl, by simp (disch := omega) [get_alloc_ne, get_set_ne, get_kill_ne, go_sem, f2, f3, f31, f4, f6, f7, f8, gb3, gb4, gb6, nb3_0, nb3_1, nb4_0, nb4_1, nb6_0, nb6_1, gov, tov, nv_0, nv_1, nv_b3, nb3_v, nv_b4, nb4_v, nv_b6, nb6_v, ca_0, ca_1, ea], by simp [go_sem, f2, f3, f31, f4, f6, f7, f8, gb3, gb4, gb6, nb3_0, nb3_1, nb4_0, nb4_1, nb6_0, nb6_1, gov, tov, nv_0, nv_1, nv_b3, nb3_v, nv_b4, nb4_v, nv_b6, nb6_v, ca_0, ca_1, ea], by omega, by first | (simp [go_sem]; done) | (simp [go_sem]; omega)⟩, by intro i hi; first | (simp [idOf] at hi; done) | (simp [idOf] at hi; omega), by intro i hi; first | (simp [idOf] at hi; done) | (simp [idOf] at hi; omega), by intro i hi; first | (simp [idOf] at hi; done) | (simp [idOf] at hi; omega)⟩ <;> simp [go_sem, f2, f3, f31, f4, f6, f7, f8, gb3, gb4, gb6, nb3_0, nb3_1, nb4_0, nb4_1, nb6_0, nb6_1, gov, tov, nv_0, nv_1, nv_b3, nb3_v, nv_b4, nb4_v, nv_b6, nb6_v, ca_0, ca_1, ea]
   clear f2 f3 f31 f4 f6 f7 f8 hK hN gb3 ub3 gb4 ub4 gb6 ub6 av
   obtain ⟨v1, f2, f3, f4, f6, f7, f8, hK, hN, gb3, ub3, gb4, ub4, gb6, ub6, av1, ev1b3, ev1b4, ev1b6⟩ := hm
   refine SW.blk ?_
   refine SW.regX (fun f_ t_ => τ2 = t_ ∧ f_ 2 = AV.bool (A) ∧ f_ 3 = AV.ptr b3 0 ∧ f_ 4 = AV.ptr b4 0 ∧ f_ 6 = AV.ptr b6 0 ∧ f_ 7 = v1 ∧ f_ 8 = AV.int (((k + 1 : Nat) : Int))) (fun M hM => ?_) (fun fr8 τz4 hm => ?_)
   ·simp [go_sem, f2, f3, f4, f6, f7, f8, gb3, gb4, gb6, hwk]
    refine (hM _ _).2 ⟨rfl, ?_, ?_, ?_, ?_, ?_, ?_⟩ <;> simp [go_sem, f2, f3, f4, f6, f7, f8, gb3, gb4, gb6, hwk]
   clear f2 f3 f4 f6 f7 f8
   obtain ⟨rfl, f2, f3, f4, f6, f7, f8⟩ := hm
   obtain rfl := Option.some.inj hbi
   exact SW.goal ⟨t.nodes.length - (k + 1), by omega, (hJ _ _ _).2 ⟨k + 1, a, v1, rfl, hci, f2, f3, f4, f6, f7, f8, hK, hN, gb3, ub3, gb4, ub4, gb6, ub6, av1, ev1b3, ev1b4, ev1b6⟩⟩
  have hbi := condF hbi hx1
  refine SW.skip ?_
  refine SW.blk ?_
  refine SW.regX (fun f_ t_ => τ1 = t_ ∧ f_ 2 = AV.bool (A) ∧ f_ 3 = AV.ptr b3 0 ∧ f_ 4 = AV.ptr b4 0 ∧ f_ 6 = AV.ptr b6 0 ∧ f_ 7 = v ∧ f_ 8 = AV.int (((k + 1 : Nat) : Int))) (fun M hM => ?_) (fun fr9 τz5 hm => ?_)
  ·simp [go_sem, f2, f3, f31, f4, f6, f7, f8, gb3, gb4, gb6, hwk]
   refine (hM _ _).2 ⟨rfl, ?_, ?_, ?_, ?_, ?_, ?_⟩ <;> simp [go_sem, f2, f3, f31, f4, f6, f7, f8, gb3, gb4, gb6, hwk]
  clear f2 f3 f31 f4 f6 f7 f8
  obtain ⟨rfl, f2, f3, f4, f6, f7, f8⟩ := hm
  obtain rfl := Option.some.inj hbi
  exact SW.goal ⟨t.nodes.length - (k + 1), by omega, (hJ _ _ _).2 ⟨k + 1, t7, v, rfl, hci, f2, f3, f4, f6, f7, f8, hK, hN, gb3, ub3, gb4, ub4, gb6, ub6, av, evb3, evb4, evb6⟩⟩
 intro fr10 τ3 hm
 rw [hKL] at hm
 clear hKL hruni
 clear f2 f3 f4 f6 f7 f8 hK hN gb3 ub3 gb4 ub4 gb6 ub6
 obtain ⟨t7, v, rfl, f3, f4, f6, f7, hK, hN, gb3, ub3, gb4, ub4, gb6, ub6, av, evb3, evb4, evb6⟩ := hm
 simp only [Out.on] at hoi
 refine SW.seq ?_
 refine SW.regX (fun f_ t_ => ∃ b9 : Nat, f_ 3 = AV.ptr b3 0 ∧ f_ 4 = AV.ptr b4 0 ∧ f_ 6 = AV.ptr b6 0 ∧ f_ 7 = v ∧ f_ 9 = AV.ptr b9 0 ∧ Kept σ0 t_ ∧ σ0.next ≤ t_.next ∧ t_.get b3 = some [nodesA (t.nodes), edgesA (t.edges)] ∧ b3 < t_.next ∧ t_.get b4 = some [sl_Int_u8 (o.nodes), sl_Ar3_Int (o.edges)] ∧ b4 < t_.next ∧ t_.get b6 = some [AV.nils, AV.nils] ∧ b6 < t_.next ∧ t_.get b9 = some [AV.nils, AV.nils] ∧ b9 < t_.next ∧ ArrAt σ0.next t_ v 3 (t7.map AV.int) t7.length 1 ∧ σ0.next ≤ b9 ∧ ¬ b3 = b9 ∧ ¬ b4 = b9 ∧ ¬ b6 = b9 ∧ (∀ i, idOf v = some i → ¬ i = b9)) (fun M hM => ?_) (fun fr11 τ4 hm => ?_)
 ·have nb3_0 : ¬ b3 = τ3.next := by omega
  have nb4_0 : ¬ b4 = τ3.next := by omega
  have nb6_0 : ¬ b6 = τ3.next := by omega
  simp [go_sem, f3, f4, f6, f7, gb3, gb4, gb6, nb3_0, nb4_0, nb6_0]
  refine (hM _ _).2 ⟨τ3.next, ?_, ?_, ?_, ?_, ?_, by intro j hj; have hj_ := hK j hj; simp [go_sem, hj_.1, hj_.2, show ¬ j = τ3.next by omega], by first | omega | (simp [go_sem]; done) | (simp [go_sem]; omega), by simp (disch := omega) [get_alloc_ne, get_set_ne, get_kill_ne, go_sem, f3, f4, f6, f7, gb3, gb4, gb6, nb3_0, nb4_0, nb6_0], by first | omega | (simp [go_sem]; done) | (simp [go_sem]; omega), by simp (disch := omega) [get_alloc_ne, get_set_ne, get_kill_ne, go_sem, f3, f4, f6, f7, gb3, gb4, gb6, nb3_0, nb4_0, nb6_0], by first | omega | (simp [go_sem]; done) | (simp [go_sem]; omega), by simp (disch := omega) [get_alloc_ne, get_set_ne, get_kill_ne, go_sem, f3, f4, f6, f7, gb3, gb4, gb6, nb3_0, nb4_0, nb6_0], by first | omega | (simp [go_sem]; done) | (simp [go_sem]; omega), by simp (disch := omega) [get_alloc_ne, get_set_ne, get_kill_ne, go_sem, f3, f4, f6, f7, gb3, gb4, gb6, nb3_0, nb4_0, nb6_0], by first | omega | (simp [go_sem]; done) | (simp [go_sem]; omega), av.same' (by simp [go_sem]; try omega) (fun i hi => by have zl := arrAt_lt av i hi; have zi0 : ¬ i = τ3.next := (by omega); constructor <;> simp [go_sem, zi0]), by omega, by omega, by omega, by omega, by first | exact evb9 | (intro i hi; have := arrAt_lt av i hi; omega)⟩ <;> simp [go_sem, f3, f4, f6, f7, gb3, gb4, gb6, nb3_0, nb4_0, nb6_0]
 clear f3 f4 f6 f7 hK hN gb3 ub3 gb4 ub4 gb6 ub6 av
 obtain ⟨b9, f3, f4, f6, f7, f9, hK, hN, gb3, ub3, gb4, ub4, gb6, ub6, gb9, ub9, av, wb9, eb3b9, eb4b9, eb6b9, evb9⟩ := hm
 refine SW.seq ?_
 refine SW.seq ?_
 refine SW.regX (fun f_ t_ => τ4 = t_ ∧ f_ 3 = AV.ptr b3 0 ∧ f_ 4 = AV.ptr b4 0 ∧ f_ 6 = AV.ptr b6 0 ∧ f_ 7 = v ∧ f_ 9 = AV.ptr b9 0 ∧ f_ 10 = AV.int (0)) (fun M hM => ?_) (fun fr12 τz6 hm => ?_)
 ·simp [go_sem, f3, f4, f6, f7, f9, gb3, gb4, gb6, gb9]
  refine (hM _ _).2 ⟨rfl, ?_, ?_, ?_, ?_, ?_, ?_⟩ <;> simp [go_sem, f3, f4, f6, f7, f9, gb3, gb4, gb6, gb9]
 clear f3 f4 f6 f7 f9
 obtain ⟨rfl, f3, f4, f6, f7, f9, f10⟩ := hm
 obtain ⟨oi1, hruni1, hoi1⟩ := obind hoi
 obtain ⟨KL, hKL⟩ : ∃ KL : Fr → Mem → Prop, ∀ fr' τ', KL fr' τ' ↔ (∃ t10 : Int, ∃ x1 : List Int, ∃ v2 : AV, oi1 = .done (t10, x1) ∧ fr' 3 = AV.ptr b3 0 ∧ fr' 4 = AV.ptr b4 0 ∧ fr' 6 = AV.ptr b6 0 ∧ fr' 9 = AV.ptr b9 0 ∧ Kept σ0 τ' ∧ σ0.next ≤ τ'.next ∧ τ'.get b3 = some [nodesA (t.nodes), edgesA (t.edges)] ∧ b3 < τ'.next ∧ τ'.get b4 = some [sl_Int_u8 (o.nodes), sl_Ar3_Int (o.edges)] ∧ b4 < τ'.next ∧ τ'.get b6 = some [AV.nils, AV.nils] ∧ b6 < τ'.next ∧ τ'.get b9 = some [v2, AV.nils] ∧ b9 < τ'.next ∧ ArrAt σ0.next τ' v2 3 (x1.map AV.int) x1.length 1 ∧ (∀ i, idOf v2 = some i → ¬ i = b3) ∧ (∀ i, idOf v2 = some i → ¬ i = b4) ∧ (∀ i, idOf v2 = some i → ¬ i = b6) ∧ (∀ i, idOf v2 = some i → ¬ i = b9)) := ⟨_, fun _ _ => Iff.rfl⟩
 refine SW.cut KL ?_ ?_
 ·refine SW.block ?_
  obtain ⟨J, hJ⟩ : ∃ J : Nat → Fr → Mem → Prop, ∀ m_ fr' τ', J m_ fr' τ' ↔ (∃ t10 : Int, ∃ x1 : List Int, ∃ v2 : AV, whileG (b3_ref17_Made o t7) m_ (t10, x1) = some oi1 ∧ fr' 3 = AV.ptr b3 0 ∧ fr' 4 = AV.ptr b4 0 ∧ fr' 6 = AV.ptr b6 0 ∧ fr' 7 = v ∧ fr' 9 = AV.ptr b9 0 ∧ fr' 10 = AV.int (t10) ∧ Kept σ0 τ' ∧ σ0.next ≤ τ'.next ∧ τ'.get b3 = some [nodesA (t.nodes), edgesA (t.edges)] ∧ b3 < τ'.next ∧ τ'.get b4 = some [sl_Int_u8 (o.nodes), sl_Ar3_Int (o.edges)] ∧ b4 < τ'.next ∧ τ'.get b6 = some [AV.nils, AV.nils] ∧ b6 < τ'.next ∧ τ'.get b9 = some [v2, AV.nils] ∧ b9 < τ'.next ∧ ArrAt σ0.next τ' v 3 (t7.map AV.int) t7.length 1 ∧ ArrAt σ0.next τ' v2 3 (x1.map AV.int) x1.length 1 ∧ (∀ i, idOf v2 = some i → ¬ i = b3) ∧ (∀ i, idOf v2 = some i → ¬ i = b4) ∧ (∀ i, idOf v2 = some i → ¬ i = b6) ∧ (∀ i, idOf v2 = some i → ¬ i = b9) ∧ Apart v v2) := ⟨_, fun _ _ _ => Iff.rfl⟩
  refine SW.loop J F ((hJ _ _ _).2 ⟨0, ([] : List Int), AV.nils, hruni1, f3, f4, f6, f7, f9, f10, hK, hN, gb3, ub3, gb4, ub4, gb6, ub6, gb9, ub9, av, .inl ⟨rfl, rfl, rfl⟩, (fun i h => by cases h), (fun i h => by cases h), (fun i h => by cases h), (fun i h => by cases h), (fun i h h' => by cases h')⟩) ?_
  clear hruni1
  intro m_ fr13 τ5 hm
  rw [hJ] at hm
  clear f10 f3 f4 f6 f7 f9 hK hN gb3 ub3 gb4 ub4 gb6 ub6 gb9 ub9 av
  obtain ⟨t10, x1, v2, hruni1, f3, f4, f6, f7, f9, f10, hK, hN, gb3, ub3, gb4, ub4, gb6, ub6, gb9, ub9, av, av2, ev2b3, ev2b4, ev2b6, ev2b9, evv2⟩ := hm
  obtain ⟨F', ci1, rfl, hbi1, hci1⟩ := whileG_step hruni1
  simp only [b3_ref17_Made] at hbi1
  refine SW.seq ?_
  refine SW.seq ?_
  refine SW.regX (fun f_ t_ => τ5 = t_ ∧ f_ 3 = AV.ptr b3 0 ∧ f_ 4 = AV.ptr b4 0 ∧ f_ 6 = AV.ptr b6 0 ∧ f_ 7 = v ∧ f_ 9 = AV.ptr b9 0 ∧ f_ 10 = AV.int (t10) ∧ f_ 49 = AV.bool ((((decide (t10 < ((o.nodes.length : Nat) : Int)))) && ((((decide (t10 < 8))) && ((decide (0 < ((t7.length : Nat) : Int))))))))) (fun M hM => ?_) (fun fr14 τz7 hm => ?_)
  ·rcases Bool.eq_false_or_eq_true ((decide (t10 < ((o.nodes.length : Nat) : Int)))) with y0 | y0
   ·have y0' := y0
    try simp at y0'
    rcases Bool.eq_false_or_eq_true ((decide (t10 < 8))) with y2 | y2
    ·have y2' := y2
     try simp [y0'] at y2'
     have zv := av
     rcases zv with ⟨rfl, nv, mv⟩ | ⟨ov, rfl, gov, tov, lov, hiv⟩
     ·have zyvy0 := y0
      try rw [nv] at zyvy0
      try simp only [List.length_nil, Int.natCast_zero] at zyvy0
      have zyvy2 := y2
      try rw [nv] at zyvy2
      try simp only [List.length_nil, Int.natCast_zero] at zyvy2
      simp [go_sem, f10, f3, f4, f6, f7, f9, gb3, gb4, gb6, gb9, y0, y0', y2, y2', nv, mv, zyvy0, zyvy2]
      refine (hM _ _).2 ⟨rfl, ?_, ?_, ?_, ?_, ?_, ?_, ?_⟩ <;> simp [go_sem, f10, f3, f4, f6, f7, f9, gb3, gb4, gb6, gb9, y0, y0', y2, y2', nv, mv, zyvy0, zyvy2]
     ·simp [go_sem, f10, f3, f4, f6, f7, f9, gb3, gb4, gb6, gb9, y0, y0', y2, y2', gov, tov]
      refine (hM _ _).2 ⟨rfl, ?_, ?_, ?_, ?_, ?_, ?_, ?_⟩ <;> simp [go_sem, f10, f3, f4, f6, f7, f9, gb3, gb4, gb6, gb9, y0, y0', y2, y2', gov, tov]
    ·have y2' := y2
     try simp [y0'] at y2'
     simp [go_sem, f10, f3, f4, f6, f7, f9, gb3, gb4, gb6, gb9, y0, y0', y2, y2']
     refine (hM _ _).2 ⟨rfl, ?_, ?_, ?_, ?_, ?_, ?_, ?_⟩ <;> simp [go_sem, f10, f3, f4, f6, f7, f9, gb3, gb4, gb6, gb9, y0, y0', y2, y2']
   ·have y0' := y0
    try simp at y0'
    simp [go_sem, f10, f3, f4, f6, f7, f9, gb3, gb4, gb6, gb9, y0, y0']
    refine (hM _ _).2 ⟨rfl, ?_, ?_, ?_, ?_, ?_, ?_, ?_⟩ <;> simp [go_sem, f10, f3, f4, f6, f7, f9, gb3, gb4, gb6, gb9, y0, y0']
  clear f10 f3 f4 f6 f7 f9
  obtain ⟨rfl, f3, f4, f6, f7, f9, f10, f49⟩ := hm
  refine SW.cond _ f49 (fun hx2 => ?_) (fun hx2 => ?_)
  ·have hbi1 := condT hbi1 hx2
   refine SW.skip ?_
   refine SW.seq ?_
   refine SW.block ?_
   obtain ⟨n, hn, hbi1⟩ := obind hbi1
   have xpn := getI_pos hn
   have xln := getI_lt hn
   have xin := getI_N hn
   have xdn := getN_map (fun n => AV.lit (.int .u8 n)) xin
   obtain ⟨z, hz, hbi1⟩ := obind hbi1
   have nz := nzI_spec hz
   have mz := nz
   try simp at mz
   obtain ⟨w, nw⟩ : ∃ w : Int, (Int.tmod ((IntKind.i64.wrap n)) (((t7.length : Nat) : Int))) = w := ⟨_, rfl⟩
   rw [nw] at hbi1
   obtain ⟨n1, hn1, hbi1⟩ := obind hbi1
   have xpn1 := getI_pos hn1
   have xln1 := getI_lt hn1
   have xin1 := getI_N hn1
   have xdn1 := getN_map AV.int xin1
   have xon1 : (t7.map AV.int).length = t7.length * 1 := by simp
   obtain ⟨a1, ha1, hbi1⟩ := obind hbi1
   obtain ⟨la1, ea1⟩ := catL_spec ha1
   refine SW.regX (fun f_ t_ => ∃ v3 : AV, f_ 3 = AV.ptr b3 0 ∧ f_ 4 = AV.ptr b4 0 ∧ f_ 6 = AV.ptr b6 0 ∧ f_ 7 = v ∧ f_ 9 = AV.ptr b9 0 ∧ f_ 10 = AV.int (t10) ∧ Kept σ0 t_ ∧ σ0.next ≤ t_.next ∧ t_.get b3 = some [nodesA (t.nodes), edgesA (t.edges)] ∧ b3 < t_.next ∧ t_.get b4 = some [sl_Int_u8 (o.nodes), sl_Ar3_Int (o.edges)] ∧ b4 < t_.next ∧ t_.get b6 = some [AV.nils, AV.nils] ∧ b6 < t_.next ∧ t_.get b9 = some [v3, AV.nils] ∧ b9 < t_.next ∧ ArrAt σ0.next t_ v 3 (t7.map AV.int) t7.length 1 ∧ ArrAt σ0.next t_ v3 3 (a1.map AV.int) a1.length 1 ∧ (∀ i, idOf v3 = some i → ¬ i = b3) ∧ (∀ i, idOf v3 = some i → ¬ i = b4) ∧ (∀ i, idOf v3 = some i → ¬ i = b6) ∧ (∀ i, idOf v3 = some i → ¬ i = b9) ∧ Apart v v3) (fun M hM => ?_) (fun fr15 τ6 hm => ?_)
   ·have nb3_0 : ¬ b3 = τ5.next := by omega
    have nb3_1 : ¬ b3 = τ5.next + 1 := by omega
    have nb4_0 : ¬ b4 = τ5.next := by omega
    have nb4_1 : ¬ b4 = τ5.next + 1 := by omega
    have nb6_0 : ¬ b6 = τ5.next := by omega
    have nb6_1 : ¬ b6 = τ5.next + 1 := by omega
    have nb9_0 : ¬ b9 = τ5.next := by omega
    have nb9_1 : ¬ b9 = τ5.next + 1 := by omega
    have nb3_b4 : ¬ b3 = b4 := by omega
    have nb3_b6 : ¬ b3 = b6 := by omega
    have nb3_b9 : ¬ b3 = b9 := by omega
    have nb4_b3 : ¬ b4 = b3 := by omega
    have nb4_b6 : ¬ b4 = b6 := by omega
    have nb4_b9 : ¬ b4 = b9 := by omega
    have nb6_b3 : ¬ b6 = b3 := by omega
    have nb6_b4 : ¬ b6 = b4 := by omega
    have nb6_b9 : ¬ b6 = b9 := by omega
    have nb9_b3 : ¬ b9 = b3 := by omega
    have nb9_b4 : ¬ b9 = b4 := by omega
    have nb9_b6 : ¬ b9 = b6 := by omega
    have zv2 := av2
    rcases zv2 with ⟨rfl, nv2, mv2⟩ | ⟨ov2, rfl, gov2, tov2, lov2, hiv2⟩
    ·have zv := av
     rcases zv with ⟨rfl, nv, mv⟩ | ⟨ov, rfl, gov, tov, lov, hiv⟩
     ·exfalso; omega
     ·have nv_0 : ¬ ov = τ5.next := by omega
      have nv_1 : ¬ ov = τ5.next + 1 := by omega
      have nv_b3 : ¬ ov = b3 := evb3 _ rfl
      have nb3_v : ¬ b3 = ov := fun e => evb3 _ rfl e.symm
      have nv_b4 : ¬ ov = b4 := evb4 _ rfl
      have nb4_v : ¬ b4 = ov := fun e => evb4 _ rfl e.symm
      have nv_b6 : ¬ ov = b6 := evb6 _ rfl
      have nb6_v : ¬ b6 = ov := fun e => evb6 _ rfl e.symm
      have nv_b9 : ¬ ov = b9 := evb9 _ rfl
      have nb9_v : ¬ b9 = ov := fun e => evb9 _ rfl e.symm
      refine EW_regionY τ5 16 (.q false 0 (.q false 1 (.q false 2 (.q false 3 (.q false 4 (.q false 5 (.q false 6 (.q false 7 (.q false 8 (.q false 9 (.q false 10 (.q false 11 (.q false 12 (.q false 13 (.s 14 (.s 15 .done)))))))))))))))) (by kernel_rfl) (by kernel_rfl) (fun _ _ h => h) (fun hfin => ?_)
      have m0_ : τ5.get (τ5.next) = none := hfin _ (by omega)
      have m1_ : τ5.get (τ5.next + 1) = none := hfin _ (by omega)
      have hsub : Sub τ5 τ5 := (fun _ _ h => h)
      simp (maxDischargeDepth := 12) [go_sem, f10, f3, f4, f49, f6, f7, f9, gb3, gb4, gb6, gb9, xpn, xln, xdn, nz, mz, xpn1, xln1, xdn1, xon1, nw, nw, nb3_0, nb3_1, nb4_0, nb4_1, nb6_0, nb6_1, nb9_0, nb9_1, nb3_b4, nb3_b6, nb3_b9, nb4_b3, nb4_b6, nb4_b9, nb6_b3, nb6_b4, nb6_b9, nb9_b3, nb9_b4, nb9_b6, nv2, mv2, gov, tov, nv_0, nv_1, nv_b3, nb3_v, nv_b4, nb4_v, nv_b6, nb6_v, nv_b9, nb9_v, m0_, m1_, sub_set, sub_killAll, hsub]
      refine (hM _ _).2 ⟨AV.arr (τ5.next + 1) 0 a1.length 1, ?_, ?_, ?_, ?_, ?_, ?_, by intro j hj; have hj_ := hK j hj; simp [go_sem, hj_.1, hj_.2, show ¬ j = τ5.next by omega, show ¬ j = τ5.next + 1 by omega, show ¬ j = b9 by omega], by first | omega | (simp [go_sem]; done) | (simp [go_sem]; omega), by simp (disch := omega) [get_alloc_ne, get_set_ne, get_kill_ne, go_sem, f10, f3, f4, f49, f6, f7, f9, gb3, gb4, gb6, gb9, xpn, xln, xdn, nz, mz, xpn1, xln1, xdn1, xon1, nw, nw, nb3_0, nb3_1, nb4_0, nb4_1, nb6_0, nb6_1, nb9_0, nb9_1, nb3_b4, nb3_b6, nb3_b9, nb4_b3, nb4_b6, nb4_b9, nb6_b3, nb6_b4, nb6_b9, nb9_b3, nb9_b4, nb9_b6, nv2, mv2, gov, tov, nv_0, nv_1, nv_b3, nb3_v, nv_b4, nb4_v, nv_b6, nb6_v, nv_b9, nb9_v, m0_, m1_, sub_set, sub_killAll, hsub, ea1], by first | omega | (simp [go_sem]; done) | (simp [go_sem]; omega), by simp (disch := omega) [get_alloc_ne, get_set_ne, get_kill_ne, go_sem, f10, f3, f4, f49, f6, f7, f9, gb3, gb4, gb6, gb9, xpn, xln, xdn, nz, mz, xpn1, xln1, xdn1, xon1, nw, nw, nb3_0, nb3_1, nb4_0, nb4_1, nb6_0, nb6_1, nb9_0, nb9_1, nb3_b4, nb3_b6, nb3_b9, nb4_b3, nb4_b6, nb4_b9, nb6_b3, nb6_b4, nb6_b9, nb9_b3, nb9_b4, nb9_b6, nv2, mv2, gov, tov, nv_0, nv_1, nv_b3, nb3_v, nv_b4, nb4_v, nv_b6, nb6_v, nv_b9, nb9_v, m0_, m1_, sub_set, sub_killAll, hsub, ea1], by first | omega | (simp [go_sem]; done) | (simp [go_sem]; omega), by simp (disch := omega) [get_alloc_ne, get_set_ne, get_kill_ne, go_sem, f10, f3, f4, f49, f6, f7, f9, gb3, gb4, gb6, gb9, xpn, xln, xdn, nz, mz, xpn1, xln1, xdn1, xon1, nw, nw, nb3_0, nb3_1, nb4_0, nb4_1, nb6_0, nb6_1, nb9_0, nb9_1, nb3_b4, nb3_b6, nb3_b9, nb4_b3, nb4_b6, nb4_b9, nb6_b3, nb6_b4, nb6_b9, nb9_b3, nb9_b4, nb9_b6, nv2, mv2, gov, tov, nv_0, nv_1, nv_b3, nb3_v, nv_b4, nb4_v, nv_b6, nb6_v, nv_b9, nb9_v, m0_, m1_, sub_set, sub_killAll, hsub, ea1], by first | omega | (simp [go_sem]; done) | (simp [go_sem]; omega), by simp (disch := omega) [get_alloc_ne, get_set_ne, get_kill_ne, go_sem, f10, f3, f4, f49, f6, f7, f9, gb3, gb4, gb6, gb9, xpn, xln, xdn, nz, mz, xpn1, xln1, xdn1, xon1, nw, nw, nb3_0, nb3_1, nb4_0, nb4_1, nb6_0, nb6_1, nb9_0, nb9_1, nb3_b4, nb3_b6, nb3_b9, nb4_b3, nb4_b6, nb4_b9, nb6_b3, nb6_b4, nb6_b9, nb9_b3, nb9_b4, nb9_b6, nv2, mv2, gov, tov, nv_0, nv_1, nv_b3, nb3_v, nv_b4, nb4_v, nv_b6, nb6_v, nv_b9, nb9_v, m0_, m1_, sub_set, sub_killAll, hsub, ea1], by first | omega | (simp [go_sem]; done) | (simp [go_sem]; omega), av.same' (by simp [go_sem]; try omega) (fun i hi => by have zl := arrAt_lt av i hi; have zs0 := evb9 i hi; have zi0 : ¬ i = τ5.next := (by omega); have zi1 : ¬ i = τ5.next + 1 := (by omega); constructor <;> simp [go_sem, zs0, zi0, zi1]), .inr ⟨(τ5.next + 1), rfl, by simp (disch := omega) [get_alloc_ne, get_set_ne, get_kill_ne, go_sem, f10, f3, f4, f49, f6, f7, f9, gb3, gb4, gb6, gb9, xpn, xln, xdn, nz, mz, xpn1, xln1, xdn1, xon1, nw, nw, nb3_0, nb3_1, nb4_0, nb4_1, nb6_0, nb6_1, nb9_0, nb9_1, nb3_b4, nb3_b6, nb3_b9, nb4_b3, nb4_b6, nb4_b9, nb6_b3, nb6_b4, nb6_b9, nb9_b3, nb9_b4, nb9_b6, nv2, mv2, gov, tov, nv_0, nv_1, nv_b3, nb3_v, nv_b4, nb4_v, nv_b6, nb6_v, nv_b9, nb9_v, m0_, m1_, sub_set, sub_killAll, hsub, ea1], by simp [go_sem, f10, f3, f4, f49, f6, f7, f9, gb3, gb4, gb6, gb9, xpn, xln, xdn, nz, mz, xpn1, xln1, xdn1, xon1, nw, nw, nb3_0, nb3_1, nb4_0, nb4_1, nb6_0, nb6_1, nb9_0, nb9_1, nb3_b4, nb3_b6, nb3_b9, nb4_b3, nb4_b6, nb4_b9, nb6_b3, nb6_b4, nb6_b9, nb9_b3, nb9_b4, nb9_b6, nv2, mv2, gov, tov, nv_0, nv_1, nv_b3, nb3_v, nv_b4, nb4_v, nv_b6, nb6_v, nv_b9, nb9_v, m0_, m1_, sub_set, sub_killAll, hsub, ea1], by omega, by first | (simp [go_sem]; done) | (simp [go_sem]; omega)⟩, by intro i hi; first | (simp [idOf] at hi; done) | (simp [idOf] at hi; omega), by intro i hi; first | (simp [idOf] at hi; done) | (simp [idOf] at hi; omega), by intro i hi; first | (simp [idOf] at hi; done) | (simp [idOf] at hi; omega), by intro i hi; first | (simp [idOf] at hi; done) | (simp [idOf] at hi; omega), by first | exact evv3 | exact apart_symm ev3v | (intro i h1 h2; simp [idOf] at h1; done) | (intro i h1 h2; simp [idOf] at h2; done) | (intro i h1 h2; have := arrAt_lt av i h1; simp [idOf] at h2; omega)⟩ <;> simp [go_sem, f10, f3, f4, f49, f6, f7, f9, gb3, gb4, gb6, gb9, xpn, xln, xdn, nz, mz, xpn1, xln1, xdn1, xon1, nw, nw, nb3_0, nb3_1, nb4_0, nb4_1, nb6_0, nb6_1, nb9_0, nb9_1, nb3_b4, nb3_b6, nb3_b9, nb4_b3, nb4_b6, nb4_b9, nb6_b3, nb6_b4, nb6_b9, nb9_b3, nb9_b4, nb9_b6, nv2, mv2, gov, tov, nv_0, nv_1, nv_b3, nb3_v, nv_b4, nb4_v, nv_b6, nb6_v, nv_b9, nb9_v, m0_, m1_, sub_set, sub_killAll, hsub, ea1]
    ·have nv2_0 : ¬ ov2 = τ5.next := by omega
     have nv2_1 : ¬ ov2 = τ5.next + 1 := by omega
     have nv2_b3 : ¬ ov2 = b3 := ev2b3 _ rfl
     have nb3_v2 : ¬ b3 = ov2 := fun e => ev2b3 _ rfl e.symm
     have nv2_b4 : ¬ ov2 = b4 := ev2b4 _ rfl
     have nb4_v2 : ¬ b4 = ov2 := fun e => ev2b4 _ rfl e.symm
     have nv2_b6 : ¬ ov2 = b6 := ev2b6 _ rfl
     have nb6_v2 : ¬ b6 = ov2 := fun e => ev2b6 _ rfl e.symm
     have nv2_b9 : ¬ ov2 = b9 := ev2b9 _ rfl
     have nb9_v2 : ¬ b9 = ov2 := fun e => ev2b9 _ rfl e.symm
     have ca1_0 : x1.length ≤ 9223372036854775806 := by have c_ := la1; (try simp at c_); omega
     have ca1_1 : (x1.length + 1) * 8 ≤ 140737488355328 := by have c_ := la1; (try simp at c_); omega
     have zv := av
     rcases zv with ⟨rfl, nv, mv⟩ | ⟨ov, rfl, gov, tov, lov, hiv⟩
     ·exfalso; omega
     ·have nv_0 : ¬ ov = τ5.next := by omega
      have nv_1 : ¬ ov = τ5.next + 1 := by omega
      have nv_v2 : ¬ ov = ov2 := by first | exact apart_ne ev2v rfl | exact apart_ne (apart_symm evv2) rfl
      have nv2_v := fun e => nv_v2 (Eq.symm e)
      have nv_b3 : ¬ ov = b3 := evb3 _ rfl
      have nb3_v : ¬ b3 = ov := fun e => evb3 _ rfl e.symm
      have nv_b4 : ¬ ov = b4 := evb4 _ rfl
      have nb4_v : ¬ b4 = ov := fun e => evb4 _ rfl e.symm
      have nv_b6 : ¬ ov = b6 := evb6 _ rfl
      have nb6_v : ¬ b6 = ov := fun e => evb6 _ rfl e.symm
      have nv_b9 : ¬ ov = b9 := evb9 _ rfl
      have nb9_v : ¬ b9 = ov := fun e => evb9 _ rfl e.symm
      refine EW_regionY (τ5.kill ov2) 16 (.q false 0 (.q false 1 (.q false 2 (.q false 3 (.q false 4 (.q false 5 (.q false 6 (.q false 7 (.q false 8 (.q false 9 (.q false 10 (.q false 11 (.q false 12 (.q false 13 (.s 14 (.s 15 .done)))))))))))))))) (by kernel_rfl) (by kernel_rfl) (sub_kill ov2 (fun _ _ h => h)) (fun hfin => ?_)
      have m0_ : τ5.get (τ5.next) = none := hfin _ (by omega)
      have m1_ : τ5.get (τ5.next + 1) = none := hfin _ (by omega)
      have hsub : Sub (τ5.kill ov2) τ5 := (sub_kill ov2 (fun _ _ h => h))
      simp (maxDischargeDepth := 12) [go_sem, f10, f3, f4, f49, f6, f7, f9, gb3, gb4, gb6, gb9, xpn, xln, xdn, nz, mz, xpn1, xln1, xdn1, xon1, nw, nw, nb3_0, nb3_1, nb4_0, nb4_1, nb6_0, nb6_1, nb9_0, nb9_1, nb3_b4, nb3_b6, nb3_b9, nb4_b3, nb4_b6, nb4_b9, nb6_b3, nb6_b4, nb6_b9, nb9_b3, nb9_b4, nb9_b6, gov2, tov2, nv2_0, nv2_1, nv2_b3, nb3_v2, nv2_b4, nb4_v2, nv2_b6, nb6_v2, nv2_b9, nb9_v2, ca1_0, ca1_1, gov, tov, nv_0, nv_1, nv_v2, nv2_v, nv_b3, nb3_v, nv_b4, nb4_v, nv_b6, nb6_v, nv_b9, nb9_v, m0_, m1_, sub_set, sub_killAll, hsub]
      refine (hM _ _).2 ⟨AV.arr (τ5.next + 1) 0 a1.length 1, ?_, ?_, ?_, ?_, ?_, ?_, by intro j hj; have hj_ := hK j hj; simp [go_sem, hj_.1, hj_.2, show ¬ j = τ5.next by omega, show ¬ j = τ5.next + 1 by omega, show ¬ j = b9 by omega, show ¬ j = ov2 by omega], by first | omega | (simp [go_sem]; done) | (simp [go_sem]; omega), by simp (disch := omega) [get_alloc_ne, get_set_ne, get_kill_ne, go_sem, f10, f3, f4, f49, f6, f7, f9, gb3, gb4, gb6, gb9, xpn, xln, xdn, nz, mz, xpn1, xln1, xdn1, xon1, nw, nw, nb3_0, nb3_1, nb4_0, nb4_1, nb6_0, nb6_1, nb9_0, nb9_1, nb3_b4, nb3_b6, nb3_b9, nb4_b3, nb4_b6, nb4_b9, nb6_b3, nb6_b4, nb6_b9, nb9_b3, nb9_b4, nb9_b6, gov2, tov2, nv2_0, nv2_1, nv2_b3, nb3_v2, nv2_b4, nb4_v2, nv2_b6, nb6_v2, nv2_b9, nb9_v2, ca1_0, ca1_1, gov, tov, nv_0, nv_1, nv_v2, nv2_v, nv_b3, nb3_v, nv_b4, nb4_v, nv_b6, nb6_v, nv_b9, nb9_v, m0_, m1_, sub_set, sub_killAll, hsub, ea1], by first | omega | (simp [go_sem]; done) | (simp [go_sem]; omega), by simp (disch := omega) [get_alloc_ne, get_set_ne, get_kill_ne, go_sem, f10, f3, f4, f49, f6, f7, f9, gb3, gb4, gb6, gb9, xpn, xln, xdn, nz, mz, xpn1, xln1, xdn1, xon1, nw, nw, nb3_0, nb3_1, nb4_0, nb4_1, nb6_0, nb6_1, nb9_0, nb9_1, nb3_b4, nb3_b6, nb3_b9, nb4_b3, nb4_b6, nb4_b9, nb6_b3, nb6_b4, nb6_b9, nb9_b3, nb9_b4, nb9_b6, gov2, tov2, nv2_0, nv2_1, nv2_b3, nb3_v2, nv2_b4, nb4_v2, nv2_b6, nb6_v2, nv2_b9, nb9_v2, ca1_0, ca1_1, gov, tov, nv_0, nv_1, nv_v2, nv2_v, nv_b3, nb3_v, nv_b4, nb4_v, nv_b6, nb6_v, nv_b9, nb9_v, m0_, m1_, sub_set, sub_killAll, hsub, ea1], by first | omega | (simp [go_sem]; done) | (simp [go_sem]; omega), by simp (disch := omega) [get_alloc_ne, get_set_ne, get_kill_ne, go_sem, f10, f3, f4, f49, f6, f7, f9, gb3, gb4, gb6, gb9, xpn, xln, xdn, nz, mz, xpn1, xln1, xdn1, xon1, nw, nw, nb3_0, nb3_1, nb4_0, nb4_1, nb6_0, nb6_1, nb9_0, nb9_1, nb3_b4, nb3_b6, nb3_b9, nb4_b3, nb4_b6, nb4_b9, nb6_b3, nb6_b4, nb6_b9, nb9_b3, nb9_b4, nb9_b6, gov2, tov2, nv2_0, nv2_1, nv2_b3, nb3_v2, nv2_b4, nb4_v2, nv2_b6, nb6_v2, nv2_b9, nb9_v2, ca1_0, ca1_1, gov, tov, nv_0, nv_1, nv_v2, nv2_v, nv_b3, nb3_v, nv_b4, nb4_v, nv_b6, nb6_v, nv_b9, nb9_v, m0_, m1_, sub_set, sub_killAll, hsub, ea1], by first | omega | (simp [go_sem]; done) | (simp [go_sem]; omega), by simp (disch := omega) [get_alloc_ne, get_set_ne, get_kill_ne, go_sem, f10, f3, f4, f49, f6, f7, f9, gb3, gb4, gb6, gb9, xpn, xln, xdn, nz, mz, xpn1, xln1, xdn1, xon1, nw, nw, nb3_0, nb3_1, nb4_0, nb4_1, nb6_0, nb6_1, nb9_0, nb9_1, nb3_b4, nb3_b6, nb3_b9, nb4_b3, nb4_b6, nb4_b9, nb6_b3, nb6_b4, nb6_b9, nb9_b3, nb9_b4, nb9_b6, gov2, tov2, nv2_0, nv2_1, nv2_b3, nb3_v2, nv2_b4, nb4_v2, nv2_b6, nb6_v2, nv2_b9, nb9_v2, ca1_0, ca1_1, gov, tov, nv_0, nv_1, nv_v2, nv2_v, nv_b3, nb3_v, nv_b4, nb4_v, nv_b6, nb6_v, nv_b9, nb9_v, m0_, m1_, sub_set, sub_killAll, hsub, ea1], by first | omega | (simp [go_sem]; done) | (simp [go_sem]; omega), av.same' (by simp [go_sem]; try omega) (fun i hi => by have zl := arrAt_lt av i hi; have zs0 := evb9 i hi; have zi0 : ¬ i = τ5.next := (by omega); have zi1 : ¬ i = τ5.next + 1 := (by omega); have zk0 := apart_ne (by first | exact ev2v | exact apart_symm evv2) hi; constructor <;> simp [go_sem, zs0, zi0, zi1, zk0]), .inr ⟨(τ5.next + 1), rfl, by simp (disch := omega) [get_alloc_ne, get_set_ne, get_kill_ne, go_sem, f10, f3, f4, f49, f6, f7, f9, gb3, gb4, gb6, gb9, xpn, xln, xdn, nz, mz, xpn1, xln1, xdn1, xon1, nw, nw, nb3_0, nb3_1, nb4_0, nb4_1, nb6_0, nb6_1, nb9_0, nb9_1, nb3_b4, nb3_b6, nb3_b9, nb4_b3, nb4_b6, nb4_b9, nb6_b3, nb6_b4, nb6_b9, nb9_b3, nb9_b4, nb9_b6, gov2, tov2, nv2_0, nv2_1, nv2_b3, nb3_v2, nv2_b4, nb4_v2, nv2_b6, nb6_v2, nv2_b9, nb9_v2, ca1_0, ca1_1, gov, tov, nv_0, nv_1, nv_v2, nv2_v, nv_b3, nb3_v, nv_b4, nb4_v, nv_b6, nb6_v, nv_b9, nb9_v, m0_, m1_, sub_set, sub_killAll, hsub, ea1], by simp [go_sem, f10, f3, f4, f49, f6, f7, f9, gb3, gb4, gb6, gb9, xpn, xln, xdn, nz, mz, xpn1, xln1, xdn1, xon1, nw, nw, nb3_0, nb3_1, nb4_0, nb4_1, nb6_0, nb6_1, nb9_0, nb9_1, nb3_b4, nb3_b6, nb3_b9, nb4_b3, nb4_b6, nb4_b9, nb6_b3, nb6_b4, nb6_b9, nb9_b3, nb9_b4, nb9_b6, gov2, tov2, nv2_0, nv2_1, nv2_b3, nb3_v2, nv2_b4, nb4_v2, nv2_b6, nb6_v2, nv2_b9, nb9_v2, ca1_0, ca1_1, gov, tov, nv_0, nv_1, nv_v2, nv2_v, nv_b3, nb3_v, nv_b4, nb4_v, nv_b6, nb6_v, nv_b9, nb9_v, m0_, m1_, sub_set, sub_killAll, hsub, ea1], by omega, by first | (simp [go_sem]; done) | (simp [go_sem]; omega)⟩, by intro i hi; first | (simp [idOf] at hi; done) | (simp [idOf] at hi; omega), by intro i hi; first | (simp [idOf] at hi; done) | (simp [idOf] at hi; omega), by intro i hi; first | (simp [idOf] at hi; done) | (simp [idOf] at hi; omega), by intro i hi; first | (simp [idOf] at hi; done) | (simp [idOf] at hi; omega), by first | exact evv3 | exact apart_symm ev3v | (intro i h1 h2; simp [idOf] at h1; done) | (intro i h1 h2; simp [idOf] at h2; done) | (intro i h1 h2; have := arrAt_lt av i h1; simp [idOf] at h2; omega)⟩ <;> simp [go_sem, f10, f3, f4, f49, f6, f7, f9, gb3, gb4, gb6, gb9, xpn, xln, xdn, nz, mz, xpn1, xln1, xdn1, xon1, nw, nw, nb3_0, nb3_1, nb4_0, nb4_1, nb6_0, nb6_1, nb9_0, nb9_1, nb3_b4, nb3_b6, nb3_b9, nb4_b3, nb4_b6, nb4_b9, nb6_b3, nb6_b4, nb6_b9, nb9_b3, nb9_b4, nb9_b6, gov2, tov2, nv2_0, nv2_1, nv2_b3, nb3_v2, nv2_b4, nb4_v2, nv2_b6, nb6_v2, nv2_b9, nb9_v2, ca1_0, ca1_1, gov, tov, nv_0, nv_1, nv_v2, nv2_v, nv_b3, nb3_v, nv_b4, nb4_v, nv_b6, nb6_v, nv_b9, nb9_v, m0_, m1_, sub_set, sub_killAll, hsub, ea1]
   clear f10 f3 f4 f49 f6 f7 f9 hK hN gb3 ub3 gb4 ub4 gb6 ub6 gb9 ub9 av av2
   obtain ⟨v3, f3, f4, f6, f7, f9, f10, hK, hN, gb3, ub3, gb4, ub4, gb6, ub6, gb9, ub9, av, av3, ev3b3, ev3b4, ev3b6, ev3b9, evv3⟩ := hm
   refine SW.blk ?_
   refine SW.regX (fun f_ t_ => τ6 = t_ ∧ f_ 3 = AV.ptr b3 0 ∧ f_ 4 = AV.ptr b4 0 ∧ f_ 6 = AV.ptr b6 0 ∧ f_ 7 = v ∧ f_ 9 = AV.ptr b9 0 ∧ f_ 10 = AV.int ((IntKind.i64.wrap (t10 + 1)))) (fun M hM => ?_) (fun fr16 τz8 hm => ?_)
   ·simp [go_sem, f10, f3, f4, f6, f7, f9, gb3, gb4, gb6, gb9]
    refine (hM _ _).2 ⟨rfl, ?_, ?_, ?_, ?_, ?_, ?_⟩ <;> simp [go_sem, f10, f3, f4, f6, f7, f9, gb3, gb4, gb6, gb9]
   clear f10 f3 f4 f6 f7 f9
   obtain ⟨rfl, f3, f4, f6, f7, f9, f10⟩ := hm
   obtain rfl := Option.some.inj hbi1
   exact SW.goal ⟨_, Nat.lt_succ_self _, (hJ _ _ _).2 ⟨(IntKind.i64.wrap (t10 + 1)), a1, v3, hci1, f3, f4, f6, f7, f9, f10, hK, hN, gb3, ub3, gb4, ub4, gb6, ub6, gb9, ub9, av, av3, ev3b3, ev3b4, ev3b6, ev3b9, (by first | exact evv3 | exact fun i h h' => ev3v i h' h)⟩⟩
  have hbi1 := condF hbi1 hx2
  refine SW.exit rfl ?_
  obtain rfl := Option.some.inj hbi1
  exact SW.goal ((hKL _ _).2 ⟨t10, x1, v2, (Option.some.inj hci1).symm, f3, f4, f6, f9, hK, hN, gb3, ub3, gb4, ub4, gb6, ub6, gb9, ub9, av2, ev2b3, ev2b4, ev2b6, ev2b9⟩)
 intro fr17 τ7 hm
 rw [hKL] at hm
 clear hKL hruni1
 clear f10 f3 f4 f6 f7 f9 hK hN gb3 ub3 gb4 ub4 gb6 ub6 gb9 ub9 av
 obtain ⟨t10, x1, v2, rfl, f3, f4, f6, f9, hK, hN, gb3, ub3, gb4, ub4, gb6, ub6, gb9, ub9, av2, ev2b3, ev2b4, ev2b6, ev2b9⟩ := hm
 simp only [Out.on] at hoi1
 refine SW.seq ?_
 refine SW.seq ?_
 refine SW.regX (fun f_ t_ => τ7 = t_ ∧ f_ 3 = AV.ptr b3 0 ∧ f_ 4 = AV.ptr b4 0 ∧ f_ 6 = AV.ptr b6 0 ∧ f_ 9 = AV.ptr b9 0 ∧ f_ 11 = AV.int (0)) (fun M hM => ?_) (fun fr18 τz9 hm => ?_)
 ·simp [go_sem, f3, f4, f6, f9, gb3, gb4, gb6, gb9]
  refine (hM _ _).2 ⟨rfl, ?_, ?_, ?_, ?_, ?_⟩ <;> simp [go_sem, f3, f4, f6, f9, gb3, gb4, gb6, gb9]
 clear f3 f4 f6 f9
 obtain ⟨rfl, f3, f4, f6, f9, f11⟩ := hm
 obtain ⟨oi2, hruni2, hoi2⟩ := obind hoi1
 obtain ⟨KL, hKL⟩ : ∃ KL : Fr → Mem → Prop, ∀ fr' τ', KL fr' τ' ↔ (∃ t11 : Int, ∃ x2 : List E3, ∃ v4 : AV, oi2 = .done (t11, x2) ∧ fr' 6 = AV.ptr b6 0 ∧ fr' 9 = AV.ptr b9 0 ∧ Kept σ0 τ' ∧ σ0.next ≤ τ'.next ∧ τ'.get b6 = some [AV.nils, AV.nils] ∧ b6 < τ'.next ∧ τ'.get b9 = some [v2, v4] ∧ b9 < τ'.next ∧ ArrAt σ0.next τ' v2 3 (x1.map AV.int) x1.length 1 ∧ ArrAt σ0.next τ' v4 77 (x2.flatMap e3C) x2.length 3 ∧ (∀ i, idOf v4 = some i → ¬ i = b6) ∧ (∀ i, idOf v4 = some i → ¬ i = b9) ∧ Apart v2 v4) := ⟨_, fun _ _ => Iff.rfl⟩
 refine SW.cut KL ?_ ?_
 ·refine SW.block ?_
  obtain ⟨J, hJ⟩ : ∃ J : Nat → Fr → Mem → Prop, ∀ m_ fr' τ', J m_ fr' τ' ↔ (∃ t11 : Int, ∃ x2 : List E3, ∃ v4 : AV, whileG (b5_ref17_Made F t o x1) m_ (t11, x2) = some oi2 ∧ fr' 3 = AV.ptr b3 0 ∧ fr' 4 = AV.ptr b4 0 ∧ fr' 6 = AV.ptr b6 0 ∧ fr' 9 = AV.ptr b9 0 ∧ fr' 11 = AV.int (t11) ∧ Kept σ0 τ' ∧ σ0.next ≤ τ'.next ∧ τ'.get b3 = some [nodesA (t.nodes), edgesA (t.edges)] ∧ b3 < τ'.next ∧ τ'.get b4 = some [sl_Int_u8 (o.nodes), sl_Ar3_Int (o.edges)] ∧ b4 < τ'.next ∧ τ'.get b6 = some [AV.nils, AV.nils] ∧ b6 < τ'.next ∧ τ'.get b9 = some [v2, v4] ∧ b9 < τ'.next ∧ ArrAt σ0.next τ' v2 3 (x1.map AV.int) x1.length 1 ∧ ArrAt σ0.next τ' v4 77 (x2.flatMap e3C) x2.length 3 ∧ (∀ i, idOf v4 = some i → ¬ i = b3) ∧ (∀ i, idOf v4 = some i → ¬ i = b4) ∧ (∀ i, idOf v4 = some i → ¬ i = b6) ∧ (∀ i, idOf v4 = some i → ¬ i = b9) ∧ Apart v2 v4) := ⟨_, fun _ _ _ => Iff.rfl⟩
  refine SW.loop J F ((hJ _ _ _).2 ⟨0, ([] : List E3), AV.nils, hruni2, f3, f4, f6, f9, f11, hK, hN, gb3, ub3, gb4, ub4, gb6, ub6, gb9, ub9, av2, .inl ⟨rfl, rfl, rfl⟩, (fun i h => by cases h), (fun i h => by cases h), (fun i h => by cases h), (fun i h => by cases h), (fun i h h' => by cases h')⟩) ?_
  clear hruni2
  intro m_ fr19 τ8 hm
  rw [hJ] at hm
  clear f11 f3 f4 f6 f9 hK hN gb3 ub3 gb4 ub4 gb6 ub6 gb9 ub9 av2
  obtain ⟨t11, x2, v4, hruni2, f3, f4, f6, f9, f11, hK, hN, gb3, ub3, gb4, ub4, gb6, ub6, gb9, ub9, av2, av4, ev4b3, ev4b4, ev4b6, ev4b9, ev2v4⟩ := hm
  obtain ⟨F', ci2, rfl, hbi2, hci2⟩ := whileG_step hruni2
  simp only [b5_ref17_Made] at hbi2
  refine SW.seq ?_
  refine SW.seq ?_
  refine SW.regX (fun f_ t_ => τ8 = t_ ∧ f_ 3 = AV.ptr b3 0 ∧ f_ 4 = AV.ptr b4 0 ∧ f_ 6 = AV.ptr b6 0 ∧ f_ 9 = AV.ptr b9 0 ∧ f_ 11 = AV.int (t11) ∧ f_ 83 = AV.bool ((((decide (t11 < ((o.edges.length : Nat) : Int)))) && ((((decide (t11 < 10))) && ((decide (0 < ((t.edges.length : Nat) : Int))))))))) (fun M hM => ?_) (fun fr20 τz10 hm => ?_)
  ·rcases Bool.eq_false_or_eq_true ((decide (t11 < ((o.edges.length : Nat) : Int)))) with y0 | y0
   ·have y0' := y0
    try simp at y0'
    rcases Bool.eq_false_or_eq_true ((decide (t11 < 10))) with y2 | y2
    ·have y2' := y2
     try simp [y0'] at y2'
     simp [go_sem, f11, f3, f4, f6, f9, gb3, gb4, gb6, gb9, y0, y0', y2, y2']
     refine (hM _ _).2 ⟨rfl, ?_, ?_, ?_, ?_, ?_, ?_⟩ <;> simp [go_sem, f11, f3, f4, f6, f9, gb3, gb4, gb6, gb9, y0, y0', y2, y2']
    ·have y2' := y2
     try simp [y0'] at y2'
     simp [go_sem, f11, f3, f4, f6, f9, gb3, gb4, gb6, gb9, y0, y0', y2, y2']
     refine (hM _ _).2 ⟨rfl, ?_, ?_, ?_, ?_, ?_, ?_⟩ <;> simp [go_sem, f11, f3, f4, f6, f9, gb3, gb4, gb6, gb9, y0, y0', y2, y2']
   ·have y0' := y0
    try simp at y0'
    simp [go_sem, f11, f3, f4, f6, f9, gb3, gb4, gb6, gb9, y0, y0']
    refine (hM _ _).2 ⟨rfl, ?_, ?_, ?_, ?_, ?_, ?_⟩ <;> simp [go_sem, f11, f3, f4, f6, f9, gb3, gb4, gb6, gb9, y0, y0']
  clear f11 f3 f4 f6 f9
  obtain ⟨rfl, f3, f4, f6, f9, f11, f83⟩ := hm
  refine SW.cond _ f83 (fun hx3 => ?_) (fun hx3 => ?_)
  ·have hbi2 := condT hbi2 hx3
   refine SW.skip ?_
   refine SW.seq ?_
   refine SW.block ?_
   refine SW.seq ?_
   obtain ⟨x3, hx3, hbi2⟩ := obind hbi2
   have xpx3 := getI_pos hx3
   have xlx3 := getI_lt hx3
   have xix3 := getI_N hx3
   have xdx3 := getN_flat Ar3_IntC 3 (fun _ => rfl) xix3
   obtain ⟨z1, hz1, hbi2⟩ := obind hbi2
   have nz1 := nzI_spec hz1
   have mz1 := nz1
   try simp at mz1
   refine SW.regX (fun f_ t_ => τ8 = t_ ∧ f_ 3 = AV.ptr b3 0 ∧ f_ 4 = AV.ptr b4 0 ∧ f_ 6 = AV.ptr b6 0 ∧ f_ 9 = AV.ptr b9 0 ∧ f_ 11 = AV.int (t11) ∧ f_ 12 = AV.int ((Int.tmod ((IntKind.i64.wrap x3.a0)) (((t.edges.length : Nat) : Int))))) (fun M hM => ?_) (fun fr21 τz11 hm => ?_)
   ·refine EW_regionD (by kernel_rfl) (by kernel_rfl) ?_
    simp [go_sem, f11, f3, f4, f6, f83, f9, gb3, gb4, gb6, gb9, xpx3, xlx3, xdx3, Ar3_IntC, nz1, mz1]
    refine (hM _ _).2 ⟨rfl, ?_, ?_, ?_, ?_, ?_, ?_⟩ <;> simp [go_sem, f11, f3, f4, f6, f83, f9, gb3, gb4, gb6, gb9, xpx3, xlx3, xdx3, Ar3_IntC, nz1, mz1]
   clear f11 f3 f4 f6 f83 f9
   obtain ⟨rfl, f3, f4, f6, f9, f11, f12⟩ := hm
   refine SW.seq ?_
   obtain ⟨w1, nw1⟩ : ∃ w : Int, (Int.tmod ((IntKind.i64.wrap x3.a0)) (((t.edges.length : Nat) : Int))) = w := ⟨_, rfl⟩
   rw [nw1] at hbi2
   rw [nw1] at f12
   obtain ⟨x4, hx4, hbi2⟩ := obind hbi2
   have xpx4 := getI_pos hx4
   have xlx4 := getI_lt hx4
   have xix4 := getI_N hx4
   have xdx4 := getN_flat edgeC 7 (fun _ => rfl) xix4
   obtain ⟨rx, hrx, hbi2⟩ := obind hbi2
   obtain ⟨rx1, hrx1, hbi2⟩ := obind hbi2
   refine SW.regX (fun f_ t_ => ∃ v7 : AV, ∃ v8 : AV, f_ 3 = AV.ptr b3 0 ∧ f_ 4 = AV.ptr b4 0 ∧ f_ 6 = AV.ptr b6 0 ∧ f_ 9 = AV.ptr b9 0 ∧ f_ 11 = AV.int (t11) ∧ f_ 12 = AV.int (w1) ∧ f_ 13 = v7 ∧ f_ 14 = v8 ∧ Kept σ0 t_ ∧ σ0.next ≤ t_.next ∧ t_.get b3 = some [nodesA (t.nodes), edgesA (t.edges)] ∧ b3 < t_.next ∧ t_.get b4 = some [sl_Int_u8 (o.nodes), sl_Ar3_Int (o.edges)] ∧ b4 < t_.next ∧ t_.get b6 = some [AV.nils, AV.nils] ∧ b6 < t_.next ∧ t_.get b9 = some [v2, v4] ∧ b9 < t_.next ∧ ArrAt σ0.next t_ v7 3 (rx.map AV.int) rx.length 1 ∧ ArrAt σ0.next t_ v8 3 (rx1.map AV.int) rx1.length 1 ∧ ArrAt σ0.next t_ v2 3 (x1.map AV.int) x1.length 1 ∧ ArrAt σ0.next t_ v4 77 (x2.flatMap e3C) x2.length 3 ∧ (∀ i, idOf v7 = some i → ¬ i = b3) ∧ (∀ i, idOf v8 = some i → ¬ i = b3) ∧ (∀ i, idOf v7 = some i → ¬ i = b4) ∧ (∀ i, idOf v8 = some i → ¬ i = b4) ∧ (∀ i, idOf v7 = some i → ¬ i = b6) ∧ (∀ i, idOf v8 = some i → ¬ i = b6) ∧ (∀ i, idOf v7 = some i → ¬ i = b9) ∧ (∀ i, idOf v8 = some i → ¬ i = b9) ∧ Apart v7 v8 ∧ Apart v7 v2 ∧ Apart v8 v2 ∧ Apart v7 v4 ∧ Apart v8 v4) (fun M hM => ?_) (fun fr22 τ9 hm => ?_)
   ·have zv2 := av2
    rcases zv2 with ⟨rfl, nv2, mv2⟩ | ⟨ov2, rfl, gov2, tov2, lov2, hiv2⟩
    ·have zv4 := av4
     rcases zv4 with ⟨rfl, nv4, mv4⟩ | ⟨ov4, rfl, gov4, tov4, lov4, hiv4⟩
     ·refine EW_regionY τ8 20 (.q false 0 (.q false 1 (.q false 2 (.q false 3 (.q false 4 (.q false 5 (.q false 6 (.q false 7 (.q false 9 (.q false 10 (.q false 11 (.q false 12 (.q false 13 (.q false 14 (.q false 15 (.q false 16 (.s 8 (.s 17 (.q false 18 (.q false 19 .done)))))))))))))))))))) (by kernel_rfl) (by kernel_rfl) (fun _ _ h => h) (fun hfin => ?_)
      have hsub : Sub τ8 τ8 := (fun _ _ h => h)
      have nz_τ8 := Nat.le_refl τ8.next
      simp (maxDischargeDepth := 12) [go_sem, f11, f12, f3, f4, f6, f9, gb3, gb4, gb6, gb9, xpx4, xlx4, xdx4, edgeC, nw1, nv2, mv2, nv4, mv4, sub_set, sub_killAll, hsub]
      refine ⟨_, callA_own_args (fun σ => o_ref17_among F t (⟨x1, x2⟩ : Graph) x4.src _ hrx σ) (frzL_c (frz_aggL (frzL_c ((DataA.imm (DataL.flatMap gd_nodeC t.nodes)) _ _) (frzL_c ((DataA.imm (DataL.flatMap gd_edgeC t.edges)) _ _) (frzL_n)))) (frzL_c (frz_aggL (frzL_c (ArrAt.frzle av2 (Nat.zero_le _) (DataL.map (fun _ => .lit _) x1)) (frzL_c (ArrAt.frzle av4 (Nat.zero_le _) (DataL.flatMap gd_e3C x2)) (frzL_n)))) (frzL_c (.lit _) (frzL_n)))) (os_ref17_among _), ?_⟩
      rintro xq τc ⟨⟨v5, hxq, av5⟩, kc, nc⟩
      have nz_τc := Nat.le_trans nz_τ8 nc
      obtain rfl := hxq.symm
      have ks := kc
      have hsub : Sub τ8 τc := fun i cs h_ => ks.sub hfin i cs ((fun _ _ h => h) i cs h_)
      refine ⟨hsub, ?_⟩
      have hK := hK.trans kc hN
      have hN := Nat.le_trans hN nc
      have ev5b3 : ∀ i, idOf v5 = some i → ¬ i = b3 := fun i hi => by have := arrAt_lt av5 i hi; omega
      have ev5b4 : ∀ i, idOf v5 = some i → ¬ i = b4 := fun i hi => by have := arrAt_lt av5 i hi; omega
      have ev5b6 : ∀ i, idOf v5 = some i → ¬ i = b6 := fun i hi => by have := arrAt_lt av5 i hi; omega
      have ev5b9 : ∀ i, idOf v5 = some i → ¬ i = b9 := fun i hi => by have := arrAt_lt av5 i hi; omega
      have ev5v2 := apart_of av5 av2 (by omega)
      have ev5v4 := apart_of av5 av4 (by omega)
      have av2 := av2.same' nc (fun i hi => kc i (arrAt_lt av2 i hi).2)
      have av4 := av4.same' nc (fun i hi => kc i (arrAt_lt av4 i hi).2)
      have av5 := av5.lo (n1 := σ0.next) (by omega)
      have gb3 := (kc b3 ub3).1.trans gb3
      have ub3 := Nat.lt_of_lt_of_le ub3 nc
      have gb4 := (kc b4 ub4).1.trans gb4
      have ub4 := Nat.lt_of_lt_of_le ub4 nc
      have gb6 := (kc b6 ub6).1.trans gb6
      have ub6 := Nat.lt_of_lt_of_le ub6 nc
      have gb9 := (kc b9 ub9).1.trans gb9
      have ub9 := Nat.lt_of_lt_of_le ub9 nc
      simp [go_sem, f11, f12, f3, f4, f6, f9, gb3, gb4, gb6, gb9, xpx4, xlx4, xdx4, edgeC, nw1, nv2, mv2, nv4, mv4, sub_set, sub_killAll, hsub]
      refine ⟨_, callA_own_args (fun σ => o_ref17_among F t (⟨x1, x2⟩ : Graph) x4.tgt _ hrx1 σ) (frzL_c (frz_aggL (frzL_c ((DataA.imm (DataL.flatMap gd_nodeC t.nodes)) _ _) (frzL_c ((DataA.imm (DataL.flatMap gd_edgeC t.edges)) _ _) (frzL_n)))) (frzL_c (frz_aggL (frzL_c (ArrAt.frzle av2 (Nat.zero_le _) (DataL.map (fun _ => .lit _) x1)) (frzL_c (ArrAt.frzle av4 (Nat.zero_le _) (DataL.flatMap gd_e3C x2)) (frzL_n)))) (frzL_c (.lit _) (frzL_n)))) (os_ref17_among _), ?_⟩
      rintro xq τc1 ⟨⟨v6, hxq, av6⟩, kc, nc⟩
      have nz_τc1 := Nat.le_trans nz_τc nc
      obtain rfl := hxq.symm
      have ks := ks.trans kc (by omega)
      have hsub : Sub τ8 τc1 := fun i cs h_ => ks.sub hfin i cs ((fun _ _ h => h) i cs h_)
      refine ⟨hsub, ?_⟩
      have hK := hK.trans kc hN
      have hN := Nat.le_trans hN nc
      have ev6b3 : ∀ i, idOf v6 = some i → ¬ i = b3 := fun i hi => by have := arrAt_lt av6 i hi; omega
      have ev6b4 : ∀ i, idOf v6 = some i → ¬ i = b4 := fun i hi => by have := arrAt_lt av6 i hi; omega
      have ev6b6 : ∀ i, idOf v6 = some i → ¬ i = b6 := fun i hi => by have := arrAt_lt av6 i hi; omega
      have ev6b9 : ∀ i, idOf v6 = some i → ¬ i = b9 := fun i hi => by have := arrAt_lt av6 i hi; omega
      have ev6v2 := apart_of av6 av2 (by omega)
      have ev6v4 := apart_of av6 av4 (by omega)
      have ev6v5 := apart_of av6 av5 (by omega)
      have av2 := av2.same' nc (fun i hi => kc i (arrAt_lt av2 i hi).2)
      have av4 := av4.same' nc (fun i hi => kc i (arrAt_lt av4 i hi).2)
      have av5 := av5.same' nc (fun i hi => kc i (arrAt_lt av5 i hi).2)
      have av6 := av6.lo (n1 := σ0.next) (by omega)
      have gb3 := (kc b3 ub3).1.trans gb3
      have ub3 := Nat.lt_of_lt_of_le ub3 nc
      have gb4 := (kc b4 ub4).1.trans gb4
      have ub4 := Nat.lt_of_lt_of_le ub4 nc
      have gb6 := (kc b6 ub6).1.trans gb6
      have ub6 := Nat.lt_of_lt_of_le ub6 nc
      have gb9 := (kc b9 ub9).1.trans gb9
      have ub9 := Nat.lt_of_lt_of_le ub9 nc
      simp [go_sem, f11, f12, f3, f4, f6, f9, gb3, gb4, gb6, gb9, xpx4, xlx4, xdx4, edgeC, nw1, nv2, mv2, nv4, mv4, sub_set, sub_killAll, hsub]
      refine (hM _ _).2 ⟨v5, v6, ?_, ?_, ?_, ?_, ?_, ?_, ?_, ?_, by intro j hj; have hj_ := hK j hj; simp [go_sem, hj_.1, hj_.2], by first | omega | (simp [go_sem]; done) | (simp [go_sem]; omega), by simp (disch := omega) [get_alloc_ne, get_set_ne, get_kill_ne, go_sem, f11, f12, f3, f4, f6, f9, gb3, gb4, gb6, gb9, xpx4, xlx4, xdx4, edgeC, nw1, nv2, mv2, nv4, mv4, sub_set, sub_killAll, hsub], by first | omega | (simp [go_sem]; done) | (simp [go_sem]; omega), by simp (disch := omega) [get_alloc_ne, get_set_ne, get_kill_ne, go_sem, f11, f12, f3, f4, f6, f9, gb3, gb4, gb6, gb9, xpx4, xlx4, xdx4, edgeC, nw1, nv2, mv2, nv4, mv4, sub_set, sub_killAll, hsub], by first | omega | (simp [go_sem]; done) | (simp [go_sem]; omega), by simp (disch := omega) [get_alloc_ne, get_set_ne, get_kill_ne, go_sem, f11, f12, f3, f4, f6, f9, gb3, gb4, gb6, gb9, xpx4, xlx4, xdx4, edgeC, nw1, nv2, mv2, nv4, mv4, sub_set, sub_killAll, hsub], by first | omega | (simp [go_sem]; done) | (simp [go_sem]; omega), by simp (disch := omega) [get_alloc_ne, get_set_ne, get_kill_ne, go_sem, f11, f12, f3, f4, f6, f9, gb3, gb4, gb6, gb9, xpx4, xlx4, xdx4, edgeC, nw1, nv2, mv2, nv4, mv4, sub_set, sub_killAll, hsub], by first | omega | (simp [go_sem]; done) | (simp [go_sem]; omega), av5, av6, av2, av4, by first | exact ev5b3 | (intro i hi; have := arrAt_lt av5 i hi; omega), by first | exact ev6b3 | (intro i hi; have := arrAt_lt av6 i hi; omega), by first | exact ev5b4 | (intro i hi; have := arrAt_lt av5 i hi; omega), by first | exact ev6b4 | (intro i hi; have := arrAt_lt av6 i hi; omega), by first | exact ev5b6 | (intro i hi; have := arrAt_lt av5 i hi; omega), by first | exact ev6b6 | (intro i hi; have := arrAt_lt av6 i hi; omega), by first | exact ev5b9 | (intro i hi; have := arrAt_lt av5 i hi; omega), by first | exact ev6b9 | (intro i hi; have := arrAt_lt av6 i hi; omega), by first | exact ev5v6 | exact apart_symm ev6v5 | (intro i h1 h2; simp [idOf] at h1; done) | (intro i h1 h2; simp [idOf] at h2; done) | (intro i h1 h2; have := arrAt_lt av5 i h1; have := arrAt_lt av6 i h2; omega), by first | exact ev5v2 | exact apart_symm ev2v5 | (intro i h1 h2; simp [idOf] at h1; done) | (intro i h1 h2; simp [idOf] at h2; done) | (intro i h1 h2; have := arrAt_lt av5 i h1; have := arrAt_lt av2 i h2; omega), by first | exact ev6v2 | exact apart_symm ev2v6 | (intro i h1 h2; simp [idOf] at h1; done) | (intro i h1 h2; simp [idOf] at h2; done) | (intro i h1 h2; have := arrAt_lt av6 i h1; have := arrAt_lt av2 i h2; omega), by first | exact ev5v4 | exact apart_symm ev4v5 | (intro i h1 h2; simp [idOf] at h1; done) | (intro i h1 h2; simp [idOf] at h2; done) | (intro i h1 h2; have := arrAt_lt av5 i h1; have := arrAt_lt av4 i h2; omega), by first | exact ev6v4 | exact apart_symm ev4v6 | (intro i h1 h2; simp [idOf] at h1; done) | (intro i h1 h2; simp [idOf] at h2; done) | (intro i h1 h2; have := arrAt_lt av6 i h1; have := arrAt_lt av4 i h2; omega)⟩ <;> simp [go_sem, f11, f12, f3, f4, f6, f9, gb3, gb4, gb6, gb9, xpx4, xlx4, xdx4, edgeC, nw1, nv2, mv2, nv4, mv4, sub_set, sub_killAll, hsub]
     ·have Lv4 : (x2.flatMap e3C).length = x2.length * 3 := length_flatMap (f := e3C) (sz := 3) (fun _ => rfl) _
      have nv4_b3 : ¬ ov4 = b3 := ev4b3 _ rfl
      have nb3_v4 : ¬ b3 = ov4 := fun e => ev4b3 _ rfl e.symm
      have nv4_b4 : ¬ ov4 = b4 := ev4b4 _ rfl
      have nb4_v4 : ¬ b4 = ov4 := fun e => ev4b4 _ rfl e.symm
      have nv4_b6 : ¬ ov4 = b6 := ev4b6 _ rfl
      have nb6_v4 : ¬ b6 = ov4 := fun e => ev4b6 _ rfl e.symm
      have nv4_b9 : ¬ ov4 = b9 := ev4b9 _ rfl
      have nb9_v4 : ¬ b9 = ov4 := fun e => ev4b9 _ rfl e.symm
      refine EW_regionY τ8 20 (.q false 0 (.q false 1 (.q false 2 (.q false 3 (.q false 4 (.q false 5 (.q false 6 (.q false 7 (.q false 9 (.q false 10 (.q false 11 (.q false 12 (.q false 13 (.q false 14 (.q false 15 (.q false 16 (.s 8 (.s 17 (.q false 18 (.q false 19 .done)))))))))))))))))))) (by kernel_rfl) (by kernel_rfl) (fun _ _ h => h) (fun hfin => ?_)
      have hsub : Sub τ8 τ8 := (fun _ _ h => h)
      have nz_τ8 := Nat.le_refl τ8.next
      simp (maxDischargeDepth := 12) [go_sem, f11, f12, f3, f4, f6, f9, gb3, gb4, gb6, gb9, xpx4, xlx4, xdx4, edgeC, nw1, nv2, mv2, gov4, tov4, Lv4, nv4_b3, nb3_v4, nv4_b4, nb4_v4, nv4_b6, nb6_v4, nv4_b9, nb9_v4, sub_set, sub_killAll, hsub]
      refine ⟨_, callA_own_args (fun σ => o_ref17_among F t (⟨x1, x2⟩ : Graph) x4.src _ hrx σ) (frzL_c (frz_aggL (frzL_c ((DataA.imm (DataL.flatMap gd_nodeC t.nodes)) _ _) (frzL_c ((DataA.imm (DataL.flatMap gd_edgeC t.edges)) _ _) (frzL_n)))) (frzL_c (frz_aggL (frzL_c (ArrAt.frzle av2 (Nat.zero_le _) (DataL.map (fun _ => .lit _) x1)) (frzL_c (ArrAt.frzle av4 (Nat.zero_le _) (DataL.flatMap gd_e3C x2)) (frzL_n)))) (frzL_c (.lit _) (frzL_n)))) (os_ref17_among _), ?_⟩
      rintro xq τc ⟨⟨v5, hxq, av5⟩, kc, nc⟩
      have nz_τc := Nat.le_trans nz_τ8 nc
      obtain rfl := hxq.symm
      have ks := kc
      have hsub : Sub τ8 τc := fun i cs h_ => ks.sub hfin i cs ((fun _ _ h => h) i cs h_)
      refine ⟨hsub, ?_⟩
      have hK := hK.trans kc hN
      have hN := Nat.le_trans hN nc
      have ev5b3 : ∀ i, idOf v5 = some i → ¬ i = b3 := fun i hi => by have := arrAt_lt av5 i hi; omega
      have ev5b4 : ∀ i, idOf v5 = some i → ¬ i = b4 := fun i hi => by have := arrAt_lt av5 i hi; omega
      have ev5b6 : ∀ i, idOf v5 = some i → ¬ i = b6 := fun i hi => by have := arrAt_lt av5 i hi; omega
      have ev5b9 : ∀ i, idOf v5 = some i → ¬ i = b9 := fun i hi => by have := arrAt_lt av5 i hi; omega
      have ev5v2 := apart_of av5 av2 (by omega)
      have ev5v4 := apart_of av5 av4 (by omega)
      have av2 := av2.same' nc (fun i hi => kc i (arrAt_lt av2 i hi).2)
      have av4 := av4.same' nc (fun i hi => kc i (arrAt_lt av4 i hi).2)
      have av5 := av5.lo (n1 := σ0.next) (by omega)
      have gb3 := (kc b3 ub3).1.trans gb3
      have ub3 := Nat.lt_of_lt_of_le ub3 nc
      have gb4 := (kc b4 ub4).1.trans gb4
      have ub4 := Nat.lt_of_lt_of_le ub4 nc
      have gb6 := (kc b6 ub6).1.trans gb6
      have ub6 := Nat.lt_of_lt_of_le ub6 nc
      have gb9 := (kc b9 ub9).1.trans gb9
      have ub9 := Nat.lt_of_lt_of_le ub9 nc
      simp [go_sem, f11, f12, f3, f4, f6, f9, gb3, gb4, gb6, gb9, xpx4, xlx4, xdx4, edgeC, nw1, nv2, mv2, gov4, tov4, Lv4, nv4_b3, nb3_v4, nv4_b4, nb4_v4, nv4_b6, nb6_v4, nv4_b9, nb9_v4, sub_set, sub_killAll, hsub]
      refine ⟨_, callA_own_args (fun σ => o_ref17_among F t (⟨x1, x2⟩ : Graph) x4.tgt _ hrx1 σ) (frzL_c (frz_aggL (frzL_c ((DataA.imm (DataL.flatMap gd_nodeC t.nodes)) _ _) (frzL_c ((DataA.imm (DataL.flatMap gd_edgeC t.edges)) _ _) (frzL_n)))) (frzL_c (frz_aggL (frzL_c (ArrAt.frzle av2 (Nat.zero_le _) (DataL.map (fun _ => .lit _) x1)) (frzL_c (ArrAt.frzle av4 (Nat.zero_le _) (DataL.flatMap gd_e3C x2)) (frzL_n)))) (frzL_c (.lit _) (frzL_n)))) (os_ref17_among _), ?_⟩
      rintro xq τc1 ⟨⟨v6, hxq, av6⟩, kc, nc⟩
      have nz_τc1 := Nat.le_trans nz_τc nc
      obtain rfl := hxq.symm
      have ks := ks.trans kc (by omega)
      have hsub : Sub τ8 τc1 := fun i cs h_ => ks.sub hfin i cs ((fun _ _ h => h) i cs h_)
      refine ⟨hsub, ?_⟩
      have hK := hK.trans kc hN
      have hN := Nat.le_trans hN nc
      have ev6b3 : ∀ i, idOf v6 = some i → ¬ i = b3 := fun i hi => by have := arrAt_lt av6 i hi; omega
      have ev6b4 : ∀ i, idOf v6 = some i → ¬ i = b4 := fun i hi => by have := arrAt_lt av6 i hi; omega
      have ev6b6 : ∀ i, idOf v6 = some i → ¬ i = b6 := fun i hi => by have := arrAt_lt av6 i hi; omega
      have ev6b9 : ∀ i, idOf v6 = some i → ¬ i = b9 := fun i hi => by have := arrAt_lt av6 i hi; omega
      have ev6v2 := apart_of av6 av2 (by omega)
      have ev6v4 := apart_of av6 av4 (by omega)
      have ev6v5 := apart_of av6 av5 (by omega)
      have av2 := av2.same' nc (fun i hi => kc i (arrAt_lt av2 i hi).2)
      have av4 := av4.same' nc (fun i hi => kc i (arrAt_lt av4 i hi).2)
      have av5 := av5.same' nc (fun i hi => kc i (arrAt_lt av5 i hi).2)
      have av6 := av6.lo (n1 := σ0.next) (by omega)
      have gb3 := (kc b3 ub3).1.trans gb3
      have ub3 := Nat.lt_of_lt_of_le ub3 nc
      have gb4 := (kc b4 ub4).1.trans gb4
      have ub4 := Nat.lt_of_lt_of_le ub4 nc
      have gb6 := (kc b6 ub6).1.trans gb6
      have ub6 := Nat.lt_of_lt_of_le ub6 nc
      have gb9 := (kc b9 ub9).1.trans gb9
      have ub9 := Nat.lt_of_lt_of_le ub9 nc
      simp [go_sem, f11, f12, f3, f4, f6, f9, gb3, gb4, gb6, gb9, xpx4, xlx4, xdx4, edgeC, nw1, nv2, mv2, gov4, tov4, Lv4, nv4_b3, nb3_v4, nv4_b4, nb4_v4, nv4_b6, nb6_v4, nv4_b9, nb9_v4, sub_set, sub_killAll, hsub]
      refine (hM _ _).2 ⟨v5, v6, ?_, ?_, ?_, ?_, ?_, ?_, ?_, ?_, by intro j hj; have hj_ := hK j hj; simp [go_sem, hj_.1, hj_.2], by first | omega | (simp [go_sem]; done) | (simp [go_sem]; omega), by simp (disch := omega) [get_alloc_ne, get_set_ne, get_kill_ne, go_sem, f11, f12, f3, f4, f6, f9, gb3, gb4, gb6, gb9, xpx4, xlx4, xdx4, edgeC, nw1, nv2, mv2, gov4, tov4, Lv4, nv4_b3, nb3_v4, nv4_b4, nb4_v4, nv4_b6, nb6_v4, nv4_b9, nb9_v4, sub_set, sub_killAll, hsub], by first | omega | (simp [go_sem]; done) | (simp [go_sem]; omega), by simp (disch := omega) [get_alloc_ne, get_set_ne, get_kill_ne, go_sem, f11, f12, f3, f4, f6, f9, gb3, gb4, gb6, gb9, xpx4, xlx4, xdx4, edgeC, nw1, nv2, mv2, gov4, tov4, Lv4, nv4_b3, nb3_v4, nv4_b4, nb4_v4, nv4_b6, nb6_v4, nv4_b9, nb9_v4, sub_set, sub_killAll, hsub], by first | omega | (simp [go_sem]; done) | (simp [go_sem]; omega), by simp (disch := omega) [get_alloc_ne, get_set_ne, get_kill_ne, go_sem, f11, f12, f3, f4, f6, f9, gb3, gb4, gb6, gb9, xpx4, xlx4, xdx4, edgeC, nw1, nv2, mv2, gov4, tov4, Lv4, nv4_b3, nb3_v4, nv4_b4, nb4_v4, nv4_b6, nb6_v4, nv4_b9, nb9_v4, sub_set, sub_killAll, hsub], by first | omega | (simp [go_sem]; done) | (simp [go_sem]; omega), by simp (disch := omega) [get_alloc_ne, get_set_ne, get_kill_ne, go_sem, f11, f12, f3, f4, f6, f9, gb3, gb4, gb6, gb9, xpx4, xlx4, xdx4, edgeC, nw1, nv2, mv2, gov4, tov4, Lv4, nv4_b3, nb3_v4, nv4_b4, nb4_v4, nv4_b6, nb6_v4, nv4_b9, nb9_v4, sub_set, sub_killAll, hsub], by first | omega | (simp [go_sem]; done) | (simp [go_sem]; omega), av5, av6, av2, av4, by first | exact ev5b3 | (intro i hi; have := arrAt_lt av5 i hi; omega), by first | exact ev6b3 | (intro i hi; have := arrAt_lt av6 i hi; omega), by first | exact ev5b4 | (intro i hi; have := arrAt_lt av5 i hi; omega), by first | exact ev6b4 | (intro i hi; have := arrAt_lt av6 i hi; omega), by first | exact ev5b6 | (intro i hi; have := arrAt_lt av5 i hi; omega), by first | exact ev6b6 | (intro i hi; have := arrAt_lt av6 i hi; omega), by first | exact ev5b9 | (intro i hi; have := arrAt_lt av5 i hi; omega), by first | exact ev6b9 | (intro i hi; have := arrAt_lt av6 i hi; omega), by first | exact ev5v6 | exact apart_symm ev6v5 | (intro i h1 h2; simp [idOf] at h1; done) | (intro i h1 h2; simp [idOf] at h2; done) | (intro i h1 h2; have := arrAt_lt av5 i h1; have := arrAt_lt av6 i h2; omega), by first | exact ev5v2 | exact apart_symm ev2v5 | (intro i h1 h2; simp [idOf] at h1; done) | (intro i h1 h2; simp [idOf] at h2; done) | (intro i h1 h2; have := arrAt_lt av5 i h1; have := arrAt_lt av2 i h2; omega), by first | exact ev6v2 | exact apart_symm ev2v6 | (intro i h1 h2; simp [idOf] at h1; done) | (intro i h1 h2; simp [idOf] at h2; done) | (intro i h1 h2; have := arrAt_lt av6 i h1; have := arrAt_lt av2 i h2; omega), by first | exact ev5v4 | exact apart_symm ev4v5 | (intro i h1 h2; simp [idOf] at h1; done) | (intro i h1 h2; simp [idOf] at h2; done) | (intro i h1 h2; have := arrAt_lt av5 i h1; have := arrAt_lt av4 i h2; omega), by first | exact ev6v4 | exact apart_symm ev4v6 | (intro i h1 h2; simp [idOf] at h1; done) | (intro i h1 h2; simp [idOf] at h2; done) | (intro i h1 h2; have := arrAt_lt av6 i h1; have := arrAt_lt av4 i h2; omega)⟩ <;> simp [go_sem, f11, f12, f3, f4, f6, f9, gb3, gb4, gb6, gb9, xpx4, xlx4, xdx4, edgeC, nw1, nv2, mv2, gov4, tov4, Lv4, nv4_b3, nb3_v4, nv4_b4, nb4_v4, nv4_b6, nb6_v4, nv4_b9, nb9_v4, sub_set, sub_killAll, hsub]
    ·have nv2_b3 : ¬ ov2 = b3 := ev2b3 _ rfl
     have nb3_v2 : ¬ b3 = ov2 := fun e => ev2b3 _ rfl e.symm
     have nv2_b4 : ¬ ov2 = b4 := ev2b4 _ rfl
     have nb4_v2 : ¬ b4 = ov2 := fun e => ev2b4 _ rfl e.symm
     have nv2_b6 : ¬ ov2 = b6 := ev2b6 _ rfl
     have nb6_v2 : ¬ b6 = ov2 := fun e => ev2b6 _ rfl e.symm
     have nv2_b9 : ¬ ov2 = b9 := ev2b9 _ rfl
     have nb9_v2 : ¬ b9 = ov2 := fun e => ev2b9 _ rfl e.symm
     have zv4 := av4
     rcases zv4 with ⟨rfl, nv4, mv4⟩ | ⟨ov4, rfl, gov4, tov4, lov4, hiv4⟩
     ·refine EW_regionY τ8 20 (.q false 0 (.q false 1 (.q false 2 (.q false 3 (.q false 4 (.q false 5 (.q false 6 (.q false 7 (.q false 9 (.q false 10 (.q false 11 (.q false 12 (.q false 13 (.q false 14 (.q false 15 (.q false 16 (.s 8 (.s 17 (.q false 18 (.q false 19 .done)))))))))))))))))))) (by kernel_rfl) (by kernel_rfl) (fun _ _ h => h) (fun hfin => ?_)
      have hsub : Sub τ8 τ8 := (fun _ _ h => h)
      have nz_τ8 := Nat.le_refl τ8.next
      simp (maxDischargeDepth := 12) [go_sem, f11, f12, f3, f4, f6, f9, gb3, gb4, gb6, gb9, xpx4, xlx4, xdx4, edgeC, nw1, gov2, tov2, nv2_b3, nb3_v2, nv2_b4, nb4_v2, nv2_b6, nb6_v2, nv2_b9, nb9_v2, nv4, mv4, sub_set, sub_killAll, hsub]
      refine ⟨_, callA_own_args (fun σ => o_ref17_among F t (⟨x1, x2⟩ : Graph) x4.src _ hrx σ) (frzL_c (frz_aggL (frzL_c ((DataA.imm (DataL.flatMap gd_nodeC t.nodes)) _ _) (frzL_c ((DataA.imm (DataL.flatMap gd_edgeC t.edges)) _ _) (frzL_n)))) (frzL_c (frz_aggL (frzL_c (ArrAt.frzle av2 (Nat.zero_le _) (DataL.map (fun _ => .lit _) x1)) (frzL_c (ArrAt.frzle av4 (Nat.zero_le _) (DataL.flatMap gd_e3C x2)) (frzL_n)))) (frzL_c (.lit _) (frzL_n)))) (os_ref17_among _), ?_⟩
      rintro xq τc ⟨⟨v5, hxq, av5⟩, kc, nc⟩
      have nz_τc := Nat.le_trans nz_τ8 nc
      obtain rfl := hxq.symm
      have ks := kc
      have hsub : Sub τ8 τc := fun i cs h_ => ks.sub hfin i cs ((fun _ _ h => h) i cs h_)
      refine ⟨hsub, ?_⟩
      have hK := hK.trans kc hN
      have hN := Nat.le_trans hN nc
      have ev5b3 : ∀ i, idOf v5 = some i → ¬ i = b3 := fun i hi => by have := arrAt_lt av5 i hi; omega
      have ev5b4 : ∀ i, idOf v5 = some i → ¬ i = b4 := fun i hi => by have := arrAt_lt av5 i hi; omega
      have ev5b6 : ∀ i, idOf v5 = some i → ¬ i = b6 := fun i hi => by have := arrAt_lt av5 i hi; omega
      have ev5b9 : ∀ i, idOf v5 = some i → ¬ i = b9 := fun i hi => by have := arrAt_lt av5 i hi; omega
      have ev5v2 := apart_of av5 av2 (by omega)
      have ev5v4 := apart_of av5 av4 (by omega)
      have av2 := av2.same' nc (fun i hi => kc i (arrAt_lt av2 i hi).2)
      have av4 := av4.same' nc (fun i hi => kc i (arrAt_lt av4 i hi).2)
      have av5 := av5.lo (n1 := σ0.next) (by omega)
      have gb3 := (kc b3 ub3).1.trans gb3
      have ub3 := Nat.lt_of_lt_of_le ub3 nc
      have gb4 := (kc b4 ub4).1.trans gb4
      have ub4 := Nat.lt_of_lt_of_le ub4 nc
      have gb6 := (kc b6 ub6).1.trans gb6
      have ub6 := Nat.lt_of_lt_of_le ub6 nc
      have gb9 := (kc b9 ub9).1.trans gb9
      have ub9 := Nat.lt_of_lt_of_le ub9 nc
      simp [go_sem, f11, f12, f3, f4, f6, f9, gb3, gb4, gb6, gb9, xpx4, xlx4, xdx4, edgeC, nw1, gov2, tov2, nv2_b3, nb3_v2, nv2_b4, nb4_v2, nv2_b6, nb6_v2, nv2_b9, nb9_v2, nv4, mv4, sub_set, sub_killAll, hsub]
      refine ⟨_, callA_own_args (fun σ => o_ref17_among F t (⟨x1, x2⟩ : Graph) x4.tgt _ hrx1 σ) (frzL_c (frz_aggL (frzL_c ((DataA.imm (DataL.flatMap gd_nodeC t.nodes)) _ _) (frzL_c ((DataA.imm (DataL.flatMap gd_edgeC t.edges)) _ _) (frzL_n)))) (frzL_c (frz_aggL (frzL_c (ArrAt.frzle av2 (Nat.zero_le _) (DataL.map (fun _ => .lit _) x1)) (frzL_c (ArrAt.frzle av4 (Nat.zero_le _) (DataL.flatMap gd_e3C x2)) (frzL_n)))) (frzL_c (.lit _) (frzL_n)))) (os_ref17_among _), ?_⟩
      rintro xq τc1 ⟨⟨v6, hxq, av6⟩, kc, nc⟩
      have nz_τc1 := Nat.le_trans nz_τc nc
      obtain rfl := hxq.symm
      have ks := ks.trans kc (by omega)
      have hsub : Sub τ8 τc1 := fun i cs h_ => ks.sub hfin i cs ((fun _ _ h => h) i cs h_)
      refine ⟨hsub, ?_⟩
      have hK := hK.trans kc hN
      have hN := Nat.le_trans hN nc
      have ev6b3 : ∀ i, idOf v6 = some i → ¬ i = b3 := fun i hi => by have := arrAt_lt av6 i hi; omega
      have ev6b4 : ∀ i, idOf v6 = some i → ¬ i = b4 := fun i hi => by have := arrAt_lt av6 i hi; omega
      have ev6b6 : ∀ i, idOf v6 = some i → ¬ i = b6 := fun i hi => by have := arrAt_lt av6 i hi; omega
      have ev6b9 : ∀ i, idOf v6 = some i → ¬ i = b9 := fun i hi => by have := arrAt_lt av6 i hi; omega
      have ev6v2 := apart_of av6 av2 (by omega)
      have ev6v4 := apart_of av6 av4 (by omega)
      have ev6v5 := apart_of av6 av5 (by omega)
      have av2 := av2.same' nc (fun i hi => kc i (arrAt_lt av2 i hi).2)
      have av4 := av4.same' nc (fun i hi => kc i (arrAt_lt av4 i hi).2)
      have av5 := av5.same' nc (fun i hi => kc i (arrAt_lt av5 i hi).2)
      have av6 := av6.lo (n1 := σ0.next) (by omega)
      have gb3 := (kc b3 ub3).1.trans gb3
      have ub3 := Nat.lt_of_lt_of_le ub3 nc
      have gb4 := (kc b4 ub4).1.trans gb4
      have ub4 := Nat.lt_of_lt_of_le ub4 nc
      have gb6 := (kc b6 ub6).1.trans gb6
      have ub6 := Nat.lt_of_lt_of_le ub6 nc
      have gb9 := (kc b9 ub9).1.trans gb9
      have ub9 := Nat.lt_of_lt_of_le ub9 nc
      simp [go_sem, f11, f12, f3, f4, f6, f9, gb3, gb4, gb6, gb9, xpx4, xlx4, xdx4, edgeC, nw1, gov2, tov2, nv2_b3, nb3_v2, nv2_b4, nb4_v2, nv2_b6, nb6_v2, nv2_b9, nb9_v2, nv4, mv4, sub_set, sub_killAll, hsub]
      refine (hM _ _).2 ⟨v5, v6, ?_, ?_, ?_, ?_, ?_, ?_, ?_, ?_, by intro j hj; have hj_ := hK j hj; simp [go_sem, hj_.1, hj_.2], by first | omega | (simp [go_sem]; done) | (simp [go_sem]; omega), by simp (disch := omega) [get_alloc_ne, get_set_ne, get_kill_ne, go_sem, f11, f12, f3, f4, f6, f9, gb3, gb4, gb6, gb9, xpx4, xlx4, xdx4, edgeC, nw1, gov2, tov2, nv2_b3, nb3_v2, nv2_b4, nb4_v2, nv2_b6, nb6_v2, nv2_b9, nb9_v2, nv4, mv4, sub_set, sub_killAll, hsub], by first | omega | (simp [go_sem]; done) | (simp [go_sem]; omega), by simp (disch := omega) [get_alloc_ne, get_set_ne, get_kill_ne, go_sem, f11, f12, f3, f4, f6, f9, gb3, gb4, gb6, gb9, xpx4, xlx4, xdx4, edgeC, nw1, gov2, tov2, nv2_b3, nb3_v2, nv2_b4, nb4_v2, nv2_b6, nb6_v2, nv2_b9, nb9_v2, nv4, mv4, sub_set, sub_killAll, hsub], by first | omega | (simp [go_sem]; done) | (simp [go_sem]; omega), by simp (disch := omega) [get_alloc_ne, get_set_ne, get_kill_ne, go_sem, f11, f12, f3, f4, f6, f9, gb3, gb4, gb6, gb9, xpx4, xlx4, xdx4, edgeC, nw1, gov2, tov2, nv2_b3, nb3_v2, nv2_b4, nb4_v2, nv2_b6, nb6_v2, nv2_b9, nb9_v2, nv4, mv4, sub_set, sub_killAll, hsub], by first | omega | (simp [go_sem]; done) | (simp [go_sem]; omega), by simp (disch := omega) [get_alloc_ne, get_set_ne, get_kill_ne, go_sem, f11, f12, f3, f4, f6, f9, gb3, gb4, gb6, gb9, xpx4, xlx4, xdx4, edgeC, nw1, gov2, tov2, nv2_b3, nb3_v2, nv2_b4, nb4_v2, nv2_b6, nb6_v2, nv2_b9, nb9_v2, nv4, mv4, sub_set, sub_killAll, hsub], by first | omega | (simp [go_sem]; done) | (simp [go_sem]; omega), av5, av6, av2, av4, by first | exact ev5b3 | (intro i hi; have := arrAt_lt av5 i hi; omega), by first | exact ev6b3 | (intro i hi; have := arrAt_lt av6 i hi; omega), by first | exact ev5b4 | (intro i hi; have := arrAt_lt av5 i hi; omega), by first | exact ev6b4 | (intro i hi; have := arrAt_lt av6 i hi; omega), by first | exact ev5b6 | (intro i hi; have := arrAt_lt av5 i hi; omega), by first | exact ev6b6 | (intro i hi; have := arrAt_lt av6 i hi; omega), by first | exact ev5b9 | (intro i hi; have := arrAt_lt av5 i hi; omega), by first | exact ev6b9 | (intro i hi; have := arrAt_lt av6 i hi; omega), by first | exact ev5v6 | exact apart_symm ev6v5 | (intro i h1 h2; simp [idOf] at h1; done) | (intro i h1 h2; simp [idOf] at h2; done) | (intro i h1 h2; have := arrAt_lt av5 i h1; have := arrAt_lt av6 i h2; omega), by first | exact ev5v2 | exact apart_symm ev2v5 | (intro i h1 h2; simp [idOf] at h1; done) | (intro i h1 h2; simp [idOf] at h2; done) | (intro i h1 h2; have := arrAt_lt av5 i h1; have := arrAt_lt av2 i h2; omega), by first | exact ev6v2 | exact apart_symm ev2v6 | (intro i h1 h2; simp [idOf] at h1; done) | (intro i h1 h2; simp [idOf] at h2; done) | (intro i h1 h2; have := arrAt_lt av6 i h1; have := arrAt_lt av2 i h2; omega), by first | exact ev5v4 | exact apart_symm ev4v5 | (intro i h1 h2; simp [idOf] at h1; done) | (intro i h1 h2; simp [idOf] at h2; done) | (intro i h1 h2; have := arrAt_lt av5 i h1; have := arrAt_lt av4 i h2; omega), by first | exact ev6v4 | exact apart_symm ev4v6 | (intro i h1 h2; simp [idOf] at h1; done) | (intro i h1 h2; simp [idOf] at h2; done) | (intro i h1 h2; have := arrAt_lt av6 i h1; have := arrAt_lt av4 i h2; omega)⟩ <;> simp [go_sem, f11, f12, f3, f4, f6, f9, gb3, gb4, gb6, gb9, xpx4, xlx4, xdx4, edgeC, nw1, gov2, tov2, nv2_b3, nb3_v2, nv2_b4, nb4_v2, nv2_b6, nb6_v2, nv2_b9, nb9_v2, nv4, mv4, sub_set, sub_killAll, hsub]
     ·have Lv4 : (x2.flatMap e3C).length = x2.length * 3 := length_flatMap (f := e3C) (sz := 3) (fun _ => rfl) _
      have nv4_v2 : ¬ ov4 = ov2 := by first | exact apart_ne ev2v4 rfl | exact apart_ne (apart_symm ev4v2) rfl
      have nv2_v4 := fun e => nv4_v2 (Eq.symm e)
      have nv4_b3 : ¬ ov4 = b3 := ev4b3 _ rfl
      have nb3_v4 : ¬ b3 = ov4 := fun e => ev4b3 _ rfl e.symm
      have nv4_b4 : ¬ ov4 = b4 := ev4b4 _ rfl
      have nb4_v4 : ¬ b4 = ov4 := fun e => ev4b4 _ rfl e.symm
      have nv4_b6 : ¬ ov4 = b6 := ev4b6 _ rfl
      have nb6_v4 : ¬ b6 = ov4 := fun e => ev4b6 _ rfl e.symm
      have nv4_b9 : ¬ ov4 = b9 := ev4b9 _ rfl
      have nb9_v4 : ¬ b9 = ov4 := fun e => ev4b9 _ rfl e.symm
      refine EW_regionY τ8 20 (.q false 0 (.q false 1 (.q false 2 (.q false 3 (.q false 4 (.q false 5 (.q false 6 (.q false 7 (.q false 9 (.q false 10 (.q false 11 (.q false 12 (.q false 13 (.q false 14 (.q false 15 (.q false 16 (.s 8 (.s 17 (.q false 18 (.q false 19 .done)))))))))))))))))))) (by kernel_rfl) (by kernel_rfl) (fun _ _ h => h) (fun hfin => ?_)
      have hsub : Sub τ8 τ8 := (fun _ _ h => h)
      have nz_τ8 := Nat.le_refl τ8.next
      simp (maxDischargeDepth := 12) [go_sem, f11, f12, f3, f4, f6, f9, gb3, gb4, gb6, gb9, xpx4, xlx4, xdx4, edgeC, nw1, gov2, tov2, nv2_b3, nb3_v2, nv2_b4, nb4_v2, nv2_b6, nb6_v2, nv2_b9, nb9_v2, gov4, tov4, Lv4, nv4_v2, nv2_v4, nv4_b3, nb3_v4, nv4_b4, nb4_v4, nv4_b6, nb6_v4, nv4_b9, nb9_v4, sub_set, sub_killAll, hsub]
      refine ⟨_, callA_own_args (fun σ => o_ref17_among F t (⟨x1, x2⟩ : Graph) x4.src _ hrx σ) (frzL_c (frz_aggL (frzL_c ((DataA.imm (DataL.flatMap gd_nodeC t.nodes)) _ _) (frzL_c ((DataA.imm (DataL.flatMap gd_edgeC t.edges)) _ _) (frzL_n)))) (frzL_c (frz_aggL (frzL_c (ArrAt.frzle av2 (Nat.zero_le _) (DataL.map (fun _ => .lit _) x1)) (frzL_c (ArrAt.frzle av4 (Nat.zero_le _) (DataL.flatMap gd_e3C x2)) (frzL_n)))) (frzL_c (.lit _) (frzL_n)))) (os_ref17_among _), ?_⟩
      rintro xq τc ⟨⟨v5, hxq, av5⟩, kc, nc⟩
      have nz_τc := Nat.le_trans nz_τ8 nc
      obtain rfl := hxq.symm
      have ks := kc
      have hsub : Sub τ8 τc := fun i cs h_ => ks.sub hfin i cs ((fun _ _ h => h) i cs h_)
      refine ⟨hsub, ?_⟩
      have hK := hK.trans kc hN
      have hN := Nat.le_trans hN nc
      have ev5b3 : ∀ i, idOf v5 = some i → ¬ i = b3 := fun i hi => by have := arrAt_lt av5 i hi; omega
      have ev5b4 : ∀ i, idOf v5 = some i → ¬ i = b4 := fun i hi => by have := arrAt_lt av5 i hi; omega
      have ev5b6 : ∀ i, idOf v5 = some i → ¬ i = b6 := fun i hi => by have := arrAt_lt av5 i hi; omega
      have ev5b9 : ∀ i, idOf v5 = some i → ¬ i = b9 := fun i hi => by have := arrAt_lt av5 i hi; omega
      have ev5v2 := apart_of av5 av2 (by omega)
      have ev5v4 := apart_of av5 av4 (by omega)
      have av2 := av2.same' nc (fun i hi => kc i (arrAt_lt av2 i hi).2)
      have av4 := av4.same' nc (fun i hi => kc i (arrAt_lt av4 i hi).2)
      have av5 := av5.lo (n1 := σ0.next) (by omega)
      have gb3 := (kc b3 ub3).1.trans gb3
      have ub3 := Nat.lt_of_lt_of_le ub3 nc
      have gb4 := (kc b4 ub4).1.trans gb4
      have ub4 := Nat.lt_of_lt_of_le ub4 nc
      have gb6 := (kc b6 ub6).1.trans gb6
      have ub6 := Nat.lt_of_lt_of_le ub6 nc
      have gb9 := (kc b9 ub9).1.trans gb9
      have ub9 := Nat.lt_of_lt_of_le ub9 nc
      simp [go_sem, f11, f12, f3, f4, f6, f9, gb3, gb4, gb6, gb9, xpx4, xlx4, xdx4, edgeC, nw1, gov2, tov2, nv2_b3, nb3_v2, nv2_b4, nb4_v2, nv2_b6, nb6_v2, nv2_b9, nb9_v2, gov4, tov4, Lv4, nv4_v2, nv2_v4, nv4_b3, nb3_v4, nv4_b4, nb4_v4, nv4_b6, nb6_v4, nv4_b9, nb9_v4, sub_set, sub_killAll, hsub]
      refine ⟨_, callA_own_args (fun σ => o_ref17_among F t (⟨x1, x2⟩ : Graph) x4.tgt _ hrx1 σ) (frzL_c (frz_aggL (frzL_c ((DataA.imm (DataL.flatMap gd_nodeC t.nodes)) _ _) (frzL_c ((DataA.imm (DataL.flatMap gd_edgeC t.edges)) _ _) (frzL_n)))) (frzL_c (frz_aggL (frzL_c (ArrAt.frzle av2 (Nat.zero_le _) (DataL.map (fun _ => .lit _) x1)) (frzL_c (ArrAt.frzle av4 (Nat.zero_le _) (DataL.flatMap gd_e3C x2)) (frzL_n)))) (frzL_c (.lit _) (frzL_n)))) (os_ref17_among _), ?_⟩
      rintro xq τc1 ⟨⟨v6, hxq, av6⟩, kc, nc⟩
      have nz_τc1 := Nat.le_trans nz_τc nc
      obtain rfl := hxq.symm
      have ks := ks.trans kc (by omega)
      have hsub : Sub τ8 τc1 := fun i cs h_ => ks.sub hfin i cs ((fun _ _ h => h) i cs h_)
      refine ⟨hsub, ?_⟩
      have hK := hK.trans kc hN
      have hN := Nat.le_trans hN nc
      have ev6b3 : ∀ i, idOf v6 = some i → ¬ i = b3 := fun i hi => by have := arrAt_lt av6 i hi; omega
      have ev6b4 : ∀ i, idOf v6 = some i → ¬ i = b4 := fun i hi => by have := arrAt_lt av6 i hi; omega
      have ev6b6 : ∀ i, idOf v6 = some i → ¬ i = b6 := fun i hi => by have := arrAt_lt av6 i hi; omega
      have ev6b9 : ∀ i, idOf v6 = some i → ¬ i = b9 := fun i hi => by have := arrAt_lt av6 i hi; omega
      have ev6v2 := apart_of av6 av2 (by omega)
      have ev6v4 := apart_of av6 av4 (by omega)
      have ev6v5 := apart_of av6 av5 (by omega)
      have av2 := av2.same' nc (fun i hi => kc i (arrAt_lt av2 i hi).2)
      have av4 := av4.same' nc (fun i hi => kc i (arrAt_lt av4 i hi).2)
      have av5 := av5.same' nc (fun i hi => kc i (arrAt_lt av5 i hi).2)
      have av6 := av6.lo (n1 := σ0.next) (by omega)
      have gb3 := (kc b3 ub3).1.trans gb3
      have ub3 := Nat.lt_of_lt_of_le ub3 nc
      have gb4 := (kc b4 ub4).1.trans gb4
      have ub4 := Nat.lt_of_lt_of_le ub4 nc
      have gb6 := (kc b6 ub6).1.trans gb6
      have ub6 := Nat.lt_of_lt_of_le ub6 nc
      have gb9 := (kc b9 ub9).1.trans gb9
      have ub9 := Nat.lt_of_lt_of_le ub9 nc
      simp [go_sem, f11, f12, f3, f4, f6, f9, gb3, gb4, gb6, gb9, xpx4, xlx4, xdx4, edgeC, nw1, gov2, tov2, nv2_b3, nb3_v2, nv2_b4, nb4_v2, nv2_b6, nb6_v2, nv2_b9, nb9_v2, gov4, tov4, Lv4, nv4_v2, nv2_v4, nv4_b3, nb3_v4, nv4_b4, nb4_v4, nv4_b6, nb6_v4, nv4_b9, nb9_v4, sub_set, sub_killAll, hsub]
      refine (hM _ _).2 ⟨v5, v6, ?_, ?_, ?_, ?_, ?_, ?_, ?_, ?_, by intro j hj; have hj_ := hK j hj; simp [go_sem, hj_.1, hj_.2], by first | omega | (simp [go_sem]; done) | (simp [go_sem]; omega), by simp (disch := omega) [get_alloc_ne, get_set_ne, get_kill_ne, go_sem, f11, f12, f3, f4, f6, f9, gb3, gb4, gb6, gb9, xpx4, xlx4, xdx4, edgeC, nw1, gov2, tov2, nv2_b3, nb3_v2, nv2_b4, nb4_v2, nv2_b6, nb6_v2, nv2_b9, nb9_v2, gov4, tov4, Lv4, nv4_v2, nv2_v4, nv4_b3, nb3_v4, nv4_b4, nb4_v4, nv4_b6, nb6_v4, nv4_b9, nb9_v4, sub_set, sub_killAll, hsub], by first | omega | (simp [go_sem]; done) | (simp [go_sem]; omega), by simp (disch := omega) [get_alloc_ne, get_set_ne, get_kill_ne, go_sem, f11, f12, f3, f4, f6, f9, gb3, gb4, gb6, gb9, xpx4, xlx4, xdx4, edgeC, nw1, gov2, tov2, nv2_b3, nb3_v2, nv2_b4, nb4_v2, nv2_b6, nb6_v2, nv2_b9, nb9_v2, gov4, tov4, Lv4, nv4_v2, nv2_v4, nv4_b3, nb3_v4, nv4_b4, nb4_v4, nv4_b6, nb6_v4, nv4_b9, nb9_v4, sub_set, sub_killAll, hsub], by first | omega | (simp [go_sem]; done) | (simp [go_sem]; omega), by simp (disch := omega) [get_alloc_ne, get_set_ne, get_kill_ne, go_sem, f11, f12, f3, f4, f6, f9, gb3, gb4, gb6, gb9, xpx4, xlx4, xdx4, edgeC, nw1, gov2, tov2, nv2_b3, nb3_v2, nv2_b4, nb4_v2, nv2_b6, nb6_v2, nv2_b9, nb9_v2, gov4, tov4, Lv4, nv4_v2, nv2_v4, nv4_b3, nb3_v4, nv4_b4, nb4_v4, nv4_b6, nb6_v4, nv4_b9, nb9_v4, sub_set, sub_killAll, hsub], by first | omega | (simp [go_sem]; done) | (simp [go_sem]; omega), by simp (disch := omega) [get_alloc_ne, get_set_ne, get_kill_ne, go_sem, f11, f12, f3, f4, f6, f9, gb3, gb4, gb6, gb9, xpx4, xlx4, xdx4, edgeC, nw1, gov2, tov2, nv2_b3, nb3_v2, nv2_b4, nb4_v2, nv2_b6, nb6_v2, nv2_b9, nb9_v2, gov4, tov4, Lv4, nv4_v2, nv2_v4, nv4_b3, nb3_v4, nv4_b4, nb4_v4, nv4_b6, nb6_v4, nv4_b9, nb9_v4, sub_set, sub_killAll, hsub], by first | omega | (simp [go_sem]; done) | (simp [go_sem]; omega), av5, av6, av2, av4, by first | exact ev5b3 | (intro i hi; have := arrAt_lt av5 i hi; omega), by first | exact ev6b3 | (intro i hi; have := arrAt_lt av6 i hi; omega), by first | exact ev5b4 | (intro i hi; have := arrAt_lt av5 i hi; omega), by first | exact ev6b4 | (intro i hi; have := arrAt_lt av6 i hi; omega), by first | exact ev5b6 | (intro i hi; have := arrAt_lt av5 i hi; omega), by first | exact ev6b6 | (intro i hi; have := arrAt_lt av6 i hi; omega), by first | exact ev5b9 | (intro i hi; have := arrAt_lt av5 i hi; omega), by first | exact ev6b9 | (intro i hi; have := arrAt_lt av6 i hi; omega), by first | exact ev5v6 | exact apart_symm ev6v5 | (intro i h1 h2; simp [idOf] at h1; done) | (intro i h1 h2; simp [idOf] at h2; done) | (intro i h1 h2; have := arrAt_lt av5 i h1; have := arrAt_lt av6 i h2; omega), by first | exact ev5v2 | exact apart_symm ev2v5 | (intro i h1 h2; simp [idOf] at h1; done) | (intro i h1 h2; simp [idOf] at h2; done) | (intro i h1 h2; have := arrAt_lt av5 i h1; have := arrAt_lt av2 i h2; omega), by first | exact ev6v2 | exact apart_symm ev2v6 | (intro i h1 h2; simp [idOf] at h1; done) | (intro i h1 h2; simp [idOf] at h2; done) | (intro i h1 h2; have := arrAt_lt av6 i h1; have := arrAt_lt av2 i h2; omega), by first | exact ev5v4 | exact apart_symm ev4v5 | (intro i h1 h2; simp [idOf] at h1; done) | (intro i h1 h2; simp [idOf] at h2; done) | (intro i h1 h2; have := arrAt_lt av5 i h1; have := arrAt_lt av4 i h2; omega), by first | exact ev6v4 | exact apart_symm ev4v6 | (intro i h1 h2; simp [idOf] at h1; done) | (intro i h1 h2; simp [idOf] at h2; done) | (intro i h1 h2; have := arrAt_lt av6 i h1; have := arrAt_lt av4 i h2; omega)⟩ <;> simp [go_sem, f11, f12, f3, f4, f6, f9, gb3, gb4, gb6, gb9, xpx4, xlx4, xdx4, edgeC, nw1, gov2, tov2, nv2_b3, nb3_v2, nv2_b4, nb4_v2, nv2_b6, nb6_v2, nv2_b9, nb9_v2, gov4, tov4, Lv4, nv4_v2, nv2_v4, nv4_b3, nb3_v4, nv4_b4, nb4_v4, nv4_b6, nb6_v4, nv4_b9, nb9_v4, sub_set, sub_killAll, hsub]
   clear f11 f12 f3 f4 f6 f9 hK hN gb3 ub3 gb4 ub4 gb6 ub6 gb9 ub9 av2 av4
   obtain ⟨v7, v8, f3, f4, f6, f9, f11, f12, f13, f14, hK, hN, gb3, ub3, gb4, ub4, gb6, ub6, gb9, ub9, av7, av8, av2, av4, ev7b3, ev8b3, ev7b4, ev8b4, ev7b6, ev8b6, ev7b9, ev8b9, ev7v8, ev7v2, ev8v2, ev7v4, ev8v4⟩ := hm
   refine SW.seq ?_
   refine SW.regX (fun f_ t_ => τ9 = t_ ∧ f_ 3 = AV.ptr b3 0 ∧ f_ 4 = AV.ptr b4 0 ∧ f_ 6 = AV.ptr b6 0 ∧ f_ 9 = AV.ptr b9 0 ∧ f_ 11 = AV.int (t11) ∧ f_ 12 = AV.int (w1) ∧ f_ 13 = v7 ∧ f_ 14 = v8 ∧ f_ 122 = AV.bool ((((decide (0 < ((rx.length : Nat) : Int)))) && ((decide (0 < ((rx1.length : Nat) : Int))))))) (fun M hM => ?_) (fun fr23 τz12 hm => ?_)
   ·rcases Bool.eq_false_or_eq_true ((decide (0 < ((rx.length : Nat) : Int)))) with y0 | y0
    ·have y0' := y0
     try simp at y0'
     have zv7 := av7
     rcases zv7 with ⟨rfl, nv7, mv7⟩ | ⟨ov7, rfl, gov7, tov7, lov7, hiv7⟩
     ·have zyv7y0 := y0
      try rw [nv7] at zyv7y0
      try simp only [List.length_nil, Int.natCast_zero] at zyv7y0
      have zv8 := av8
      rcases zv8 with ⟨rfl, nv8, mv8⟩ | ⟨ov8, rfl, gov8, tov8, lov8, hiv8⟩
      ·have zyv8y0 := y0
       try rw [nv8] at zyv8y0
       try simp only [List.length_nil, Int.natCast_zero] at zyv8y0
       simp [go_sem, f11, f12, f13, f14, f3, f4, f6, f9, gb3, gb4, gb6, gb9, y0, y0', nv7, mv7, zyv7y0, nv8, mv8, zyv8y0]
       refine (hM _ _).2 ⟨rfl, ?_, ?_, ?_, ?_, ?_, ?_, ?_, ?_, ?_⟩ <;> simp [go_sem, f11, f12, f13, f14, f3, f4, f6, f9, gb3, gb4, gb6, gb9, y0, y0', nv7, mv7, zyv7y0, nv8, mv8, zyv8y0]
      ·simp [go_sem, f11, f12, f13, f14, f3, f4, f6, f9, gb3, gb4, gb6, gb9, y0, y0', nv7, mv7, zyv7y0, gov8, tov8]
       refine (hM _ _).2 ⟨rfl, ?_, ?_, ?_, ?_, ?_, ?_, ?_, ?_, ?_⟩ <;> simp [go_sem, f11, f12, f13, f14, f3, f4, f6, f9, gb3, gb4, gb6, gb9, y0, y0', nv7, mv7, zyv7y0, gov8, tov8]
     ·have zv8 := av8
      rcases zv8 with ⟨rfl, nv8, mv8⟩ | ⟨ov8, rfl, gov8, tov8, lov8, hiv8⟩
      ·have zyv8y0 := y0
       try rw [nv8] at zyv8y0
       try simp only [List.length_nil, Int.natCast_zero] at zyv8y0
       simp [go_sem, f11, f12, f13, f14, f3, f4, f6, f9, gb3, gb4, gb6, gb9, y0, y0', gov7, tov7, nv8, mv8, zyv8y0]
       refine (hM _ _).2 ⟨rfl, ?_, ?_, ?_, ?_, ?_, ?_, ?_, ?_, ?_⟩ <;> simp [go_sem, f11, f12, f13, f14, f3, f4, f6, f9, gb3, gb4, gb6, gb9, y0, y0', gov7, tov7, nv8, mv8, zyv8y0]
      ·simp [go_sem, f11, f12, f13, f14, f3, f4, f6, f9, gb3, gb4, gb6, gb9, y0, y0', gov7, tov7, gov8, tov8]
       refine (hM _ _).2 ⟨rfl, ?_, ?_, ?_, ?_, ?_, ?_, ?_, ?_, ?_⟩ <;> simp [go_sem, f11, f12, f13, f14, f3, f4, f6, f9, gb3, gb4, gb6, gb9, y0, y0', gov7, tov7, gov8, tov8]
    ·have y0' := y0
     try simp at y0'
     have zv7 := av7
     rcases zv7 with ⟨rfl, nv7, mv7⟩ | ⟨ov7, rfl, gov7, tov7, lov7, hiv7⟩
     ·have zyv7y0 := y0
      try rw [nv7] at zyv7y0
      try simp only [List.length_nil, Int.natCast_zero] at zyv7y0
      simp [go_sem, f11, f12, f13, f14, f3, f4, f6, f9, gb3, gb4, gb6, gb9, y0, y0', nv7, mv7, zyv7y0]
      refine (hM _ _).2 ⟨rfl, ?_, ?_, ?_, ?_, ?_, ?_, ?_, ?_, ?_⟩ <;> simp [go_sem, f11, f12, f13, f14, f3, f4, f6, f9, gb3, gb4, gb6, gb9, y0, y0', nv7, mv7, zyv7y0]
     ·simp [go_sem, f11, f12, f13, f14, f3, f4, f6, f9, gb3, gb4, gb6, gb9, y0, y0', gov7, tov7]
      refine (hM _ _).2 ⟨rfl, ?_, ?_, ?_, ?_, ?_, ?_, ?_, ?_, ?_⟩ <;> simp [go_sem, f11, f12, f13, f14, f3, f4, f6, f9, gb3, gb4, gb6, gb9, y0, y0', gov7, tov7]
   clear f11 f12 f13 f14 f3 f4 f6 f9
   obtain ⟨rfl, f3, f4, f6, f9, f11, f12, f13, f14, f122⟩ := hm
   refine SW.cond _ f122 (fun hx4 => ?_) (fun hx4 => ?_)
   ·have hbi2 := condT hbi2 hx4
    obtain ⟨z2, hz2, hbi2⟩ := obind hbi2
    have nz2 := nzI_spec hz2
    have mz2 := nz2
    try simp at mz2
    obtain ⟨w2, nw2⟩ : ∃ w : Int, (Int.tmod ((IntKind.i64.wrap x3.a1)) (((rx.length : Nat) : Int))) = w := ⟨_, rfl⟩
    rw [nw2] at hbi2
    obtain ⟨n2, hn2, hbi2⟩ := obind hbi2
    have xpn2 := getI_pos hn2
    have xln2 := getI_lt hn2
    have xin2 := getI_N hn2
    have xdn2 := getN_map AV.int xin2
    have xon2 : (rx.map AV.int).length = rx.length * 1 := by simp
    obtain ⟨z3, hz3, hbi2⟩ := obind hbi2
    have nz3 := nzI_spec hz3
    have mz3 := nz3
    try simp at mz3
    obtain ⟨w3, nw3⟩ : ∃ w : Int, (Int.tmod ((IntKind.i64.wrap x3.a2)) (((rx1.length : Nat) : Int))) = w := ⟨_, rfl⟩
    rw [nw3] at hbi2
    obtain ⟨n3, hn3, hbi2⟩ := obind hbi2
    have xpn3 := getI_pos hn3
    have xln3 := getI_lt hn3
    have xin3 := getI_N hn3
    have xdn3 := getN_map AV.int xin3
    have xon3 : (rx1.map AV.int).length = rx1.length * 1 := by simp
    obtain ⟨a2, ha2, hbi2⟩ := obind hbi2
    obtain ⟨la2, ea2⟩ := catL_spec ha2
    refine SW.regX (fun f_ t_ => ∃ v9 : AV, f_ 3 = AV.ptr b3 0 ∧ f_ 4 = AV.ptr b4 0 ∧ f_ 6 = AV.ptr b6 0 ∧ f_ 9 = AV.ptr b9 0 ∧ f_ 11 = AV.int (t11) ∧ Kept σ0 t_ ∧ σ0.next ≤ t_.next ∧ t_.get b3 = some [nodesA (t.nodes), edgesA (t.edges)] ∧ b3 < t_.next ∧ t_.get b4 = some [sl_Int_u8 (o.nodes), sl_Ar3_Int (o.edges)] ∧ b4 < t_.next ∧ t_.get b6 = some [AV.nils, AV.nils] ∧ b6 < t_.next ∧ t_.get b9 = some [v2, v9] ∧ b9 < t_.next ∧ ArrAt σ0.next t_ v2 3 (x1.map AV.int) x1.length 1 ∧ ArrAt σ0.next t_ v9 77 (a2.flatMap e3C) a2.length 3 ∧ (∀ i, idOf v9 = some i → ¬ i = b3) ∧ (∀ i, idOf v9 = some i → ¬ i = b4) ∧ (∀ i, idOf v9 = some i → ¬ i = b6) ∧ (∀ i, idOf v9 = some i → ¬ i = b9) ∧ Apart v2 v9) (fun M hM => ?_) (fun fr24 τ10 hm => ?_)
    ·have nb3_0 : ¬ b3 = τ9.next := by omega
     have nb3_1 : ¬ b3 = τ9.next + 1 := by omega
     have nb4_0 : ¬ b4 = τ9.next := by omega
     have nb4_1 : ¬ b4 = τ9.next + 1 := by omega
     have nb6_0 : ¬ b6 = τ9.next := by omega
     have nb6_1 : ¬ b6 = τ9.next + 1 := by omega
     have nb9_0 : ¬ b9 = τ9.next := by omega
     have nb9_1 : ¬ b9 = τ9.next + 1 := by omega
     have nb3_b4 : ¬ b3 = b4 := by omega
     have nb3_b6 : ¬ b3 = b6 := by omega
     have nb3_b9 : ¬ b3 = b9 := by omega
     have nb4_b3 : ¬ b4 = b3 := by omega
     have nb4_b6 : ¬ b4 = b6 := by omega
     have nb4_b9 : ¬ b4 = b9 := by omega
     have nb6_b3 : ¬ b6 = b3 := by omega
     have nb6_b4 : ¬ b6 = b4 := by omega
     have nb6_b9 : ¬ b6 = b9 := by omega
     have nb9_b3 : ¬ b9 = b3 := by omega
     have nb9_b4 : ¬ b9 = b4 := by omega
     have nb9_b6 : ¬ b9 = b6 := by omega
     have zv4 := av4
     rcases zv4 with ⟨rfl, nv4, mv4⟩ | ⟨ov4, rfl, gov4, tov4, lov4, hiv4⟩
     ·have zv7 := av7
      rcases zv7 with ⟨rfl, nv7, mv7⟩ | ⟨ov7, rfl, gov7, tov7, lov7, hiv7⟩
      ·exfalso; omega
      ·have nv7_0 : ¬ ov7 = τ9.next := by omega
       have nv7_1 : ¬ ov7 = τ9.next + 1 := by omega
       have nv7_b3 : ¬ ov7 = b3 := ev7b3 _ rfl
       have nb3_v7 : ¬ b3 = ov7 := fun e => ev7b3 _ rfl e.symm
       have nv7_b4 : ¬ ov7 = b4 := ev7b4 _ rfl
       have nb4_v7 : ¬ b4 = ov7 := fun e => ev7b4 _ rfl e.symm
       have nv7_b6 : ¬ ov7 = b6 := ev7b6 _ rfl
       have nb6_v7 : ¬ b6 = ov7 := fun e => ev7b6 _ rfl e.symm
       have nv7_b9 : ¬ ov7 = b9 := ev7b9 _ rfl
       have nb9_v7 : ¬ b9 = ov7 := fun e => ev7b9 _ rfl e.symm
       have zv8 := av8
       rcases zv8 with ⟨rfl, nv8, mv8⟩ | ⟨ov8, rfl, gov8, tov8, lov8, hiv8⟩
       ·exfalso; omega
       ·have nv8_0 : ¬ ov8 = τ9.next := by omega
        have nv8_1 : ¬ ov8 = τ9.next + 1 := by omega
        have nv8_v7 : ¬ ov8 = ov7 := by first | exact apart_ne ev7v8 rfl | exact apart_ne (apart_symm ev8v7) rfl
        have nv7_v8 := fun e => nv8_v7 (Eq.symm e)
        have nv8_b3 : ¬ ov8 = b3 := ev8b3 _ rfl
        have nb3_v8 : ¬ b3 = ov8 := fun e => ev8b3 _ rfl e.symm
        have nv8_b4 : ¬ ov8 = b4 := ev8b4 _ rfl
        have nb4_v8 : ¬ b4 = ov8 := fun e => ev8b4 _ rfl e.symm
        have nv8_b6 : ¬ ov8 = b6 := ev8b6 _ rfl
        have nb6_v8 : ¬ b6 = ov8 := fun e => ev8b6 _ rfl e.symm
        have nv8_b9 : ¬ ov8 = b9 := ev8b9 _ rfl
        have nb9_v8 : ¬ b9 = ov8 := fun e => ev8b9 _ rfl e.symm
        refine EW_regionY τ9 32 (.q false 0 (.q false 1 (.q false 2 (.q false 3 (.q false 4 (.q false 5 (.q false 6 (.q false 7 (.q false 8 (.q false 9 (.q false 10 (.q false 11 (.q false 12 (.q false 13 (.q false 14 (.q false 15 (.q false 16 (.q false 17 (.q false 18 (.q false 19 (.q false 20 (.q false 21 (.q false 22 (.q false 23 (.q false 24 (.q false 25 (.q false 26 (.q false 27 (.q false 28 (.q false 29 (.s 30 (.s 31 .done)))))))))))))))))))))))))))))))) (by kernel_rfl) (by kernel_rfl) (fun _ _ h => h) (fun hfin => ?_)
        have m0_ : τ9.get (τ9.next) = none := hfin _ (by omega)
        have m1_ : τ9.get (τ9.next + 1) = none := hfin _ (by omega)
        have hsub : Sub τ9 τ9 := (fun _ _ h => h)
        simp (maxDischargeDepth := 12) [go_sem, f11, f12, f122, f13, f14, f3, f4, f6, f9, gb3, gb4, gb6, gb9, xpx3, xlx3, xdx3, Ar3_IntC, nz2, mz2, xpn2, xln2, xdn2, xon2, nw2, nz3, mz3, xpn3, xln3, xdn3, xon3, nw3, nw2, nw3, nb3_0, nb3_1, nb4_0, nb4_1, nb6_0, nb6_1, nb9_0, nb9_1, nb3_b4, nb3_b6, nb3_b9, nb4_b3, nb4_b6, nb4_b9, nb6_b3, nb6_b4, nb6_b9, nb9_b3, nb9_b4, nb9_b6, nv4, mv4, gov7, tov7, nv7_0, nv7_1, nv7_b3, nb3_v7, nv7_b4, nb4_v7, nv7_b6, nb6_v7, nv7_b9, nb9_v7, gov8, tov8, nv8_0, nv8_1, nv8_v7, nv7_v8, nv8_b3, nb3_v8, nv8_b4, nb4_v8, nv8_b6, nb6_v8, nv8_b9, nb9_v8, m0_, m1_, sub_set, sub_killAll, hsub]
        refine (hM _ _).2 ⟨AV.arr (τ9.next + 1) 0 a2.length 3, ?_, ?_, ?_, ?_, ?_, by intro j hj; have hj_ := hK j hj; simp [go_sem, hj_.1, hj_.2, show ¬ j = τ9.next by omega, show ¬ j = τ9.next + 1 by omega, show ¬ j = b9 by omega], by first | omega | (simp [go_sem]; done) | (simp [go_sem]; omega), by simp (disch := omega) [get_alloc_ne, get_set_ne, get_kill_ne, go_sem, f11, f12, f122, f13, f14, f3, f4, f6, f9, gb3, gb4, gb6, gb9, xpx3, xlx3, xdx3, Ar3_IntC, nz2, mz2, xpn2, xln2, xdn2, xon2, nw2, nz3, mz3, xpn3, xln3, xdn3, xon3, nw3, nw2, nw3, nb3_0, nb3_1, nb4_0, nb4_1, nb6_0, nb6_1, nb9_0, nb9_1, nb3_b4, nb3_b6, nb3_b9, nb4_b3, nb4_b6, nb4_b9, nb6_b3, nb6_b4, nb6_b9, nb9_b3, nb9_b4, nb9_b6, nv4, mv4, gov7, tov7, nv7_0, nv7_1, nv7_b3, nb3_v7, nv7_b4, nb4_v7, nv7_b6, nb6_v7, nv7_b9, nb9_v7, gov8, tov8, nv8_0, nv8_1, nv8_v7, nv7_v8, nv8_b3, nb3_v8, nv8_b4, nb4_v8, nv8_b6, nb6_v8, nv8_b9, nb9_v8, m0_, m1_, sub_set, sub_killAll, hsub, ea2], by first | omega | (simp [go_sem]; done) | (simp [go_sem]; omega), by simp (disch := omega) [get_alloc_ne, get_set_ne, get_kill_ne, go_sem, f11, f12, f122, f13, f14, f3, f4, f6, f9, gb3, gb4, gb6, gb9, xpx3, xlx3, xdx3, Ar3_IntC, nz2, mz2, xpn2, xln2, xdn2, xon2, nw2, nz3, mz3, xpn3, xln3, xdn3, xon3, nw3, nw2, nw3, nb3_0, nb3_1, nb4_0, nb4_1, nb6_0, nb6_1, nb9_0, nb9_1, nb3_b4, nb3_b6, nb3_b9, nb4_b3, nb4_b6, nb4_b9, nb6_b3, nb6_b4, nb6_b9, nb9_b3, nb9_b4, nb9_b6, nv4, mv4, gov7, tov7, nv7_0, nv7_1, nv7_b3, nb3_v7, nv7_b4, nb4_v7, nv7_b6, nb6_v7, nv7_b9, nb9_v7, gov8, tov8, nv8_0, nv8_1, nv8_v7, nv7_v8, nv8_b3, nb3_v8, nv8_b4, nb4_v8, nv8_b6, nb6_v8, nv8_b9, nb9_v8, m0_, m1_, sub_set, sub_killAll, hsub, ea2], by first | omega | (simp [go_sem]; done) | (simp [go_sem]; omega), by simp (disch := omega) [get_alloc_ne, get_set_ne, get_kill_ne, go_sem, f11, f12, f122, f13, f14, f3, f4, f6, f9, gb3, gb4, gb6, gb9, xpx3, xlx3, xdx3, Ar3_IntC, nz2, mz2, xpn2, xln2, xdn2, xon2, nw2, nz3, mz3, xpn3, xln3, xdn3, xon3, nw3, nw2, nw3, nb3_0, nb3_1, nb4_0, nb4_1, nb6_0, nb6_1, nb9_0, nb9_1, nb3_b4, nb3_b6, nb3_b9, nb4_b3, nb4_b6, nb4_b9, nb6_b3, nb6_b4, nb6_b9, nb9_b3, nb9_b4, nb9_b6, nv4, mv4, gov7, tov7, nv7_0, nv7_1, nv7_b3, nb3_v7, nv7_b4, nb4_v7, nv7_b6, nb6_v7, nv7_b9, nb9_v7, gov8, tov8, nv8_0, nv8_1, nv8_v7, nv7_v8, nv8_b3, nb3_v8, nv8_b4, nb4_v8, nv8_b6, nb6_v8, nv8_b9, nb9_v8, m0_, m1_, sub_set, sub_killAll, hsub, ea2], by first | omega | (simp [go_sem]; done) | (simp [go_sem]; omega), by simp (disch := omega) [get_alloc_ne, get_set_ne, get_kill_ne, go_sem, f11, f12, f122, f13, f14, f3, f4, f6, f9, gb3, gb4, gb6, gb9, xpx3, xlx3, xdx3, Ar3_IntC, nz2, mz2, xpn2, xln2, xdn2, xon2, nw2, nz3, mz3, xpn3, xln3, xdn3, xon3, nw3, nw2, nw3, nb3_0, nb3_1, nb4_0, nb4_1, nb6_0, nb6_1, nb9_0, nb9_1, nb3_b4, nb3_b6, nb3_b9, nb4_b3, nb4_b6, nb4_b9, nb6_b3, nb6_b4, nb6_b9, nb9_b3, nb9_b4, nb9_b6, nv4, mv4, gov7, tov7, nv7_0, nv7_1, nv7_b3, nb3_v7, nv7_b4, nb4_v7, nv7_b6, nb6_v7, nv7_b9, nb9_v7, gov8, tov8, nv8_0, nv8_1, nv8_v7, nv7_v8, nv8_b3, nb3_v8, nv8_b4, nb4_v8, nv8_b6, nb6_v8, nv8_b9, nb9_v8, m0_, m1_, sub_set, sub_killAll, hsub, ea2], by first | omega | (simp [go_sem]; done) | (simp [go_sem]; omega), av2.same' (by simp [go_sem]; try omega) (fun i hi => by have zl := arrAt_lt av2 i hi; have zs0 := ev2b9 i hi; have zi0 : ¬ i = τ9.next := (by omega); have zi1 : ¬ i = τ9.next + 1 := (by omega); constructor <;> simp [go_sem, zs0, zi0, zi1]), .inr ⟨(τ9.next + 1), rfl, by simp (disch := omega) [get_alloc_ne, get_set_ne, get_kill_ne, go_sem, f11, f12, f122, f13, f14, f3, f4, f6, f9, gb3, gb4, gb6, gb9, xpx3, xlx3, xdx3, Ar3_IntC, nz2, mz2, xpn2, xln2, xdn2, xon2, nw2, nz3, mz3, xpn3, xln3, xdn3, xon3, nw3, nw2, nw3, nb3_0, nb3_1, nb4_0, nb4_1, nb6_0, nb6_1, nb9_0, nb9_1, nb3_b4, nb3_b6, nb3_b9, nb4_b3, nb4_b6, nb4_b9, nb6_b3, nb6_b4, nb6_b9, nb9_b3, nb9_b4, nb9_b6, nv4, mv4, gov7, tov7, nv7_0, nv7_1, nv7_b3, nb3_v7, nv7_b4, nb4_v7, nv7_b6, nb6_v7, nv7_b9, nb9_v7, gov8, tov8, nv8_0, nv8_1, nv8_v7, nv7_v8, nv8_b3, nb3_v8, nv8_b4, nb4_v8, nv8_b6, nb6_v8, nv8_b9, nb9_v8, m0_, m1_, sub_set, sub_killAll, hsub, ea2, e3C], by simp [go_sem, f11, f12, f122, f13, f14, f3, f4, f6, f9, gb3, gb4, gb6, gb9, xpx3, xlx3, xdx3, Ar3_IntC, nz2, mz2, xpn2, xln2, xdn2, xon2, nw2, nz3, mz3, xpn3, xln3, xdn3, xon3, nw3, nw2, nw3, nb3_0, nb3_1, nb4_0, nb4_1, nb6_0, nb6_1, nb9_0, nb9_1, nb3_b4, nb3_b6, nb3_b9, nb4_b3, nb4_b6, nb4_b9, nb6_b3, nb6_b4, nb6_b9, nb9_b3, nb9_b4, nb9_b6, nv4, mv4, gov7, tov7, nv7_0, nv7_1, nv7_b3, nb3_v7, nv7_b4, nb4_v7, nv7_b6, nb6_v7, nv7_b9, nb9_v7, gov8, tov8, nv8_0, nv8_1, nv8_v7, nv7_v8, nv8_b3, nb3_v8, nv8_b4, nb4_v8, nv8_b6, nb6_v8, nv8_b9, nb9_v8, m0_, m1_, sub_set, sub_killAll, hsub, ea2], by omega, by first | (simp [go_sem]; done) | (simp [go_sem]; omega)⟩, by intro i hi; first | (simp [idOf] at hi; done) | (simp [idOf] at hi; omega), by intro i hi; first | (simp [idOf] at hi; done) | (simp [idOf] at hi; omega), by intro i hi; first | (simp [idOf] at hi; done) | (simp [idOf] at hi; omega), by intro i hi; first | (simp [idOf] at hi; done) | (simp [idOf] at hi; omega), by first | exact ev2v9 | exact apart_symm ev9v2 | (intro i h1 h2; simp [idOf] at h1; done) | (intro i h1 h2; simp [idOf] at h2; done) | (intro i h1 h2; have := arrAt_lt av2 i h1; simp [idOf] at h2; omega)⟩ <;> simp [go_sem, f11, f12, f122, f13, f14, f3, f4, f6, f9, gb3, gb4, gb6, gb9, xpx3, xlx3, xdx3, Ar3_IntC, nz2, mz2, xpn2, xln2, xdn2, xon2, nw2, nz3, mz3, xpn3, xln3, xdn3, xon3, nw3, nw2, nw3, nb3_0, nb3_1, nb4_0, nb4_1, nb6_0, nb6_1, nb9_0, nb9_1, nb3_b4, nb3_b6, nb3_b9, nb4_b3, nb4_b6, nb4_b9, nb6_b3, nb6_b4, nb6_b9, nb9_b3, nb9_b4, nb9_b6, nv4, mv4, gov7, tov7, nv7_0, nv7_1, nv7_b3, nb3_v7, nv7_b4, nb4_v7, nv7_b6, nb6_v7, nv7_b9, nb9_v7, gov8, tov8, nv8_0, nv8_1, nv8_v7, nv7_v8, nv8_b3, nb3_v8, nv8_b4, nb4_v8, nv8_b6, nb6_v8, nv8_b9, nb9_v8, m0_, m1_, sub_set, sub_killAll, hsub, ea2]
     ·have Lv4 : (x2.flatMap e3C).length = x2.length * 3 := length_flatMap (f := e3C) (sz := 3) (fun _ => rfl) _
      have nv4_0 : ¬ ov4 = τ9.next := by omega
      have nv4_1 : ¬ ov4 = τ9.next + 1 := by omega
      have nv4_b3 : ¬ ov4 = b3 := ev4b3 _ rfl
      have nb3_v4 : ¬ b3 = ov4 := fun e => ev4b3 _ rfl e.symm
      have nv4_b4 : ¬ ov4 = b4 := ev4b4 _ rfl
      have nb4_v4 : ¬ b4 = ov4 := fun e => ev4b4 _ rfl e.symm
      have nv4_b6 : ¬ ov4 = b6 := ev4b6 _ rfl
      have nb6_v4 : ¬ b6 = ov4 := fun e => ev4b6 _ rfl e.symm
      have nv4_b9 : ¬ ov4 = b9 := ev4b9 _ rfl
      have nb9_v4 : ¬ b9 = ov4 := fun e => ev4b9 _ rfl e.symm
      have ca2_0 : x2.length ≤ 9223372036854775806 := by have c_ := la2; (try simp at c_); omega
      have ca2_1 : (x2.length + 1) * 24 ≤ 140737488355328 := by have c_ := la2; (try simp at c_); omega
      have zv7 := av7
      rcases zv7 with ⟨rfl, nv7, mv7⟩ | ⟨ov7, rfl, gov7, tov7, lov7, hiv7⟩
      ·exfalso; omega
      ·have nv7_0 : ¬ ov7 = τ9.next := by omega
       have nv7_1 : ¬ ov7 = τ9.next + 1 := by omega
       have nv7_v4 : ¬ ov7 = ov4 := by first | exact apart_ne ev4v7 rfl | exact apart_ne (apart_symm ev7v4) rfl
       have nv4_v7 := fun e => nv7_v4 (Eq.symm e)
       have nv7_b3 : ¬ ov7 = b3 := ev7b3 _ rfl
       have nb3_v7 : ¬ b3 = ov7 := fun e => ev7b3 _ rfl e.symm
       have nv7_b4 : ¬ ov7 = b4 := ev7b4 _ rfl
       have nb4_v7 : ¬ b4 = ov7 := fun e => ev7b4 _ rfl e.symm
       have nv7_b6 : ¬ ov7 = b6 := ev7b6 _ rfl
       have nb6_v7 : ¬ b6 = ov7 := fun e => ev7b6 _ rfl e.symm
       have nv7_b9 : ¬ ov7 = b9 := ev7b9 _ rfl
       have nb9_v7 : ¬ b9 = ov7 := fun e => ev7b9 _ rfl e.symm
       have zv8 := av8
       rcases zv8 with ⟨rfl, nv8, mv8⟩ | ⟨ov8, rfl, gov8, tov8, lov8, hiv8⟩
       ·exfalso; omega
       ·have nv8_0 : ¬ ov8 = τ9.next := by omega
        have nv8_1 : ¬ ov8 = τ9.next + 1 := by omega
        have nv8_v4 : ¬ ov8 = ov4 := by first | exact apart_ne ev4v8 rfl | exact apart_ne (apart_symm ev8v4) rfl
        have nv4_v8 := fun e => nv8_v4 (Eq.symm e)
        have nv8_v7 : ¬ ov8 = ov7 := by first | exact apart_ne ev7v8 rfl | exact apart_ne (apart_symm ev8v7) rfl
        have nv7_v8 := fun e => nv8_v7 (Eq.symm e)
        have nv8_b3 : ¬ ov8 = b3 := ev8b3 _ rfl
        have nb3_v8 : ¬ b3 = ov8 := fun e => ev8b3 _ rfl e.symm
        have nv8_b4 : ¬ ov8 = b4 := ev8b4 _ rfl
        have nb4_v8 : ¬ b4 = ov8 := fun e => ev8b4 _ rfl e.symm
        have nv8_b6 : ¬ ov8 = b6 := ev8b6 _ rfl
        have nb6_v8 : ¬ b6 = ov8 := fun e => ev8b6 _ rfl e.symm
        have nv8_b9 : ¬ ov8 = b9 := ev8b9 _ rfl
        have nb9_v8 : ¬ b9 = ov8 := fun e => ev8b9 _ rfl e.symm
        refine EW_regionY (τ9.kill ov4) 32 (.q false 0 (.q false 1 (.q false 2 (.q false 3 (.q false 4 (.q false 5 (.q false 6 (.q false 7 (.q false 8 (.q false 9 (.q false 10 (.q false 11 (.q false 12 (.q false 13 (.q false 14 (.q false 15 (.q false 16 (.q false 17 (.q false 18 (.q false 19 (.q false 20 (.q false 21 (.q false 22 (.q false 23 (.q false 24 (.q false 25 (.q false 26 (.q false 27 (.q false 28 (.q false 29 (.s 30 (.s 31 .done)))))))))))))))))))))))))))))))) (by kernel_rfl) (by kernel_rfl) (sub_kill ov4 (fun _ _ h => h)) (fun hfin => ?_)
        have m0_ : τ9.get (τ9.next) = none := hfin _ (by omega)
        have m1_ : τ9.get (τ9.next + 1) = none := hfin _ (by omega)
        have hsub : Sub (τ9.kill ov4) τ9 := (sub_kill ov4 (fun _ _ h => h))
        simp (maxDischargeDepth := 12) [go_sem, f11, f12, f122, f13, f14, f3, f4, f6, f9, gb3, gb4, gb6, gb9, xpx3, xlx3, xdx3, Ar3_IntC, nz2, mz2, xpn2, xln2, xdn2, xon2, nw2, nz3, mz3, xpn3, xln3, xdn3, xon3, nw3, nw2, nw3, nb3_0, nb3_1, nb4_0, nb4_1, nb6_0, nb6_1, nb9_0, nb9_1, nb3_b4, nb3_b6, nb3_b9, nb4_b3, nb4_b6, nb4_b9, nb6_b3, nb6_b4, nb6_b9, nb9_b3, nb9_b4, nb9_b6, gov4, tov4, Lv4, nv4_0, nv4_1, nv4_b3, nb3_v4, nv4_b4, nb4_v4, nv4_b6, nb6_v4, nv4_b9, nb9_v4, ca2_0, ca2_1, gov7, tov7, nv7_0, nv7_1, nv7_v4, nv4_v7, nv7_b3, nb3_v7, nv7_b4, nb4_v7, nv7_b6, nb6_v7, nv7_b9, nb9_v7, gov8, tov8, nv8_0, nv8_1, nv8_v4, nv4_v8, nv8_v7, nv7_v8, nv8_b3, nb3_v8, nv8_b4, nb4_v8, nv8_b6, nb6_v8, nv8_b9, nb9_v8, m0_, m1_, sub_set, sub_killAll, hsub]
        refine (hM _ _).2 ⟨AV.arr (τ9.next + 1) 0 a2.length 3, ?_, ?_, ?_, ?_, ?_, by intro j hj; have hj_ := hK j hj; simp [go_sem, hj_.1, hj_.2, show ¬ j = τ9.next by omega, show ¬ j = τ9.next + 1 by omega, show ¬ j = b9 by omega, show ¬ j = ov4 by omega], by first | omega | (simp [go_sem]; done) | (simp [go_sem]; omega), by simp (disch := omega) [get_alloc_ne, get_set_ne, get_kill_ne, go_sem, f11, f12, f122, f13, f14, f3, f4, f6, f9, gb3, gb4, gb6, gb9, xpx3, xlx3, xdx3, Ar3_IntC, nz2, mz2, xpn2, xln2, xdn2, xon2, nw2, nz3, mz3, xpn3, xln3, xdn3, xon3, nw3, nw2, nw3, nb3_0, nb3_1, nb4_0, nb4_1, nb6_0, nb6_1, nb9_0, nb9_1, nb3_b4, nb3_b6, nb3_b9, nb4_b3, nb4_b6, nb4_b9, nb6_b3, nb6_b4, nb6_b9, nb9_b3, nb9_b4, nb9_b6, gov4, tov4, Lv4, nv4_0, nv4_1, nv4_b3, nb3_v4, nv4_b4, nb4_v4, nv4_b6, nb6_v4, nv4_b9, nb9_v4, ca2_0, ca2_1, gov7, tov7, nv7_0, nv7_1, nv7_v4, nv4_v7, nv7_b3, nb3_v7, nv7_b4, nb4_v7, nv7_b6, nb6_v7, nv7_b9, nb9_v7, gov8, tov8, nv8_0, nv8_1, nv8_v4, nv4_v8, nv8_v7, nv7_v8, nv8_b3, nb3_v8, nv8_b4, nb4_v8, nv8_b6, nb6_v8, nv8_b9, nb9_v8, m0_, m1_, sub_set, sub_killAll, hsub, ea2], by first | omega | (simp [go_sem]; done) | (simp [go_sem]; omega), by simp (disch := omega) [get_alloc_ne, get_set_ne, get_kill_ne, go_sem, f11, f12, f122, f13, f14, f3, f4, f6, f9, gb3, gb4, gb6, gb9, xpx3, xlx3, xdx3, Ar3_IntC, nz2, mz2, xpn2, xln2, xdn2, xon2, nw2, nz3, mz3, xpn3, xln3, xdn3, xon3, nw3, nw2, nw3, nb3_0, nb3_1, nb4_0, nb4_1, nb6_0, nb6_1, nb9_0, nb9_1, nb3_b4, nb3_b6, nb3_b9, nb4_b3, nb4_b6, nb4_b9, nb6_b3, nb6_b4, nb6_b9, nb9_b3, nb9_b4, nb9_b6, gov4, tov4, Lv4, nv4_0, nv4_1, nv4_b3, nb3_v4, nv4_b4, nb4_v4, nv4_b6, nb6_v4, nv4_b9, nb9_v4, ca2_0, ca2_1, gov7, tov7, nv7_0, nv7_1, nv7_v4, nv4_v7, nv7_b3, nb3_v7, nv7_b4, nb4_v7, nv7_b6, nb6_v7, nv7_b9, nb9_v7, gov8, tov8, nv8_0, nv8_1, nv8_v4, nv4_v8, nv8_v7, nv7_v8, nv8_b3, nb3_v8, nv8_b4, nb4_v8, nv8_b6, nb6_v8, nv8_b9, nb9_v8, m0_, m1_, sub_set, sub_killAll, hsub, ea2], by first | omega | (simp [go_sem]; done) | (simp [go_sem]; omega), by simp (disch := omega) [get_alloc_ne, get_set_ne, get_kill_ne, go_sem, f11, f12, f122, f13, f14, f3, f4, f6, f9, gb3, gb4, gb6, gb9, xpx3, xlx3, xdx3, Ar3_IntC, nz2, mz2, xpn2, xln2, xdn2, xon2, nw2, nz3, mz3, xpn3, xln3, xdn3, xon3, nw3, nw2, nw3, nb3_0, nb3_1, nb4_0, nb4_1, nb6_0, nb6_1, nb9_0, nb9_1, nb3_b4, nb3_b6, nb3_b9, nb4_b3, nb4_b6, nb4_b9, nb6_b3, nb6_b4, nb6_b9, nb9_b3, nb9_b4, nb9_b6, gov4, tov4, Lv4, nv4_0, nv4_1, nv4_b3, nb3_v4, nv4_b4, nb4_v4, nv4_b6, nb6_v4, nv4_b9, nb9_v4, ca2_0, ca2_1, gov7, tov7, nv7_0, nv7_1, nv7_v4, nv4_v7, nv7_b3, nb3_v7, nv7_b4, nb4_v7, nv7_b6, nb6_v7, nv7_b9, nb9_v7, gov8, tov8, nv8_0, nv8_1, nv8_v4, nv4_v8, nv8_v7, nv7_v8, nv8_b3, nb3_v8, nv8_b4, nb4_v8, nv8_b6, nb6_v8, nv8_b9, nb9_v8, m0_, m1_, sub_set, sub_killAll, hsub, ea2], by first | omega | (simp [go_sem]; done) | (simp [go_sem]; omega), by simp (disch := omega) [get_alloc_ne, get_set_ne, get_kill_ne, go_sem, f11, f12, f122, f13, f14, f3, f4, f6, f9, gb3, gb4, gb6, gb9, xpx3, xlx3, xdx3, Ar3_IntC, nz2, mz2, xpn2, xln2, xdn2, xon2, nw2, nz3, mz3, xpn3, xln3, xdn3, xon3, nw3, nw2, nw3, nb3_0, nb3_1, nb4_0, nb4_1, nb6_0, nb6_1, nb9_0, nb9_1, nb3_b4, nb3_b6, nb3_b9, nb4_b3, nb4_b6, nb4_b9, nb6_b3, nb6_b4, nb6_b9, nb9_b3, nb9_b4, nb9_b6, gov4, tov4, Lv4, nv4_0, nv4_1, nv4_b3, nb3_v4, nv4_b4, nb4_v4, nv4_b6, nb6_v4, nv4_b9, nb9_v4, ca2_0, ca2_1, gov7, tov7, nv7_0, nv7_1, nv7_v4, nv4_v7, nv7_b3, nb3_v7, nv7_b4, nb4_v7, nv7_b6, nb6_v7, nv7_b9, nb9_v7, gov8, tov8, nv8_0, nv8_1, nv8_v4, nv4_v8, nv8_v7, nv7_v8, nv8_b3, nb3_v8, nv8_b4, nb4_v8, nv8_b6, nb6_v8, nv8_b9, nb9_v8, m0_, m1_, sub_set, sub_killAll, hsub, ea2], by first | omega | (simp [go_sem]; done) | (simp [go_sem]; omega), av2.same' (by simp [go_sem]; try omega) (fun i hi => by have zl := arrAt_lt av2 i hi; have zs0 := ev2b9 i hi; have zi0 : ¬ i = τ9.next := (by omega); have zi1 : ¬ i = τ9.next + 1 := (by omega); have zk0 := apart_ne (by first | exact ev4v2 | exact apart_symm ev2v4) hi; constructor <;> simp [go_sem, zs0, zi0, zi1, zk0]), .inr ⟨(τ9.next + 1), rfl, by simp (disch := omega) [get_alloc_ne, get_set_ne, get_kill_ne, go_sem, f11, f12, f122, f13, f14, f3, f4, f6, f9, gb3, gb4, gb6, gb9, xpx3, xlx3, xdx3, Ar3_IntC, nz2, mz2, xpn2, xln2, xdn2, xon2, nw2, nz3, mz3, xpn3, xln3, xdn3, xon3, nw3, nw2, nw3, nb3_0, nb3_1, nb4_0, nb4_1, nb6_0, nb6_1, nb9_0, nb9_1, nb3_b4, nb3_b6, nb3_b9, nb4_b3, nb4_b6, nb4_b9, nb6_b3, nb6_b4, nb6_b9, nb9_b3, nb9_b4, nb9_b6, gov4, tov4, Lv4, nv4_0, nv4_1, nv4_b3, nb3_v4, nv4_b4, nb4_v4, nv4_b6, nb6_v4, nv4_b9, nb9_v4, ca2_0, ca2_1, gov7, tov7, nv7_0, nv7_1, nv7_v4, nv4_v7, nv7_b3, nb3_v7, nv7_b4, nb4_v7, nv7_b6, nb6_v7, nv7_b9, nb9_v7, gov8, tov8, nv8_0, nv8_1, nv8_v4, nv4_v8, nv8_v7, nv7_v8, nv8_b3, nb3_v8, nv8_b4, nb4_v8, nv8_b6, nb6_v8, nv8_b9, nb9_v8, m0_, m1_, sub_set, sub_killAll, hsub, ea2, e3C], by simp [go_sem, f11, f12, f122, f13, f14, f3, f4, f6, f9, gb3, gb4, gb6, gb9, xpx3, xlx3, xdx3, Ar3_IntC, nz2, mz2, xpn2, xln2, xdn2, xon2, nw2, nz3, mz3, xpn3, xln3, xdn3, xon3, nw3, nw2, nw3, nb3_0, nb3_1, nb4_0, nb4_1, nb6_0, nb6_1, nb9_0, nb9_1, nb3_b4, nb3_b6, nb3_b9, nb4_b3, nb4_b6, nb4_b9, nb6_b3, nb6_b4, nb6_b9, nb9_b3, nb9_b4, nb9_b6, gov4, tov4, Lv4, nv4_0, nv4_1, nv4_b3, nb3_v4, nv4_b4, nb4_v4, nv4_b6, nb6_v4, nv4_b9, nb9_v4, ca2_0, ca2_1, gov7, tov7, nv7_0, nv7_1, nv7_v4, nv4_v7, nv7_b3, nb3_v7, nv7_b4, nb4_v7, nv7_b6, nb6_v7, nv7_b9, nb9_v7, gov8, tov8, nv8_0, nv8_1, nv8_v4, nv4_v8, nv8_v7, nv7_v8, nv8_b3, nb3_v8, nv8_b4, nb4_v8, nv8_b6, nb6_v8, nv8_b9, nb9_v8, m0_, m1_, sub_set, sub_killAll, hsub, ea2], by omega, by first | (simp [go_sem]; done) | (simp [go_sem]; omega)⟩, by intro i hi; first | (simp [idOf] at hi; done) | (simp [idOf] at hi; omega), by intro i hi; first | (simp [idOf] at hi; done) | (simp [idOf] at hi; omega), by intro i hi; first | (simp [idOf] at hi; done) | (simp [idOf] at hi; omega), by intro i hi; first | (simp [idOf] at hi; done) | (simp [idOf] at hi; omega), by first | exact ev2v9 | exact apart_symm ev9v2 | (intro i h1 h2; simp [idOf] at h1; done) | (intro i h1 h2; simp [idOf] at h2; done) | (intro i h1 h2; have := arrAt_lt av2 i h1; simp [idOf] at h2; omega)⟩ <;> simp [go_sem, f11, f12, f122, f13, f14, f3, f4, f6, f9, gb3, gb4, gb6, gb9, xpx3, xlx3, xdx3, Ar3_IntC, nz2, mz2, xpn2, xln2, xdn2, xon2, nw2, nz3, mz3, xpn3, xln3, xdn3, xon3, nw3, nw2, nw3, nb3_0, nb3_1, nb4_0, nb4_1, nb6_0, nb6_1, nb9_0, nb9_1, nb3_b4, nb3_b6, nb3_b9, nb4_b3, nb4_b6, nb4_b9, nb6_b3, nb6_b4, nb6_b9, nb9_b3, nb9_b4, nb9_b6, gov4, tov4, Lv4, nv4_0, nv4_1, nv4_b3, nb3_v4, nv4_b4, nb4_v4, nv4_b6, nb6_v4, nv4_b9, nb9_v4, ca2_0, ca2_1, gov7, tov7, nv7_0, nv7_1, nv7_v4, nv4_v7, nv7_b3, nb3_v7, nv7_b4, nb4_v7, nv7_b6, nb6_v7, nv7_b9, nb9_v7, gov8, tov8, nv8_0, nv8_1, nv8_v4, nv4_v8, nv8_v7, nv7_v8, nv8_b3, nb3_v8, nv8_b4, nb4_v8, nv8_b6, nb6_v8, nv8_b9, nb9_v8, m0_, m1_, sub_set, sub_killAll, hsub, ea2]
    clear f11 f12 f122 f13 f14 f3 f4 f6 f9 hK hN gb3 ub3 gb4 ub4 gb6 ub6 gb9 ub9 av7 av8 av2 av4
    obtain ⟨v9, f3, f4, f6, f9, f11, hK, hN, gb3, ub3, gb4, ub4, gb6, ub6, gb9, ub9, av2, av9, ev9b3, ev9b4, ev9b6, ev9b9, ev2v9⟩ := hm
    refine SW.blk ?_
    refine SW.regX (fun f_ t_ => τ10 = t_ ∧ f_ 3 = AV.ptr b3 0 ∧ f_ 4 = AV.ptr b4 0 ∧ f_ 6 = AV.ptr b6 0 ∧ f_ 9 = AV.ptr b9 0 ∧ f_ 11 = AV.int ((IntKind.i64.wrap (t11 + 1)))) (fun M hM => ?_) (fun fr25 τz13 hm => ?_)
    ·simp [go_sem, f11, f3, f4, f6, f9, gb3, gb4, gb6, gb9]
     refine (hM _ _).2 ⟨rfl, ?_, ?_, ?_, ?_, ?_⟩ <;> simp [go_sem, f11, f3, f4, f6, f9, gb3, gb4, gb6, gb9]
    clear f11 f3 f4 f6 f9
    obtain ⟨rfl, f3, f4, f6, f9, f11⟩ := hm
    obtain rfl := Option.some.inj hbi2
    exact SW.goal ⟨_, Nat.lt_succ_self _, (hJ _ _ _).2 ⟨(IntKind.i64.wrap (t11 + 1)), a2, v9, hci2, f3, f4, f6, f9, f11, hK, hN, gb3, ub3, gb4, ub4, gb6, ub6, gb9, ub9, av2, av9, ev9b3, ev9b4, ev9b6, ev9b9, (by first | exact ev2v9 | exact fun i h h' => ev9v2 i h' h)⟩⟩
   have hbi2 := condF hbi2 hx4
   refine SW.skip ?_
   refine SW.blk ?_
   refine SW.regX (fun f_ t_ => τ9 = t_ ∧ f_ 3 = AV.ptr b3 0 ∧ f_ 4 = AV.ptr b4 0 ∧ f_ 6 = AV.ptr b6 0 ∧ f_ 9 = AV.ptr b9 0 ∧ f_ 11 = AV.int ((IntKind.i64.wrap (t11 + 1)))) (fun M hM => ?_) (fun fr26 τz14 hm => ?_)
   ·simp [go_sem, f11, f12, f122, f13, f14, f3, f4, f6, f9, gb3, gb4, gb6, gb9]
    refine (hM _ _).2 ⟨rfl, ?_, ?_, ?_, ?_, ?_⟩ <;> simp [go_sem, f11, f12, f122, f13, f14, f3, f4, f6, f9, gb3, gb4, gb6, gb9]
   clear f11 f12 f122 f13 f14 f3 f4 f6 f9
   obtain ⟨rfl, f3, f4, f6, f9, f11⟩ := hm
   obtain rfl := Option.some.inj hbi2
   exact SW.goal ⟨_, Nat.lt_succ_self _, (hJ _ _ _).2 ⟨(IntKind.i64.wrap (t11 + 1)), x2, v4, hci2, f3, f4, f6, f9, f11, hK, hN, gb3, ub3, gb4, ub4, gb6, ub6, gb9, ub9, av2, av4, ev4b3, ev4b4, ev4b6, ev4b9, (by first | exact ev2v4 | exact fun i h h' => ev4v2 i h' h)⟩⟩
  have hbi2 := condF hbi2 hx3
  refine SW.exit rfl ?_
  obtain rfl := Option.some.inj hbi2
  exact SW.goal ((hKL _ _).2 ⟨t11, x2, v4, (Option.some.inj hci2).symm, f6, f9, hK, hN, gb6, ub6, gb9, ub9, av2, av4, ev4b6, ev4b9, (by first | exact ev2v4 | exact fun i h h' => ev4v2 i h' h)⟩)
 intro fr27 τ11 hm
 rw [hKL] at hm
 clear hKL hruni2
 clear f11 f3 f4 f6 f9 hK hN gb3 ub3 gb4 ub4 gb6 ub6 gb9 ub9 av2
 obtain ⟨t11, x2, v4, rfl, f6, f9, hK, hN, gb6, ub6, gb9, ub9, av2, av4, ev4b6, ev4b9, ev2v4⟩ := hm
 simp only [Out.on] at hoi2
 refine SW.seq ?_
 refine SW.regX (fun f_ t_ => f_ 6 = AV.ptr b6 0 ∧ Kept σ0 t_ ∧ σ0.next ≤ t_.next ∧ t_.get b6 = some [v2, v4] ∧ b6 < t_.next ∧ ArrAt σ0.next t_ v2 3 (x1.map AV.int) x1.length 1 ∧ ArrAt σ0.next t_ v4 77 (x2.flatMap e3C) x2.length 3) (fun M hM => ?_) (fun fr28 τ12 hm => ?_)
 ·have nb9_b6 : ¬ b9 = b6 := by omega
  have zv2 := av2
  rcases zv2 with ⟨rfl, nv2, mv2⟩ | ⟨ov2, rfl, gov2, tov2, lov2, hiv2⟩
  ·have zv4 := av4
   rcases zv4 with ⟨rfl, nv4, mv4⟩ | ⟨ov4, rfl, gov4, tov4, lov4, hiv4⟩
   ·simp [go_sem, f6, f9, gb6, gb9, nb9_b6, nv2, mv2, nv4, mv4]
    refine (hM _ _).2 ⟨?_, by intro j hj; have hj_ := hK j hj; simp [go_sem, hj_.1, hj_.2, show ¬ j = b6 by omega], by first | omega | (simp [go_sem]; done) | (simp [go_sem]; omega), by simp (disch := omega) [get_alloc_ne, get_set_ne, get_kill_ne, go_sem, f6, f9, gb6, gb9, nb9_b6, nv2, mv2, nv4, mv4], by first | omega | (simp [go_sem]; done) | (simp [go_sem]; omega), av2.same' (by simp [go_sem]; try omega) (fun i hi => by have zl := arrAt_lt av2 i hi; have zs0 := ev2b6 i hi; constructor <;> simp [go_sem, zs0]), av4.same' (by simp [go_sem]; try omega) (fun i hi => by have zl := arrAt_lt av4 i hi; have zs0 := ev4b6 i hi; constructor <;> simp [go_sem, zs0])⟩ <;> simp [go_sem, f6, f9, gb6, gb9, nb9_b6, nv2, mv2, nv4, mv4]
   ·have Lv4 : (x2.flatMap e3C).length = x2.length * 3 := length_flatMap (f := e3C) (sz := 3) (fun _ => rfl) _
    have nv4_b6 : ¬ ov4 = b6 := ev4b6 _ rfl
    have nb6_v4 : ¬ b6 = ov4 := fun e => ev4b6 _ rfl e.symm
    have nv4_b9 : ¬ ov4 = b9 := ev4b9 _ rfl
    have nb9_v4 : ¬ b9 = ov4 := fun e => ev4b9 _ rfl e.symm
    simp [go_sem, f6, f9, gb6, gb9, nb9_b6, nv2, mv2, gov4, tov4, Lv4, nv4_b6, nb6_v4, nv4_b9, nb9_v4]
    refine (hM _ _).2 ⟨?_, by intro j hj; have hj_ := hK j hj; simp [go_sem, hj_.1, hj_.2, show ¬ j = b6 by omega], by first | omega | (simp [go_sem]; done) | (simp [go_sem]; omega), by simp (disch := omega) [get_alloc_ne, get_set_ne, get_kill_ne, go_sem, f6, f9, gb6, gb9, nb9_b6, nv2, mv2, gov4, tov4, Lv4, nv4_b6, nb6_v4, nv4_b9, nb9_v4], by first | omega | (simp [go_sem]; done) | (simp [go_sem]; omega), av2.same' (by simp [go_sem]; try omega) (fun i hi => by have zl := arrAt_lt av2 i hi; have zs0 := ev2b6 i hi; constructor <;> simp [go_sem, zs0]), av4.same' (by simp [go_sem]; try omega) (fun i hi => by have zl := arrAt_lt av4 i hi; have zs0 := ev4b6 i hi; constructor <;> simp [go_sem, zs0])⟩ <;> simp [go_sem, f6, f9, gb6, gb9, nb9_b6, nv2, mv2, gov4, tov4, Lv4, nv4_b6, nb6_v4, nv4_b9, nb9_v4]
  ·have nv2_b6 : ¬ ov2 = b6 := ev2b6 _ rfl
   have nb6_v2 : ¬ b6 = ov2 := fun e => ev2b6 _ rfl e.symm
   have nv2_b9 : ¬ ov2 = b9 := ev2b9 _ rfl
   have nb9_v2 : ¬ b9 = ov2 := fun e => ev2b9 _ rfl e.symm
   have zv4 := av4
   rcases zv4 with ⟨rfl, nv4, mv4⟩ | ⟨ov4, rfl, gov4, tov4, lov4, hiv4⟩
   ·simp [go_sem, f6, f9, gb6, gb9, nb9_b6, gov2, tov2, nv2_b6, nb6_v2, nv2_b9, nb9_v2, nv4, mv4]
    refine (hM _ _).2 ⟨?_, by intro j hj; have hj_ := hK j hj; simp [go_sem, hj_.1, hj_.2, show ¬ j = b6 by omega], by first | omega | (simp [go_sem]; done) | (simp [go_sem]; omega), by simp (disch := omega) [get_alloc_ne, get_set_ne, get_kill_ne, go_sem, f6, f9, gb6, gb9, nb9_b6, gov2, tov2, nv2_b6, nb6_v2, nv2_b9, nb9_v2, nv4, mv4], by first | omega | (simp [go_sem]; done) | (simp [go_sem]; omega), av2.same' (by simp [go_sem]; try omega) (fun i hi => by have zl := arrAt_lt av2 i hi; have zs0 := ev2b6 i hi; constructor <;> simp [go_sem, zs0]), av4.same' (by simp [go_sem]; try omega) (fun i hi => by have zl := arrAt_lt av4 i hi; have zs0 := ev4b6 i hi; constructor <;> simp [go_sem, zs0])⟩ <;> simp [go_sem, f6, f9, gb6, gb9, nb9_b6, gov2, tov2, nv2_b6, nb6_v2, nv2_b9, nb9_v2, nv4, mv4]
   ·have Lv4 : (x2.flatMap e3C).length = x2.length * 3 := length_flatMap (f := e3C) (sz := 3) (fun _ => rfl) _
    have nv4_v2 : ¬ ov4 = ov2 := by first | exact apart_ne ev2v4 rfl | exact apart_ne (apart_symm ev4v2) rfl
    have nv2_v4 := fun e => nv4_v2 (Eq.symm e)
    have nv4_b6 : ¬ ov4 = b6 := ev4b6 _ rfl
    have nb6_v4 : ¬ b6 = ov4 := fun e => ev4b6 _ rfl e.symm
    have nv4_b9 : ¬ ov4 = b9 := ev4b9 _ rfl
    have nb9_v4 : ¬ b9 = ov4 := fun e => ev4b9 _ rfl e.symm
    simp [go_sem, f6, f9, gb6, gb9, nb9_b6, gov2, tov2, nv2_b6, nb6_v2, nv2_b9, nb9_v2, gov4, tov4, Lv4, nv4_v2, nv2_v4, nv4_b6, nb6_v4, nv4_b9, nb9_v4]
    refine (hM _ _).2 ⟨?_, by intro j hj; have hj_ := hK j hj; simp [go_sem, hj_.1, hj_.2, show ¬ j = b6 by omega], by first | omega | (simp [go_sem]; done) | (simp [go_sem]; omega), by simp (disch := omega) [get_alloc_ne, get_set_ne, get_kill_ne, go_sem, f6, f9, gb6, gb9, nb9_b6, gov2, tov2, nv2_b6, nb6_v2, nv2_b9, nb9_v2, gov4, tov4, Lv4, nv4_v2, nv2_v4, nv4_b6, nb6_v4, nv4_b9, nb9_v4], by first | omega | (simp [go_sem]; done) | (simp [go_sem]; omega), av2.same' (by simp [go_sem]; try omega) (fun i hi => by have zl := arrAt_lt av2 i hi; have zs0 := ev2b6 i hi; constructor <;> simp [go_sem, zs0]), av4.same' (by simp [go_sem]; try omega) (fun i hi => by have zl := arrAt_lt av4 i hi; have zs0 := ev4b6 i hi; constructor <;> simp [go_sem, zs0])⟩ <;> simp [go_sem, f6, f9, gb6, gb9, nb9_b6, gov2, tov2, nv2_b6, nb6_v2, nv2_b9, nb9_v2, gov4, tov4, Lv4, nv4_v2, nv2_v4, nv4_b6, nb6_v4, nv4_b9, nb9_v4]
 clear f6 f9 hK hN gb6 ub6 gb9 ub9 av2 av4
 obtain ⟨f6, hK, hN, gb6, ub6, av2, av4⟩ := hm
 obtain rfl := Option.some.inj hoi2
 exact SW.ret ⟨AV.agg [v2, v4], by simp [go_sem, f6, gb6], ⟨v2, v4, rfl, av2, av4, (by first | exact ev2v4 | exact fun i h h' => ev4v2 i h' h)⟩, hK, hN⟩
theorem w_ref17_Made (F : Nat) (t : Types) (o : Gscarfjointref05_Draft) (A : Bool) (r : (Graph)) (h : s_ref17_Made F t o A = some r) : PureA Tryz.prog 52 [AV.agg [nodesA (t.nodes), edgesA (t.edges)], AV.agg [sl_Int_u8 (o.nodes), sl_Ar3_Int (o.edges)], AV.bool (A)] (AV.agg [intsA (r.nodes), e3sA (r.edges)]) := pureA_of_own' (O := O_ref17_Made r) (fun σ0 => o_ref17_Made F t o A r h σ0) (by rintro n x τ ⟨v0_, v1_, hx, av0_, av1_, ev0_v1_⟩; rw [hx]; exact frz_aggL (frzL_c (av0_.frz (DataL.map (fun _ => .lit _) r.nodes)) (frzL_c (av1_.frz (DataL.flatMap gd_e3C r.edges)) (frzL_n))))
end Go.Proofs.YtdacgjleiloooaaGreat
