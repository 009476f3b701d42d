/-
  Plain functions and the walks that lead to them, by a program of ours (gen.py): scarfjoint/scarfjointref04.Made, scarfjoint/scarfjointref17.among.
-/
import Derived.Test.YtdacgjleiloooaaGreatGd
import Derived.Test.YtdacgjleiloooaaGreatGT
import Derived.Test.YtdacgjleiloooaaGreatB3
import Derived.Test.YtdacgjleiloooaaGreatGS
import Derived.Test.YtdacgjleiloooaaGreatGa5
set_option linter.unusedSimpArgs false
set_option linter.unusedVariables false
namespace Go.Proofs.YtdacgjleiloooaaGreat
open Go Go.Ew Go.Proofs Go.RowKit
set_option maxRecDepth 100000
def O_ref04_Made (r : (Types)) (n : Nat) (x : AV) (τ : Mem) : Prop := ∃ v0_ v1_ : AV, x = AV.agg [v0_, v1_] ∧ ArrAt n τ v0_ 94 (r.nodes.flatMap nodeC) r.nodes.length 4 ∧ ArrAt n τ v1_ 96 (r.edges.flatMap edgeC) r.edges.length 7 ∧ Apart v0_ v1_
set_option maxHeartbeats 4000000 in
theorem o_ref04_Made (F : Nat) (t : List Ar2_Int) (o : List Ar2_Int) (r : (Types)) (h : s_ref04_Made F t o = some r) (σ0 : Mem) : CallA Tryz.prog 51 [sl_Ar2_Int (t), sl_Ar2_Int (o)] σ0 (fun x τ => O_ref04_Made r σ0.next x τ ∧ Kept σ0 τ ∧ σ0.next ≤ τ.next) := by
 refine callA_of_SW (N := 124) Tryz.func51 (by kernel_rfl) rfl (by rw [Tryz.ntmps51]; rfl) ?_
 rw [Tryz.results51]
 obtain ⟨fr0, hfr⟩ : ∃ fr, fr = initFr [sl_Ar2_Int (t), sl_Ar2_Int (o)] := ⟨_, rfl⟩
 rw [← hfr]
 have f0 : fr0 0 = sl_Ar2_Int (t) := by rw [hfr]; rfl
 have f1 : fr0 1 = sl_Ar2_Int (o) := by rw [hfr]; rfl
 clear hfr
 simp only [s_ref04_Made] at h
 refine SW.seq ?_
 refine SW.regX (fun f_ t_ => ∃ b4 : Nat, f_ 0 = sl_Ar2_Int (t) ∧ f_ 1 = sl_Ar2_Int (o) ∧ f_ 4 = AV.ptr b4 0 ∧ Kept σ0 t_ ∧ σ0.next ≤ t_.next ∧ t_.get b4 = some [AV.nils, AV.nils] ∧ b4 < t_.next ∧ σ0.next ≤ b4) (fun M hM => ?_) (fun fr1 τ hm => ?_)
 ·simp [go_sem, f0, f1]
  refine (hM _ _).2 ⟨σ0.next, ?_, ?_, ?_, by intro j hj; simp [go_sem, show ¬ j = σ0.next by omega], by first | omega | (simp [go_sem]; done) | (simp [go_sem]; omega), by simp (disch := omega) [get_alloc_ne, get_set_ne, get_kill_ne, go_sem, f0, f1], by first | omega | (simp [go_sem]; done) | (simp [go_sem]; omega), by omega⟩ <;> simp [go_sem, f0, f1]
 clear f0 f1
 obtain ⟨b4, f0, f1, f4, hK, hN, gb4, ub4, wb4⟩ := hm
 refine SW.seq ?_
 refine SW.regX (fun f_ t_ => ∃ b5 : Nat, f_ 0 = sl_Ar2_Int (t) ∧ f_ 1 = sl_Ar2_Int (o) ∧ f_ 4 = AV.ptr b4 0 ∧ f_ 5 = AV.ptr b5 0 ∧ Kept σ0 t_ ∧ σ0.next ≤ t_.next ∧ t_.get b4 = some [AV.nils, AV.nils] ∧ b4 < t_.next ∧ t_.get b5 = some [AV.nils, AV.nils] ∧ b5 < t_.next ∧ σ0.next ≤ b5 ∧ ¬ b4 = b5) (fun M hM => ?_) (fun fr2 τ1 hm => ?_)
 ·have nb4_0 : ¬ b4 = τ.next := by omega
  simp [go_sem, f0, f1, f4, gb4, nb4_0]
  refine (hM _ _).2 ⟨τ.next, ?_, ?_, ?_, ?_, by intro j hj; have hj_ := hK j hj; simp [go_sem, hj_.1, hj_.2, show ¬ j = τ.next by omega], by first | omega | (simp [go_sem]; done) | (simp [go_sem]; omega), by simp (disch := omega) [get_alloc_ne, get_set_ne, get_kill_ne, go_sem, f0, f1, f4, gb4, nb4_0], by first | omega | (simp [go_sem]; done) | (simp [go_sem]; omega), by simp (disch := omega) [get_alloc_ne, get_set_ne, get_kill_ne, go_sem, f0, f1, f4, gb4, nb4_0], by first | omega | (simp [go_sem]; done) | (simp [go_sem]; omega), by omega, by omega⟩ <;> simp [go_sem, f0, f1, f4, gb4, nb4_0]
 clear f0 f1 f4 hK hN gb4 ub4
 obtain ⟨b5, f0, f1, f4, f5, hK, hN, gb4, ub4, gb5, ub5, wb5, eb4b5⟩ := hm
 refine SW.seq ?_
 refine SW.seq ?_
 refine SW.regX (fun f_ t_ => τ1 = t_ ∧ f_ 0 = sl_Ar2_Int (t) ∧ f_ 1 = sl_Ar2_Int (o) ∧ f_ 4 = AV.ptr b4 0 ∧ f_ 5 = AV.ptr b5 0 ∧ f_ 6 = AV.int (0)) (fun M hM => ?_) (fun fr3 τz hm => ?_)
 ·simp [go_sem, f0, f1, f4, f5, gb4, gb5]
  refine (hM _ _).2 ⟨rfl, ?_, ?_, ?_, ?_, ?_⟩ <;> simp [go_sem, f0, f1, f4, f5, gb4, gb5]
 clear f0 f1 f4 f5
 obtain ⟨rfl, f0, f1, f4, f5, f6⟩ := hm
 obtain ⟨oi, hruni, hoi⟩ := obind h
 obtain ⟨KL, hKL⟩ : ∃ KL : Fr → Mem → Prop, ∀ fr' τ', KL fr' τ' ↔ (∃ y : Int, ∃ x : List NodeT, ∃ v : AV, oi = .done (y, x) ∧ fr' 1 = sl_Ar2_Int (o) ∧ fr' 4 = AV.ptr b4 0 ∧ fr' 5 = AV.ptr b5 0 ∧ Kept σ0 τ' ∧ σ0.next ≤ τ'.next ∧ τ'.get b4 = some [AV.nils, AV.nils] ∧ b4 < τ'.next ∧ τ'.get b5 = some [v, AV.nils] ∧ b5 < τ'.next ∧ ArrAt σ0.next τ' v 94 (x.flatMap nodeC) x.length 4 ∧ (∀ i, idOf v = some i → ¬ i = b4) ∧ (∀ i, idOf v = some i → ¬ i = b5)) := ⟨_, fun _ _ => Iff.rfl⟩
 refine SW.cut KL ?_ ?_
 ·refine SW.block ?_
  obtain ⟨J, hJ⟩ : ∃ J : Nat → Fr → Mem → Prop, ∀ m_ fr' τ', J m_ fr' τ' ↔ (∃ y : Int, ∃ x : List NodeT, ∃ v : AV, whileG (b1_ref04_Made t) m_ (y, x) = some oi ∧ fr' 0 = sl_Ar2_Int (t) ∧ fr' 1 = sl_Ar2_Int (o) ∧ fr' 4 = AV.ptr b4 0 ∧ fr' 5 = AV.ptr b5 0 ∧ fr' 6 = AV.int (y) ∧ Kept σ0 τ' ∧ σ0.next ≤ τ'.next ∧ τ'.get b4 = some [AV.nils, AV.nils] ∧ b4 < τ'.next ∧ τ'.get b5 = some [v, AV.nils] ∧ b5 < τ'.next ∧ ArrAt σ0.next τ' v 94 (x.flatMap nodeC) x.length 4 ∧ (∀ i, idOf v = some i → ¬ i = b4) ∧ (∀ i, idOf v = some i → ¬ i = b5)) := ⟨_, fun _ _ _ => Iff.rfl⟩
  refine SW.loop J F ((hJ _ _ _).2 ⟨0, ([] : List NodeT), AV.nils, hruni, f0, f1, f4, f5, f6, hK, hN, gb4, ub4, gb5, ub5, .inl ⟨rfl, rfl, rfl⟩, (fun i h => by cases h), (fun i h => by cases h)⟩) ?_
  clear hruni
  intro m_ fr4 τ2 hm
  rw [hJ] at hm
  clear f0 f1 f4 f5 f6 hK hN gb4 ub4 gb5 ub5
  obtain ⟨y, x, v, hruni, f0, f1, f4, f5, f6, hK, hN, gb4, ub4, gb5, ub5, av, evb4, evb5⟩ := hm
  obtain ⟨F', ci, rfl, hbi, hci⟩ := whileG_step hruni
  simp only [b1_ref04_Made] at hbi
  refine SW.seq ?_
  refine SW.seq ?_
  refine SW.regX (fun f_ t_ => τ2 = t_ ∧ f_ 0 = sl_Ar2_Int (t) ∧ f_ 1 = sl_Ar2_Int (o) ∧ f_ 4 = AV.ptr b4 0 ∧ f_ 5 = AV.ptr b5 0 ∧ f_ 6 = AV.int (y) ∧ f_ 23 = AV.bool ((((decide (y = 0))) || ((((decide (y < ((t.length : Nat) : Int)))) && ((decide (y < 6)))))))) (fun M hM => ?_) (fun fr5 τz1 hm => ?_)
  ·rcases Bool.eq_false_or_eq_true ((decide (y = 0))) with y0 | y0
   ·have y0' := y0
    try simp at y0'
    simp [go_sem, f0, f1, f4, f5, f6, gb4, gb5, y0, y0']
    refine (hM _ _).2 ⟨rfl, ?_, ?_, ?_, ?_, ?_, ?_⟩ <;> simp [go_sem, f0, f1, f4, f5, f6, gb4, gb5, y0, y0']
   ·have y0' := y0
    try simp at y0'
    rcases Bool.eq_false_or_eq_true ((decide (y < ((t.length : Nat) : Int)))) with y2 | y2
    ·have y2' := y2
     try simp [y0'] at y2'
     simp [go_sem, f0, f1, f4, f5, f6, gb4, gb5, y0, y0', y2, y2']
     refine (hM _ _).2 ⟨rfl, ?_, ?_, ?_, ?_, ?_, ?_⟩ <;> simp [go_sem, f0, f1, f4, f5, f6, gb4, gb5, y0, y0', y2, y2']
    ·have y2' := y2
     try simp [y0'] at y2'
     simp [go_sem, f0, f1, f4, f5, f6, gb4, gb5, y0, y0', y2, y2']
     refine (hM _ _).2 ⟨rfl, ?_, ?_, ?_, ?_, ?_, ?_⟩ <;> simp [go_sem, f0, f1, f4, f5, f6, gb4, gb5, y0, y0', y2, y2']
  clear f0 f1 f4 f5 f6
  obtain ⟨rfl, f0, f1, f4, f5, f6, f23⟩ := hm
  refine SW.cond _ f23 (fun hx => ?_) (fun hx => ?_)
  ·have hbi := condT hbi hx
   refine SW.skip ?_
   refine SW.seq ?_
   refine SW.block ?_
   refine SW.seq ?_
   refine SW.regX (fun f_ t_ => ∃ b7 : Nat, f_ 0 = sl_Ar2_Int (t) ∧ f_ 1 = sl_Ar2_Int (o) ∧ f_ 4 = AV.ptr b4 0 ∧ f_ 5 = AV.ptr b5 0 ∧ f_ 6 = AV.int (y) ∧ f_ 7 = AV.ptr b7 0 ∧ Kept σ0 t_ ∧ σ0.next ≤ t_.next ∧ t_.get b4 = some [AV.nils, AV.nils] ∧ b4 < t_.next ∧ t_.get b5 = some [v, AV.nils] ∧ b5 < t_.next ∧ t_.get b7 = some [AV.lit (.int .u8 (0)), AV.lit (.int .u8 (0))] ∧ b7 < t_.next ∧ ArrAt σ0.next t_ v 94 (x.flatMap nodeC) x.length 4 ∧ σ0.next ≤ b7 ∧ ¬ b4 = b7 ∧ ¬ b5 = b7 ∧ (∀ i, idOf v = some i → ¬ i = b7)) (fun M hM => ?_) (fun fr6 τ3 hm => ?_)
   ·have nb4_0 : ¬ b4 = τ2.next := by omega
    have nb5_0 : ¬ b5 = τ2.next := by omega
    simp [go_sem, f0, f1, f23, f4, f5, f6, gb4, gb5, nb4_0, nb5_0]
    refine (hM _ _).2 ⟨τ2.next, ?_, ?_, ?_, ?_, ?_, ?_, by intro j hj; have hj_ := hK j hj; simp [go_sem, hj_.1, hj_.2, show ¬ j = τ2.next by omega], by first | omega | (simp [go_sem]; done) | (simp [go_sem]; omega), by simp (disch := omega) [get_alloc_ne, get_set_ne, get_kill_ne, go_sem, f0, f1, f23, f4, f5, f6, gb4, gb5, nb4_0, nb5_0], by first | omega | (simp [go_sem]; done) | (simp [go_sem]; omega), by simp (disch := omega) [get_alloc_ne, get_set_ne, get_kill_ne, go_sem, f0, f1, f23, f4, f5, f6, gb4, gb5, nb4_0, nb5_0], by first | omega | (simp [go_sem]; done) | (simp [go_sem]; omega), by simp (disch := omega) [get_alloc_ne, get_set_ne, get_kill_ne, go_sem, f0, f1, f23, f4, f5, f6, gb4, gb5, nb4_0, nb5_0], by first | omega | (simp [go_sem]; done) | (simp [go_sem]; omega), av.same' (by simp [go_sem]; try omega) (fun i hi => by have zl := arrAt_lt av i hi; have zi0 : ¬ i = τ2.next := (by omega); constructor <;> simp [go_sem, zi0]), by omega, by omega, by omega, by first | exact evb7 | (intro i hi; have := arrAt_lt av i hi; omega)⟩ <;> simp [go_sem, f0, f1, f23, f4, f5, f6, gb4, gb5, nb4_0, nb5_0]
   clear f0 f1 f23 f4 f5 f6 hK hN gb4 ub4 gb5 ub5 av
   obtain ⟨b7, f0, f1, f4, f5, f6, f7, hK, hN, gb4, ub4, gb5, ub5, gb7, ub7, av, wb7, eb4b7, eb5b7, evb7⟩ := hm
   refine SW.seq ?_
   refine SW.seq ?_
   refine SW.regX (fun f_ t_ => τ3 = t_ ∧ f_ 0 = sl_Ar2_Int (t) ∧ f_ 1 = sl_Ar2_Int (o) ∧ f_ 4 = AV.ptr b4 0 ∧ f_ 5 = AV.ptr b5 0 ∧ f_ 6 = AV.int (y) ∧ f_ 7 = AV.ptr b7 0 ∧ f_ 30 = AV.bool ((decide (y < ((t.length : Nat) : Int))))) (fun M hM => ?_) (fun fr7 τz2 hm => ?_)
   ·simp [go_sem, f0, f1, f4, f5, f6, f7, gb4, gb5, gb7]
    refine (hM _ _).2 ⟨rfl, ?_, ?_, ?_, ?_, ?_, ?_, ?_⟩ <;> simp [go_sem, f0, f1, f4, f5, f6, f7, gb4, gb5, gb7]
   clear f0 f1 f4 f5 f6 f7
   obtain ⟨rfl, f0, f1, f4, f5, f6, f7, f30⟩ := hm
   obtain ⟨oj, hjj, hoj⟩ := obind hbi
   obtain ⟨J, hJ⟩ : ∃ J : Fr → Mem → Prop, ∀ fr' τ', J fr' τ' ↔ (∃ x1 : Int, ∃ x2 : Int, oj = .done (x1, x2) ∧ fr' 0 = sl_Ar2_Int (t) ∧ fr' 1 = sl_Ar2_Int (o) ∧ fr' 4 = AV.ptr b4 0 ∧ fr' 5 = AV.ptr b5 0 ∧ fr' 6 = AV.int (y) ∧ fr' 7 = AV.ptr b7 0 ∧ Kept σ0 τ' ∧ σ0.next ≤ τ'.next ∧ τ'.get b4 = some [AV.nils, AV.nils] ∧ b4 < τ'.next ∧ τ'.get b5 = some [v, AV.nils] ∧ b5 < τ'.next ∧ τ'.get b7 = some [AV.lit (.int .u8 (x1)), AV.lit (.int .u8 (x2))] ∧ b7 < τ'.next ∧ ArrAt σ0.next τ' v 94 (x.flatMap nodeC) x.length 4) := ⟨_, fun _ _ => Iff.rfl⟩
   refine SW.cut J ?_ ?_
   ·refine SW.cond _ f30 (fun hx1 => ?_) (fun hx1 => ?_)
    ·have hjj := condT hjj hx1
     obtain ⟨x3, hx3, hjj⟩ := obind hjj
     have xpx3 := getI_pos hx3
     have xlx3 := getI_lt hx3
     have xix3 := getI_N hx3
     have xdx3 := getN_flat Ar2_IntC 2 (fun _ => rfl) xix3
     refine SW.regX (fun f_ t_ => f_ 0 = sl_Ar2_Int (t) ∧ f_ 1 = sl_Ar2_Int (o) ∧ f_ 4 = AV.ptr b4 0 ∧ f_ 5 = AV.ptr b5 0 ∧ f_ 6 = AV.int (y) ∧ f_ 7 = AV.ptr b7 0 ∧ Kept σ0 t_ ∧ σ0.next ≤ t_.next ∧ t_.get b4 = some [AV.nils, AV.nils] ∧ b4 < t_.next ∧ t_.get b5 = some [v, AV.nils] ∧ b5 < t_.next ∧ t_.get b7 = some [AV.lit (.int .u8 (x3.a0)), AV.lit (.int .u8 (x3.a1))] ∧ b7 < t_.next ∧ ArrAt σ0.next t_ v 94 (x.flatMap nodeC) x.length 4) (fun M hM => ?_) (fun fr9 τ5 hm => ?_)
     ·have nb4_b7 : ¬ b4 = b7 := by omega
      have nb5_b7 : ¬ b5 = b7 := by omega
      simp [go_sem, f0, f1, f30, f4, f5, f6, f7, gb4, gb5, gb7, xpx3, xlx3, xdx3, Ar2_IntC, nb4_b7, nb5_b7]
      refine (hM _ _).2 ⟨?_, ?_, ?_, ?_, ?_, ?_, by intro j hj; have hj_ := hK j hj; simp [go_sem, hj_.1, hj_.2, show ¬ j = b7 by omega], by first | omega | (simp [go_sem]; done) | (simp [go_sem]; omega), by simp (disch := omega) [get_alloc_ne, get_set_ne, get_kill_ne, go_sem, f0, f1, f30, f4, f5, f6, f7, gb4, gb5, gb7, xpx3, xlx3, xdx3, Ar2_IntC, nb4_b7, nb5_b7], by first | omega | (simp [go_sem]; done) | (simp [go_sem]; omega), by simp (disch := omega) [get_alloc_ne, get_set_ne, get_kill_ne, go_sem, f0, f1, f30, f4, f5, f6, f7, gb4, gb5, gb7, xpx3, xlx3, xdx3, Ar2_IntC, nb4_b7, nb5_b7], by first | omega | (simp [go_sem]; done) | (simp [go_sem]; omega), by simp (disch := omega) [get_alloc_ne, get_set_ne, get_kill_ne, go_sem, f0, f1, f30, f4, f5, f6, f7, gb4, gb5, gb7, xpx3, xlx3, xdx3, Ar2_IntC, nb4_b7, nb5_b7], by first | omega | (simp [go_sem]; done) | (simp [go_sem]; omega), av.same' (by simp [go_sem]; try omega) (fun i hi => by have zl := arrAt_lt av i hi; have zs0 := evb7 i hi; constructor <;> simp [go_sem, zs0])⟩ <;> simp [go_sem, f0, f1, f30, f4, f5, f6, f7, gb4, gb5, gb7, xpx3, xlx3, xdx3, Ar2_IntC, nb4_b7, nb5_b7]
     clear f0 f1 f30 f4 f5 f6 f7 hK hN gb4 ub4 gb5 ub5 gb7 ub7 av
     obtain ⟨f0, f1, f4, f5, f6, f7, hK, hN, gb4, ub4, gb5, ub5, gb7, ub7, av⟩ := hm
     exact SW.goal ((hJ _ _).2 ⟨x3.a0, x3.a1, (Option.some.inj hjj).symm, f0, f1, f4, f5, f6, f7, hK, hN, gb4, ub4, gb5, ub5, gb7, ub7, av⟩)
    have hjj := condF hjj hx1
    refine SW.skip ?_
    exact SW.goal ((hJ _ _).2 ⟨0, 0, (Option.some.inj hjj).symm, f0, f1, f4, f5, f6, f7, hK, hN, gb4, ub4, gb5, ub5, gb7, ub7, av⟩)
   intro fr8 τ4 hm
   rw [hJ] at hm
   clear hJ
   clear f0 f1 f30 f4 f5 f6 f7 hK hN gb4 ub4 gb5 ub5 gb7 ub7 av
   obtain ⟨x1, x2, rfl, f0, f1, f4, f5, f6, f7, hK, hN, gb4, ub4, gb5, ub5, gb7, ub7, av⟩ := hm
   simp only [Out.on] at hoj
   refine SW.seq ?_
   obtain ⟨w, nw⟩ : ∃ w : Int, (IntKind.i64.wrap (y + 1)) = w := ⟨_, rfl⟩
   rw [nw] at hoj
   obtain ⟨w1, hw1, hoj⟩ := obind hoj
   obtain ⟨pw1, qw1, rw1, ew1⟩ := cutL_spec hw1
   simp at rw1
   obtain ⟨z, hz, hoj⟩ := obind hoj
   have nz := nzI_spec hz
   have mz := nz
   try simp at mz
   refine SW.regX (fun f_ t_ => ∃ b8 : Nat, f_ 0 = sl_Ar2_Int (t) ∧ f_ 1 = sl_Ar2_Int (o) ∧ f_ 4 = AV.ptr b4 0 ∧ f_ 5 = AV.ptr b5 0 ∧ f_ 6 = AV.int (y) ∧ f_ 7 = AV.ptr b7 0 ∧ f_ 8 = AV.ptr b8 0 ∧ Kept σ0 t_ ∧ σ0.next ≤ t_.next ∧ t_.get b4 = some [AV.nils, AV.nils] ∧ b4 < t_.next ∧ t_.get b5 = some [v, AV.nils] ∧ b5 < t_.next ∧ t_.get b7 = some [AV.lit (.int .u8 (x1)), AV.lit (.int .u8 (x2))] ∧ b7 < t_.next ∧ t_.get b8 = some [AV.str (w1), AV.int ((IntKind.i64.wrap ((Int.tmod ((IntKind.i64.wrap x1)) w) - 1))), AV.bool ((decide ((Int.tmod ((IntKind.u8.wrap (Int.tdiv x1 16))) 4) = 3))), AV.nils] ∧ b8 < t_.next ∧ ArrAt σ0.next t_ v 94 (x.flatMap nodeC) x.length 4 ∧ σ0.next ≤ b8 ∧ ¬ b4 = b8 ∧ ¬ b5 = b8 ∧ ¬ b7 = b8 ∧ (∀ i, idOf v = some i → ¬ i = b8)) (fun M hM => ?_) (fun fr10 τ6 hm => ?_)
   ·have nb4_0 : ¬ b4 = τ4.next := by omega
    have nb5_0 : ¬ b5 = τ4.next := by omega
    have nb7_0 : ¬ b7 = τ4.next := by omega
    have nb4_b5 : ¬ b4 = b5 := by omega
    have nb4_b7 : ¬ b4 = b7 := by omega
    have nb5_b4 : ¬ b5 = b4 := by omega
    have nb5_b7 : ¬ b5 = b7 := by omega
    have nb7_b4 : ¬ b7 = b4 := by omega
    have nb7_b5 : ¬ b7 = b5 := by omega
    refine EW_regionY τ4 19 (.q false 0 (.q false 1 (.q false 2 (.q false 3 (.q false 4 (.q false 5 (.q false 6 (.q false 7 (.q false 8 (.q false 9 (.q false 10 (.q false 11 (.q false 12 (.q false 13 (.q false 14 (.q false 15 (.q false 16 (.s 17 (.s 18 .done))))))))))))))))))) (by kernel_rfl) (by kernel_rfl) (fun _ _ h => h) (fun hfin => ?_)
    have m0_ : τ4.get (τ4.next) = none := hfin _ (by omega)
    have hsub : Sub τ4 τ4 := (fun _ _ h => h)
    simp (maxDischargeDepth := 12) [go_sem, f0, f1, f4, f5, f6, f7, gb4, gb5, gb7, pw1, qw1, rw1, nw, nz, mz, nw, nb4_0, nb5_0, nb7_0, nb4_b5, nb4_b7, nb5_b4, nb5_b7, nb7_b4, nb7_b5, m0_, sub_set, sub_killAll, hsub]
    refine (hM _ _).2 ⟨τ4.next, ?_, ?_, ?_, ?_, ?_, ?_, ?_, by intro j hj; have hj_ := hK j hj; simp [go_sem, hj_.1, hj_.2, show ¬ j = τ4.next by omega], by first | omega | (simp [go_sem]; done) | (simp [go_sem]; omega), by simp (disch := omega) [get_alloc_ne, get_set_ne, get_kill_ne, go_sem, f0, f1, f4, f5, f6, f7, gb4, gb5, gb7, pw1, qw1, rw1, nw, nz, mz, nw, nb4_0, nb5_0, nb7_0, nb4_b5, nb4_b7, nb5_b4, nb5_b7, nb7_b4, nb7_b5, m0_, sub_set, sub_killAll, hsub, ew1], by first | omega | (simp [go_sem]; done) | (simp [go_sem]; omega), by simp (disch := omega) [get_alloc_ne, get_set_ne, get_kill_ne, go_sem, f0, f1, f4, f5, f6, f7, gb4, gb5, gb7, pw1, qw1, rw1, nw, nz, mz, nw, nb4_0, nb5_0, nb7_0, nb4_b5, nb4_b7, nb5_b4, nb5_b7, nb7_b4, nb7_b5, m0_, sub_set, sub_killAll, hsub, ew1], by first | omega | (simp [go_sem]; done) | (simp [go_sem]; omega), by simp (disch := omega) [get_alloc_ne, get_set_ne, get_kill_ne, go_sem, f0, f1, f4, f5, f6, f7, gb4, gb5, gb7, pw1, qw1, rw1, nw, nz, mz, nw, nb4_0, nb5_0, nb7_0, nb4_b5, nb4_b7, nb5_b4, nb5_b7, nb7_b4, nb7_b5, m0_, sub_set, sub_killAll, hsub, ew1], by first | omega | (simp [go_sem]; done) | (simp [go_sem]; omega), by simp (disch := omega) [get_alloc_ne, get_set_ne, get_kill_ne, go_sem, f0, f1, f4, f5, f6, f7, gb4, gb5, gb7, pw1, qw1, rw1, nw, nz, mz, nw, nb4_0, nb5_0, nb7_0, nb4_b5, nb4_b7, nb5_b4, nb5_b7, nb7_b4, nb7_b5, m0_, sub_set, sub_killAll, hsub, ew1], by first | omega | (simp [go_sem]; done) | (simp [go_sem]; omega), av.same' (by simp [go_sem]; try omega) (fun i hi => by have zl := arrAt_lt av i hi; have zi0 : ¬ i = τ4.next := (by omega); constructor <;> simp [go_sem, zi0]), by omega, by omega, by omega, by omega, by first | exact evb8 | (intro i hi; have := arrAt_lt av i hi; omega)⟩ <;> simp [go_sem, f0, f1, f4, f5, f6, f7, gb4, gb5, gb7, pw1, qw1, rw1, nw, nz, mz, nw, nb4_0, nb5_0, nb7_0, nb4_b5, nb4_b7, nb5_b4, nb5_b7, nb7_b4, nb7_b5, m0_, sub_set, sub_killAll, hsub, ew1]
   clear f0 f1 f4 f5 f6 f7 hK hN gb4 ub4 gb5 ub5 gb7 ub7 av
   obtain ⟨b8, f0, f1, f4, f5, f6, f7, f8, hK, hN, gb4, ub4, gb5, ub5, gb7, ub7, gb8, ub8, av, wb8, eb4b8, eb5b8, eb7b8, evb8⟩ := hm
   refine SW.seq ?_
   refine SW.seq ?_
   obtain ⟨w2, hw2, hoj⟩ := obind hoj
   obtain ⟨pw2, qw2, rw2, ew2⟩ := cutL_spec hw2
   simp at rw2
   refine SW.regX (fun f_ t_ => τ6 = t_ ∧ f_ 0 = sl_Ar2_Int (t) ∧ f_ 1 = sl_Ar2_Int (o) ∧ f_ 4 = AV.ptr b4 0 ∧ f_ 5 = AV.ptr b5 0 ∧ f_ 6 = AV.int (y) ∧ f_ 7 = AV.ptr b7 0 ∧ f_ 8 = AV.ptr b8 0 ∧ f_ 9 = AV.str (w2)) (fun M hM => ?_) (fun fr11 τz3 hm => ?_)
   ·simp [go_sem, f0, f1, f4, f5, f6, f7, f8, gb4, gb5, gb7, gb8, nw, pw2, qw2, rw2]
    refine (hM _ _).2 ⟨rfl, ?_, ?_, ?_, ?_, ?_, ?_, ?_, ?_⟩ <;> simp [go_sem, f0, f1, f4, f5, f6, f7, f8, gb4, gb5, gb7, gb8, nw, pw2, qw2, rw2, ew2]
   clear f0 f1 f4 f5 f6 f7 f8
   obtain ⟨rfl, f0, f1, f4, f5, f6, f7, f8, f9⟩ := hm
   refine SW.seq ?_
   refine SW.regX (fun f_ t_ => τ6 = t_ ∧ f_ 0 = sl_Ar2_Int (t) ∧ f_ 1 = sl_Ar2_Int (o) ∧ f_ 4 = AV.ptr b4 0 ∧ f_ 5 = AV.ptr b5 0 ∧ f_ 6 = AV.int (y) ∧ f_ 7 = AV.ptr b7 0 ∧ f_ 8 = AV.ptr b8 0 ∧ f_ 9 = AV.str (w2) ∧ f_ 58 = AV.lit (.int .u8 ((Int.tmod x2 4)))) (fun M hM => ?_) (fun fr12 τz4 hm => ?_)
   ·simp [go_sem, f0, f1, f4, f5, f6, f7, f8, f9, gb4, gb5, gb7, gb8]
    refine (hM _ _).2 ⟨rfl, ?_, ?_, ?_, ?_, ?_, ?_, ?_, ?_, ?_⟩ <;> simp [go_sem, f0, f1, f4, f5, f6, f7, f8, f9, gb4, gb5, gb7, gb8]
   clear f0 f1 f4 f5 f6 f7 f8 f9
   obtain ⟨rfl, f0, f1, f4, f5, f6, f7, f8, f9, f58⟩ := hm
   obtain ⟨oj1, hjj1, hoj1⟩ := obind hoj
   obtain ⟨J, hJ⟩ : ∃ J : Fr → Mem → Prop, ∀ fr' τ', J fr' τ' ↔ (∃ x4 : List Attr, oj1 = .done x4 ∧ fr' 0 = sl_Ar2_Int (t) ∧ fr' 1 = sl_Ar2_Int (o) ∧ fr' 4 = AV.ptr b4 0 ∧ fr' 5 = AV.ptr b5 0 ∧ fr' 6 = AV.int (y) ∧ fr' 8 = AV.ptr b8 0 ∧ Kept σ0 τ' ∧ σ0.next ≤ τ'.next ∧ τ'.get b4 = some [AV.nils, AV.nils] ∧ b4 < τ'.next ∧ τ'.get b5 = some [v, AV.nils] ∧ b5 < τ'.next ∧ τ'.get b8 = some [AV.str (w1), AV.int ((IntKind.i64.wrap ((Int.tmod ((IntKind.i64.wrap x1)) w) - 1))), AV.bool ((decide ((Int.tmod ((IntKind.u8.wrap (Int.tdiv x1 16))) 4) = 3))), attrsA (x4)] ∧ b8 < τ'.next ∧ ArrAt σ0.next τ' v 94 (x.flatMap nodeC) x.length 4) := ⟨_, fun _ _ => Iff.rfl⟩
   refine SW.cut J ?_ ?_
   ·refine SW.block ?_
    refine SW.seq ?_
    refine SW.regX (fun f_ t_ => τ6 = t_ ∧ f_ 0 = sl_Ar2_Int (t) ∧ f_ 1 = sl_Ar2_Int (o) ∧ f_ 4 = AV.ptr b4 0 ∧ f_ 5 = AV.ptr b5 0 ∧ f_ 6 = AV.int (y) ∧ f_ 7 = AV.ptr b7 0 ∧ f_ 8 = AV.ptr b8 0 ∧ f_ 9 = AV.str (w2) ∧ f_ 58 = AV.lit (.int .u8 ((Int.tmod x2 4))) ∧ f_ 59 = AV.bool ((decide ((Int.tmod x2 4) = 1)))) (fun M hM => ?_) (fun fr14 τz5 hm => ?_)
    ·simp [go_sem, f0, f1, f4, f5, f58, f6, f7, f8, f9, gb4, gb5, gb7, gb8]
     refine (hM _ _).2 ⟨rfl, ?_, ?_, ?_, ?_, ?_, ?_, ?_, ?_, ?_, ?_⟩ <;> simp [go_sem, f0, f1, f4, f5, f58, f6, f7, f8, f9, gb4, gb5, gb7, gb8]
    clear f0 f1 f4 f5 f58 f6 f7 f8 f9
    obtain ⟨rfl, f0, f1, f4, f5, f6, f7, f8, f9, f58, f59⟩ := hm
    refine SW.cond _ f59 (fun hx2 => ?_) (fun hx2 => ?_)
    ·have hjj1 := condT hjj1 hx2
     refine SW.regX (fun f_ t_ => ∃ l : Nat, f_ 0 = sl_Ar2_Int (t) ∧ f_ 1 = sl_Ar2_Int (o) ∧ f_ 4 = AV.ptr b4 0 ∧ f_ 5 = AV.ptr b5 0 ∧ f_ 6 = AV.int (y) ∧ f_ 8 = AV.ptr b8 0 ∧ Kept σ0 t_ ∧ σ0.next ≤ t_.next ∧ t_.get b4 = some [AV.nils, AV.nils] ∧ b4 < t_.next ∧ t_.get b5 = some [v, AV.nils] ∧ b5 < t_.next ∧ t_.get b8 = some [AV.str (w1), AV.int ((IntKind.i64.wrap ((Int.tmod ((IntKind.i64.wrap x1)) w) - 1))), AV.bool ((decide ((Int.tmod ((IntKind.u8.wrap (Int.tdiv x1 16))) 4) = 3))), AV.arr l 0 1 4] ∧ b8 < t_.next ∧ t_.get l = some [AV.str (w2), AV.int (-3), AV.int ((IntKind.i64.wrap (3 + (Int.tmod ((IntKind.i64.wrap ((IntKind.u8.wrap (Int.tdiv x2 4))))) 9)))), AV.nils] ∧ l < t_.next ∧ ArrAt σ0.next t_ v 94 (x.flatMap nodeC) x.length 4 ∧ σ0.next ≤ l ∧ ¬ b4 = l ∧ ¬ b5 = l ∧ ¬ b8 = l ∧ (∀ i, idOf v = some i → ¬ i = l)) (fun M hM => ?_) (fun fr15 τ8 hm => ?_)
     ·have nb4_0 : ¬ b4 = τ6.next := by omega
      have nb5_0 : ¬ b5 = τ6.next := by omega
      have nb7_0 : ¬ b7 = τ6.next := by omega
      have nb8_0 : ¬ b8 = τ6.next := by omega
      have nb4_b8 : ¬ b4 = b8 := by omega
      have nb5_b8 : ¬ b5 = b8 := by omega
      have nb7_b8 : ¬ b7 = b8 := by omega
      simp [go_sem, f0, f1, f4, f5, f58, f59, f6, f7, f8, f9, gb4, gb5, gb7, gb8, nb4_0, nb5_0, nb7_0, nb8_0, nb4_b8, nb5_b8, nb7_b8]
      refine (hM _ _).2 ⟨τ6.next, ?_, ?_, ?_, ?_, ?_, ?_, by intro j hj; have hj_ := hK j hj; simp [go_sem, hj_.1, hj_.2, show ¬ j = τ6.next by omega, show ¬ j = b8 by omega], by first | omega | (simp [go_sem]; done) | (simp [go_sem]; omega), by simp (disch := omega) [get_alloc_ne, get_set_ne, get_kill_ne, go_sem, f0, f1, f4, f5, f58, f59, f6, f7, f8, f9, gb4, gb5, gb7, gb8, nb4_0, nb5_0, nb7_0, nb8_0, nb4_b8, nb5_b8, nb7_b8], by first | omega | (simp [go_sem]; done) | (simp [go_sem]; omega), by simp (disch := omega) [get_alloc_ne, get_set_ne, get_kill_ne, go_sem, f0, f1, f4, f5, f58, f59, f6, f7, f8, f9, gb4, gb5, gb7, gb8, nb4_0, nb5_0, nb7_0, nb8_0, nb4_b8, nb5_b8, nb7_b8], by first | omega | (simp [go_sem]; done) | (simp [go_sem]; omega), by simp (disch := omega) [get_alloc_ne, get_set_ne, get_kill_ne, go_sem, f0, f1, f4, f5, f58, f59, f6, f7, f8, f9, gb4, gb5, gb7, gb8, nb4_0, nb5_0, nb7_0, nb8_0, nb4_b8, nb5_b8, nb7_b8], by first | omega | (simp [go_sem]; done) | (simp [go_sem]; omega), by simp (disch := omega) [get_alloc_ne, get_set_ne, get_kill_ne, go_sem, f0, f1, f4, f5, f58, f59, f6, f7, f8, f9, gb4, gb5, gb7, gb8, nb4_0, nb5_0, nb7_0, nb8_0, nb4_b8, nb5_b8, nb7_b8], by first | omega | (simp [go_sem]; done) | (simp [go_sem]; omega), av.same' (by simp [go_sem]; try omega) (fun i hi => by have zl := arrAt_lt av i hi; have zs0 := evb8 i hi; have zi0 : ¬ i = τ6.next := (by omega); constructor <;> simp [go_sem, zs0, zi0]), by omega, by omega, by omega, by omega, by first | exact evl | (intro i hi; have := arrAt_lt av i hi; omega)⟩ <;> simp [go_sem, f0, f1, f4, f5, f58, f59, f6, f7, f8, f9, gb4, gb5, gb7, gb8, nb4_0, nb5_0, nb7_0, nb8_0, nb4_b8, nb5_b8, nb7_b8]
     clear f0 f1 f4 f5 f58 f59 f6 f7 f8 f9 hK hN gb4 ub4 gb5 ub5 gb7 ub7 gb8 ub8 av
     obtain ⟨l, f0, f1, f4, f5, f6, f8, hK, hN, gb4, ub4, gb5, ub5, gb8, ub8, gl, ul, av, wl, eb4l, eb5l, eb8l, evl⟩ := hm
     refine SW.blk ?_
     refine SW.frzBG (y := AV.imm (([(⟨w2, -3, (IntKind.i64.wrap (3 + (Int.tmod ((IntKind.i64.wrap ((IntKind.u8.wrap (Int.tdiv x2 4))))) 9))), ([] : List (List UInt8))⟩ : Attr)] : List Attr)).length ((([(⟨w2, -3, (IntKind.i64.wrap (3 + (Int.tmod ((IntKind.i64.wrap ((IntKind.u8.wrap (Int.tdiv x2 4))))) 9))), ([] : List (List UInt8))⟩ : Attr)] : List Attr)).flatMap attrC)) b8 3 [l] gb8 rfl (.arrL (by simp) gl (frzSL_c (.keep _) (frzSL_c (.keep _) (frzSL_c (.keep _) (frzSL_c (.nil) (frzSL_n)))))) (by simp; omega) ?_
     obtain ⟨τ9, hτ⟩ : ∃ x, x = (killAll τ8 [l]).set b8 ([AV.str (w1), AV.int ((IntKind.i64.wrap ((Int.tmod ((IntKind.i64.wrap x1)) w) - 1))), AV.bool ((decide ((Int.tmod ((IntKind.u8.wrap (Int.tdiv x1 16))) 4) = 3))), AV.arr l 0 1 4].set 3 (AV.imm (([(⟨w2, -3, (IntKind.i64.wrap (3 + (Int.tmod ((IntKind.i64.wrap ((IntKind.u8.wrap (Int.tdiv x2 4))))) 9))), ([] : List (List UInt8))⟩ : Attr)] : List Attr)).length ((([(⟨w2, -3, (IntKind.i64.wrap (3 + (Int.tmod ((IntKind.i64.wrap ((IntKind.u8.wrap (Int.tdiv x2 4))))) 9))), ([] : List (List UInt8))⟩ : Attr)] : List Attr)).flatMap attrC))) := ⟨_, rfl⟩
     rw [← hτ]
     have hK : Kept σ0 τ9 := by rw [hτ]; exact (hK.killAll (fun i hi => by simp at hi; omega)).set wb8
     have hN : σ0.next ≤ τ9.next := by rw [hτ]; exact hN
     have gb4 : τ9.get b4 = some [AV.nils, AV.nils] := by rw [hτ, get_set, if_neg (by first | exact eb4b8 | exact fun e => eb8b4 e.symm), killAll_get _ _ (by simp; omega)]; exact gb4
     have ub4 : b4 < τ9.next := by rw [hτ]; exact ub4
     have gb5 : τ9.get b5 = some [v, AV.nils] := by rw [hτ, get_set, if_neg (by first | exact eb5b8 | exact fun e => eb8b5 e.symm), killAll_get _ _ (by simp; omega)]; exact gb5
     have ub5 : b5 < τ9.next := by rw [hτ]; exact ub5
     have gb8 : τ9.get b8 = some [AV.str (w1), AV.int ((IntKind.i64.wrap ((Int.tmod ((IntKind.i64.wrap x1)) w) - 1))), AV.bool ((decide ((Int.tmod ((IntKind.u8.wrap (Int.tdiv x1 16))) 4) = 3))), attrsA (([(⟨w2, -3, (IntKind.i64.wrap (3 + (Int.tmod ((IntKind.i64.wrap ((IntKind.u8.wrap (Int.tdiv x2 4))))) 9))), ([] : List (List UInt8))⟩ : Attr)] : List Attr))] := by rw [hτ, get_set, if_pos rfl]; rfl
     have ub8 : b8 < τ9.next := by rw [hτ]; exact ub8
     have av : ArrAt σ0.next τ9 v 94 (x.flatMap nodeC) x.length 4 := by rw [hτ]; exact (av.killAll (fun i hi h => by simp at hi; have := evl i h; omega)).set_ne evb8
     clear hτ
     exact SW.goal ((hJ _ _).2 ⟨([(⟨w2, -3, (IntKind.i64.wrap (3 + (Int.tmod ((IntKind.i64.wrap ((IntKind.u8.wrap (Int.tdiv x2 4))))) 9))), ([] : List (List UInt8))⟩ : Attr)] : List Attr), (Option.some.inj hjj1).symm, f0, f1, f4, f5, f6, f8, hK, hN, gb4, ub4, gb5, ub5, gb8, ub8, av⟩)
    have hjj1 := condF hjj1 hx2
    refine SW.seq ?_
    refine SW.regX (fun f_ t_ => τ6 = t_ ∧ f_ 0 = sl_Ar2_Int (t) ∧ f_ 1 = sl_Ar2_Int (o) ∧ f_ 4 = AV.ptr b4 0 ∧ f_ 5 = AV.ptr b5 0 ∧ f_ 6 = AV.int (y) ∧ f_ 8 = AV.ptr b8 0 ∧ f_ 9 = AV.str (w2) ∧ f_ 71 = AV.bool ((decide ((Int.tmod x2 4) = 2)))) (fun M hM => ?_) (fun fr17 τz6 hm => ?_)
    ·simp [go_sem, f0, f1, f4, f5, f58, f59, f6, f7, f8, f9, gb4, gb5, gb7, gb8]
     refine (hM _ _).2 ⟨rfl, ?_, ?_, ?_, ?_, ?_, ?_, ?_, ?_⟩ <;> simp [go_sem, f0, f1, f4, f5, f58, f59, f6, f7, f8, f9, gb4, gb5, gb7, gb8]
    clear f0 f1 f4 f5 f58 f59 f6 f7 f8 f9
    obtain ⟨rfl, f0, f1, f4, f5, f6, f8, f9, f71⟩ := hm
    refine SW.cond _ f71 (fun hx3 => ?_) (fun hx3 => ?_)
    ·have hjj1 := condT hjj1 hx3
     refine SW.regX (fun f_ t_ => ∃ l1 : Nat, ∃ l2 : Nat, f_ 0 = sl_Ar2_Int (t) ∧ f_ 1 = sl_Ar2_Int (o) ∧ f_ 4 = AV.ptr b4 0 ∧ f_ 5 = AV.ptr b5 0 ∧ f_ 6 = AV.int (y) ∧ f_ 8 = AV.ptr b8 0 ∧ Kept σ0 t_ ∧ σ0.next ≤ t_.next ∧ t_.get b4 = some [AV.nils, AV.nils] ∧ b4 < t_.next ∧ t_.get b5 = some [v, AV.nils] ∧ b5 < t_.next ∧ t_.get b8 = some [AV.str (w1), AV.int ((IntKind.i64.wrap ((Int.tmod ((IntKind.i64.wrap x1)) w) - 1))), AV.bool ((decide ((Int.tmod ((IntKind.u8.wrap (Int.tdiv x1 16))) 4) = 3))), AV.arr l2 0 1 4] ∧ b8 < t_.next ∧ t_.get l1 = some [AV.str (([111, 102, 102] : List UInt8)), AV.str (([111, 110] : List UInt8))] ∧ l1 < t_.next ∧ t_.get l2 = some [AV.str (w2), AV.int (0), AV.int (1), AV.arr l1 0 2 1] ∧ l2 < t_.next ∧ ArrAt σ0.next t_ v 94 (x.flatMap nodeC) x.length 4 ∧ σ0.next ≤ l1 ∧ ¬ b4 = l1 ∧ ¬ b5 = l1 ∧ ¬ b8 = l1 ∧ (∀ i, idOf v = some i → ¬ i = l1) ∧ σ0.next ≤ l2 ∧ ¬ b4 = l2 ∧ ¬ b5 = l2 ∧ ¬ b8 = l2 ∧ ¬ l1 = l2 ∧ (∀ i, idOf v = some i → ¬ i = l2)) (fun M hM => ?_) (fun fr18 τ10 hm => ?_)
     ·have nb4_0 : ¬ b4 = τ6.next := by omega
      have nb4_1 : ¬ b4 = τ6.next + 1 := by omega
      have nb5_0 : ¬ b5 = τ6.next := by omega
      have nb5_1 : ¬ b5 = τ6.next + 1 := by omega
      have nb8_0 : ¬ b8 = τ6.next := by omega
      have nb8_1 : ¬ b8 = τ6.next + 1 := by omega
      have nb4_b8 : ¬ b4 = b8 := by omega
      have nb5_b8 : ¬ b5 = b8 := by omega
      simp [go_sem, f0, f1, f4, f5, f6, f71, f8, f9, gb4, gb5, gb8, nb4_0, nb4_1, nb5_0, nb5_1, nb8_0, nb8_1, nb4_b8, nb5_b8]
      refine (hM _ _).2 ⟨τ6.next, (τ6.next + 1), ?_, ?_, ?_, ?_, ?_, ?_, by intro j hj; have hj_ := hK j hj; simp [go_sem, hj_.1, hj_.2, show ¬ j = τ6.next by omega, show ¬ j = τ6.next + 1 by omega, show ¬ j = b8 by omega], by first | omega | (simp [go_sem]; done) | (simp [go_sem]; omega), by simp (disch := omega) [get_alloc_ne, get_set_ne, get_kill_ne, go_sem, f0, f1, f4, f5, f6, f71, f8, f9, gb4, gb5, gb8, nb4_0, nb4_1, nb5_0, nb5_1, nb8_0, nb8_1, nb4_b8, nb5_b8], by first | omega | (simp [go_sem]; done) | (simp [go_sem]; omega), by simp (disch := omega) [get_alloc_ne, get_set_ne, get_kill_ne, go_sem, f0, f1, f4, f5, f6, f71, f8, f9, gb4, gb5, gb8, nb4_0, nb4_1, nb5_0, nb5_1, nb8_0, nb8_1, nb4_b8, nb5_b8], by first | omega | (simp [go_sem]; done) | (simp [go_sem]; omega), by simp (disch := omega) [get_alloc_ne, get_set_ne, get_kill_ne, go_sem, f0, f1, f4, f5, f6, f71, f8, f9, gb4, gb5, gb8, nb4_0, nb4_1, nb5_0, nb5_1, nb8_0, nb8_1, nb4_b8, nb5_b8], by first | omega | (simp [go_sem]; done) | (simp [go_sem]; omega), by simp (disch := omega) [get_alloc_ne, get_set_ne, get_kill_ne, go_sem, f0, f1, f4, f5, f6, f71, f8, f9, gb4, gb5, gb8, nb4_0, nb4_1, nb5_0, nb5_1, nb8_0, nb8_1, nb4_b8, nb5_b8], by first | omega | (simp [go_sem]; done) | (simp [go_sem]; omega), by simp (disch := omega) [get_alloc_ne, get_set_ne, get_kill_ne, go_sem, f0, f1, f4, f5, f6, f71, f8, f9, gb4, gb5, gb8, nb4_0, nb4_1, nb5_0, nb5_1, nb8_0, nb8_1, nb4_b8, nb5_b8], by first | omega | (simp [go_sem]; done) | (simp [go_sem]; omega), av.same' (by simp [go_sem]; try omega) (fun i hi => by have zl := arrAt_lt av i hi; have zs0 := evb8 i hi; have zi0 : ¬ i = τ6.next := (by omega); have zi1 : ¬ i = τ6.next + 1 := (by omega); constructor <;> simp [go_sem, zs0, zi0, zi1]), by omega, by omega, by omega, by omega, by first | exact evl1 | (intro i hi; have := arrAt_lt av i hi; omega), by omega, by omega, by omega, by omega, by omega, by first | exact evl2 | (intro i hi; have := arrAt_lt av i hi; omega)⟩ <;> simp [go_sem, f0, f1, f4, f5, f6, f71, f8, f9, gb4, gb5, gb8, nb4_0, nb4_1, nb5_0, nb5_1, nb8_0, nb8_1, nb4_b8, nb5_b8]
     clear f0 f1 f4 f5 f6 f71 f8 f9 hK hN gb4 ub4 gb5 ub5 gb8 ub8 av
     obtain ⟨l1, l2, f0, f1, f4, f5, f6, f8, hK, hN, gb4, ub4, gb5, ub5, gb8, ub8, gl1, ul1, gl2, ul2, av, wl1, eb4l1, eb5l1, eb8l1, evl1, wl2, eb4l2, eb5l2, eb8l2, el1l2, evl2⟩ := hm
     refine SW.blk ?_
     refine SW.frzBG (y := AV.imm (([(⟨w2, 0, 1, ([([111, 102, 102] : List UInt8), ([111, 110] : List UInt8)] : List (List UInt8))⟩ : Attr)] : List Attr)).length ((([(⟨w2, 0, 1, ([([111, 102, 102] : List UInt8), ([111, 110] : List UInt8)] : List (List UInt8))⟩ : Attr)] : List Attr)).flatMap attrC)) b8 3 [l2, l1] gb8 rfl (.arrL (by simp) gl2 (frzSL_c (.keep _) (frzSL_c (.keep _) (frzSL_c (.keep _) (frzSL_c (.arrL (by simp) gl1 (frzSL_c (.keep _) (frzSL_c (.keep _) (frzSL_n)))) (frzSL_n)))))) (by simp; omega) ?_
     obtain ⟨τ11, hτ⟩ : ∃ x, x = (killAll τ10 [l2, l1]).set b8 ([AV.str (w1), AV.int ((IntKind.i64.wrap ((Int.tmod ((IntKind.i64.wrap x1)) w) - 1))), AV.bool ((decide ((Int.tmod ((IntKind.u8.wrap (Int.tdiv x1 16))) 4) = 3))), AV.arr l2 0 1 4].set 3 (AV.imm (([(⟨w2, 0, 1, ([([111, 102, 102] : List UInt8), ([111, 110] : List UInt8)] : List (List UInt8))⟩ : Attr)] : List Attr)).length ((([(⟨w2, 0, 1, ([([111, 102, 102] : List UInt8), ([111, 110] : List UInt8)] : List (List UInt8))⟩ : Attr)] : List Attr)).flatMap attrC))) := ⟨_, rfl⟩
     rw [← hτ]
     have hK : Kept σ0 τ11 := by rw [hτ]; exact (hK.killAll (fun i hi => by simp at hi; omega)).set wb8
     have hN : σ0.next ≤ τ11.next := by rw [hτ]; exact hN
     have gb4 : τ11.get b4 = some [AV.nils, AV.nils] := by rw [hτ, get_set, if_neg (by first | exact eb4b8 | exact fun e => eb8b4 e.symm), killAll_get _ _ (by simp; omega)]; exact gb4
     have ub4 : b4 < τ11.next := by rw [hτ]; exact ub4
     have gb5 : τ11.get b5 = some [v, AV.nils] := by rw [hτ, get_set, if_neg (by first | exact eb5b8 | exact fun e => eb8b5 e.symm), killAll_get _ _ (by simp; omega)]; exact gb5
     have ub5 : b5 < τ11.next := by rw [hτ]; exact ub5
     have gb8 : τ11.get b8 = some [AV.str (w1), AV.int ((IntKind.i64.wrap ((Int.tmod ((IntKind.i64.wrap x1)) w) - 1))), AV.bool ((decide ((Int.tmod ((IntKind.u8.wrap (Int.tdiv x1 16))) 4) = 3))), attrsA (([(⟨w2, 0, 1, ([([111, 102, 102] : List UInt8), ([111, 110] : List UInt8)] : List (List UInt8))⟩ : Attr)] : List Attr))] := by rw [hτ, get_set, if_pos rfl]; rfl
     have ub8 : b8 < τ11.next := by rw [hτ]; exact ub8
     have av : ArrAt σ0.next τ11 v 94 (x.flatMap nodeC) x.length 4 := by rw [hτ]; exact (av.killAll (fun i hi h => by simp at hi; have := evl2 i h; have := evl1 i h; omega)).set_ne evb8
     clear hτ
     exact SW.goal ((hJ _ _).2 ⟨([(⟨w2, 0, 1, ([([111, 102, 102] : List UInt8), ([111, 110] : List UInt8)] : List (List UInt8))⟩ : Attr)] : List Attr), (Option.some.inj hjj1).symm, f0, f1, f4, f5, f6, f8, hK, hN, gb4, ub4, gb5, ub5, gb8, ub8, av⟩)
    have hjj1 := condF hjj1 hx3
    refine SW.skip ?_
    refine SW.blk ?_
    refine SW.nilB b8 3 gb8 rfl ?_
    obtain ⟨τ12, hτ⟩ : ∃ x, x = τ6.set b8 ([AV.str (w1), AV.int ((IntKind.i64.wrap ((Int.tmod ((IntKind.i64.wrap x1)) w) - 1))), AV.bool ((decide ((Int.tmod ((IntKind.u8.wrap (Int.tdiv x1 16))) 4) = 3))), AV.nils].set 3 (AV.imm 0 [])) := ⟨_, rfl⟩
    rw [← hτ]
    have hK : Kept σ0 τ12 := by rw [hτ]; exact (hK).set wb8
    have hN : σ0.next ≤ τ12.next := by rw [hτ]; simp only [next_set, killA_next]; exact hN
    have gb4 : τ12.get b4 = some [AV.nils, AV.nils] := by rw [hτ, get_set, if_neg (by first | exact eb4b8 | exact fun e => eb8b4 e.symm)]; exact gb4
    have ub4 : b4 < τ12.next := by rw [hτ]; simp only [next_set, killA_next]; exact ub4
    have gb5 : τ12.get b5 = some [v, AV.nils] := by rw [hτ, get_set, if_neg (by first | exact eb5b8 | exact fun e => eb8b5 e.symm)]; exact gb5
    have ub5 : b5 < τ12.next := by rw [hτ]; simp only [next_set, killA_next]; exact ub5
    have gb8 : τ12.get b8 = some [AV.str (w1), AV.int ((IntKind.i64.wrap ((Int.tmod ((IntKind.i64.wrap x1)) w) - 1))), AV.bool ((decide ((Int.tmod ((IntKind.u8.wrap (Int.tdiv x1 16))) 4) = 3))), attrsA (([] : List Attr))] := by rw [hτ, get_set, if_pos rfl]; rfl
    have ub8 : b8 < τ12.next := by rw [hτ]; simp only [next_set, killA_next]; exact ub8
    have av : ArrAt σ0.next τ12 v 94 (x.flatMap nodeC) x.length 4 := by rw [hτ]; exact (av).set_ne evb8
    clear hτ
    exact SW.goal ((hJ _ _).2 ⟨([] : List Attr), (Option.some.inj hjj1).symm, f0, f1, f4, f5, f6, f8, hK, hN, gb4, ub4, gb5, ub5, gb8, ub8, av⟩)
   intro fr13 τ7 hm
   rw [hJ] at hm
   clear hJ
   clear f0 f1 f4 f5 f58 f6 f7 f8 f9 hK hN gb4 ub4 gb5 ub5 gb7 ub7 gb8 ub8 av
   obtain ⟨x4, rfl, f0, f1, f4, f5, f6, f8, hK, hN, gb4, ub4, gb5, ub5, gb8, ub8, av⟩ := hm
   simp only [Out.on] at hoj1
   obtain ⟨a, ha, hoj1⟩ := obind hoj1
   obtain ⟨la, ea⟩ := catL_spec ha
   refine SW.regX (fun f_ t_ => ∃ v1 : AV, f_ 0 = sl_Ar2_Int (t) ∧ f_ 1 = sl_Ar2_Int (o) ∧ f_ 4 = AV.ptr b4 0 ∧ f_ 5 = AV.ptr b5 0 ∧ f_ 6 = AV.int (y) ∧ Kept σ0 t_ ∧ σ0.next ≤ t_.next ∧ t_.get b4 = some [AV.nils, AV.nils] ∧ b4 < t_.next ∧ t_.get b5 = some [v1, AV.nils] ∧ b5 < t_.next ∧ ArrAt σ0.next t_ v1 94 (a.flatMap nodeC) a.length 4 ∧ (∀ i, idOf v1 = some i → ¬ i = b4) ∧ (∀ i, idOf v1 = some i → ¬ i = b5)) (fun M hM => ?_) (fun fr21 τ13 hm => ?_)
   ·have nb4_0 : ¬ b4 = τ7.next := by omega
    have nb4_1 : ¬ b4 = τ7.next + 1 := by omega
    have nb5_0 : ¬ b5 = τ7.next := by omega
    have nb5_1 : ¬ b5 = τ7.next + 1 := by omega
    have nb8_0 : ¬ b8 = τ7.next := by omega
    have nb8_1 : ¬ b8 = τ7.next + 1 := by omega
    have nb4_b5 : ¬ b4 = b5 := by omega
    have nb8_b5 : ¬ b8 = b5 := by omega
    have zv := av
    rcases zv with ⟨rfl, nv, mv⟩ | ⟨ov, rfl, gov, tov, lov, hiv⟩
    ·simp [go_sem, f0, f1, f4, f5, f6, f8, gb4, gb5, gb8, nb4_0, nb4_1, nb5_0, nb5_1, nb8_0, nb8_1, nb4_b5, nb8_b5, nv, mv]
     refine (hM _ _).2 ⟨AV.arr (τ7.next + 1) 0 a.length 4, ?_, ?_, ?_, ?_, ?_, by intro j hj; have hj_ := hK j hj; simp [go_sem, hj_.1, hj_.2, show ¬ j = τ7.next by omega, show ¬ j = τ7.next + 1 by omega, show ¬ j = b5 by omega], by first | omega | (simp [go_sem]; done) | (simp [go_sem]; omega), by simp (disch := omega) [get_alloc_ne, get_set_ne, get_kill_ne, go_sem, f0, f1, f4, f5, f6, f8, gb4, gb5, gb8, nb4_0, nb4_1, nb5_0, nb5_1, nb8_0, nb8_1, nb4_b5, nb8_b5, nv, mv, ea], by first | omega | (simp [go_sem]; done) | (simp [go_sem]; omega), by simp (disch := omega) [get_alloc_ne, get_set_ne, get_kill_ne, go_sem, f0, f1, f4, f5, f6, f8, gb4, gb5, gb8, nb4_0, nb4_1, nb5_0, nb5_1, nb8_0, nb8_1, nb4_b5, nb8_b5, nv, mv, ea], by first | omega | (simp [go_sem]; done) | (simp [go_sem]; omega), .inr ⟨(τ7.next + 1), rfl, by simp (disch := omega) [get_alloc_ne, get_set_ne, get_kill_ne, go_sem, f0, f1, f4, f5, f6, f8, gb4, gb5, gb8, nb4_0, nb4_1, nb5_0, nb5_1, nb8_0, nb8_1, nb4_b5, nb8_b5, nv, mv, ea, nodeC], by simp [go_sem, f0, f1, f4, f5, f6, f8, gb4, gb5, gb8, nb4_0, nb4_1, nb5_0, nb5_1, nb8_0, nb8_1, nb4_b5, nb8_b5, nv, mv, ea], by omega, by first | (simp [go_sem]; done) | (simp [go_sem]; omega)⟩, by intro i hi; first | (simp [idOf] at hi; done) | (simp [idOf] at hi; omega), by intro i hi; first | (simp [idOf] at hi; done) | (simp [idOf] at hi; omega)⟩ <;> simp [go_sem, f0, f1, f4, f5, f6, f8, gb4, gb5, gb8, nb4_0, nb4_1, nb5_0, nb5_1, nb8_0, nb8_1, nb4_b5, nb8_b5, nv, mv, ea]
    ·have Lv : (x.flatMap nodeC).length = x.length * 4 := length_flatMap (f := nodeC) (sz := 4) (fun _ => rfl) _
     have nv_0 : ¬ ov = τ7.next := by omega
     have nv_1 : ¬ ov = τ7.next + 1 := by omega
     have nv_b4 : ¬ ov = b4 := evb4 _ rfl
     have nb4_v : ¬ b4 = ov := fun e => evb4 _ rfl e.symm
     have nv_b5 : ¬ ov = b5 := evb5 _ rfl
     have nb5_v : ¬ b5 = ov := fun e => evb5 _ rfl e.symm
     have nv_b8 : ¬ ov = b8 := evb8 _ rfl
     have nb8_v : ¬ b8 = ov := fun e => evb8 _ rfl e.symm
     have ca_0 : x.length ≤ 9223372036854775806 := by have c_ := la; (try simp at c_); omega
     have ca_1 : (x.length + 1) * 56 ≤ 140737488355328 := by have c_ := la; (try simp at c_); omega
     simp [go_sem, f0, f1, f4, f5, f6, f8, gb4, gb5, gb8, nb4_0, nb4_1, nb5_0, nb5_1, nb8_0, nb8_1, nb4_b5, nb8_b5, gov, tov, Lv, nv_0, nv_1, nv_b4, nb4_v, nv_b5, nb5_v, nv_b8, nb8_v, ca_0, ca_1]
     refine (hM _ _).2 ⟨AV.arr (τ7.next + 1) 0 a.length 4, ?_, ?_, ?_, ?_, ?_, by intro j hj; have hj_ := hK j hj; simp [go_sem, hj_.1, hj_.2, show ¬ j = τ7.next by omega, show ¬ j = τ7.next + 1 by omega, show ¬ j = b5 by omega, show ¬ j = ov by omega], by first | omega | (simp [go_sem]; done) | (simp [go_sem]; omega), by simp (disch := omega) [get_alloc_ne, get_set_ne, get_kill_ne, go_sem, f0, f1, f4, f5, f6, f8, gb4, gb5, gb8, nb4_0, nb4_1, nb5_0, nb5_1, nb8_0, nb8_1, nb4_b5, nb8_b5, gov, tov, Lv, nv_0, nv_1, nv_b4, nb4_v, nv_b5, nb5_v, nv_b8, nb8_v, ca_0, ca_1, ea], by first | omega | (simp [go_sem]; done) | (simp [go_sem]; omega), by simp (disch := omega) [get_alloc_ne, get_set_ne, get_kill_ne, go_sem, f0, f1, f4, f5, f6, f8, gb4, gb5, gb8, nb4_0, nb4_1, nb5_0, nb5_1, nb8_0, nb8_1, nb4_b5, nb8_b5, gov, tov, Lv, nv_0, nv_1, nv_b4, nb4_v, nv_b5, nb5_v, nv_b8, nb8_v, ca_0, ca_1, ea], by first | omega | (simp [go_sem]; done) | (simp [go_sem]; omega), .inr ⟨(τ7.next + 1), rfl, by simp (disch := omega) [get_alloc_ne, get_set_ne, get_kill_ne, go_sem, f0, f1, f4, f5, f6, f8, gb4, gb5, gb8, nb4_0, nb4_1, nb5_0, nb5_1, nb8_0, nb8_1, nb4_b5, nb8_b5, gov, tov, Lv, nv_0, nv_1, nv_b4, nb4_v, nv_b5, nb5_v, nv_b8, nb8_v, ca_0, ca_1, ea, nodeC], by simp [go_sem, f0, f1, f4, f5, f6, f8, gb4, gb5, gb8, nb4_0, nb4_1, nb5_0, nb5_1, nb8_0, nb8_1, nb4_b5, nb8_b5, gov, tov, Lv, nv_0, nv_1, nv_b4, nb4_v, nv_b5, nb5_v, nv_b8, nb8_v, ca_0, ca_1, ea], by omega, by first | (simp [go_sem]; done) | (simp [go_sem]; omega)⟩, by intro i hi; first | (simp [idOf] at hi; done) | (simp [idOf] at hi; omega), by intro i hi; first | (simp [idOf] at hi; done) | (simp [idOf] at hi; omega)⟩ <;> simp [go_sem, f0, f1, f4, f5, f6, f8, gb4, gb5, gb8, nb4_0, nb4_1, nb5_0, nb5_1, nb8_0, nb8_1, nb4_b5, nb8_b5, gov, tov, Lv, nv_0, nv_1, nv_b4, nb4_v, nv_b5, nb5_v, nv_b8, nb8_v, ca_0, ca_1, ea]
   clear f0 f1 f4 f5 f6 f8 hK hN gb4 ub4 gb5 ub5 gb8 ub8 av
   obtain ⟨v1, f0, f1, f4, f5, f6, hK, hN, gb4, ub4, gb5, ub5, av1, ev1b4, ev1b5⟩ := hm
   refine SW.blk ?_
   refine SW.regX (fun f_ t_ => τ13 = t_ ∧ f_ 0 = sl_Ar2_Int (t) ∧ f_ 1 = sl_Ar2_Int (o) ∧ f_ 4 = AV.ptr b4 0 ∧ f_ 5 = AV.ptr b5 0 ∧ f_ 6 = AV.int (w)) (fun M hM => ?_) (fun fr22 τz7 hm => ?_)
   ·simp [go_sem, f0, f1, f4, f5, f6, gb4, gb5, nw]
    refine (hM _ _).2 ⟨rfl, ?_, ?_, ?_, ?_, ?_⟩ <;> simp [go_sem, f0, f1, f4, f5, f6, gb4, gb5, nw]
   clear f0 f1 f4 f5 f6
   obtain ⟨rfl, f0, f1, f4, f5, f6⟩ := hm
   obtain rfl := Option.some.inj hoj1
   exact SW.goal ⟨_, Nat.lt_succ_self _, (hJ _ _ _).2 ⟨w, a, v1, hci, f0, f1, f4, f5, f6, hK, hN, gb4, ub4, gb5, ub5, av1, ev1b4, ev1b5⟩⟩
  have hbi := condF hbi hx
  refine SW.exit rfl ?_
  obtain rfl := Option.some.inj hbi
  exact SW.goal ((hKL _ _).2 ⟨y, x, v, (Option.some.inj hci).symm, f1, f4, f5, hK, hN, gb4, ub4, gb5, ub5, av, evb4, evb5⟩)
 intro fr23 τ14 hm
 rw [hKL] at hm
 clear hKL hruni
 clear f0 f1 f4 f5 f6 hK hN gb4 ub4 gb5 ub5
 obtain ⟨y, x, v, rfl, f1, f4, f5, hK, hN, gb4, ub4, gb5, ub5, av, evb4, evb5⟩ := hm
 simp only [Out.on] at hoi
 refine SW.seq ?_
 refine SW.seq ?_
 refine SW.regX (fun f_ t_ => τ14 = t_ ∧ f_ 1 = sl_Ar2_Int (o) ∧ f_ 4 = AV.ptr b4 0 ∧ f_ 5 = AV.ptr b5 0 ∧ f_ 10 = AV.int (0)) (fun M hM => ?_) (fun fr24 τz8 hm => ?_)
 ·simp [go_sem, f1, f4, f5, gb4, gb5]
  refine (hM _ _).2 ⟨rfl, ?_, ?_, ?_, ?_⟩ <;> simp [go_sem, f1, f4, f5, gb4, gb5]
 clear f1 f4 f5
 obtain ⟨rfl, f1, f4, f5, f10⟩ := hm
 obtain ⟨oi1, hruni1, hoi1⟩ := obind hoi
 obtain ⟨KL, hKL⟩ : ∃ KL : Fr → Mem → Prop, ∀ fr' τ', KL fr' τ' ↔ (∃ t10 : Int, ∃ x5 : List EdgeT, ∃ v2 : AV, oi1 = .done (t10, x5) ∧ fr' 4 = AV.ptr b4 0 ∧ fr' 5 = AV.ptr b5 0 ∧ Kept σ0 τ' ∧ σ0.next ≤ τ'.next ∧ τ'.get b4 = some [AV.nils, AV.nils] ∧ b4 < τ'.next ∧ τ'.get b5 = some [v, v2] ∧ b5 < τ'.next ∧ ArrAt σ0.next τ' v 94 (x.flatMap nodeC) x.length 4 ∧ ArrAt σ0.next τ' v2 96 (x5.flatMap edgeC) x5.length 7 ∧ (∀ i, idOf v2 = some i → ¬ i = b4) ∧ (∀ i, idOf v2 = some i → ¬ i = b5) ∧ Apart v v2) := ⟨_, fun _ _ => Iff.rfl⟩
 refine SW.cut KL ?_ ?_
 ·refine SW.block ?_
  obtain ⟨J, hJ⟩ : ∃ J : Nat → Fr → Mem → Prop, ∀ m_ fr' τ', J m_ fr' τ' ↔ (∃ t10 : Int, ∃ x5 : List EdgeT, ∃ v2 : AV, whileG (b3_ref04_Made o x) m_ (t10, x5) = some oi1 ∧ fr' 1 = sl_Ar2_Int (o) ∧ fr' 4 = AV.ptr b4 0 ∧ fr' 5 = AV.ptr b5 0 ∧ fr' 10 = AV.int (t10) ∧ Kept σ0 τ' ∧ σ0.next ≤ τ'.next ∧ τ'.get b4 = some [AV.nils, AV.nils] ∧ b4 < τ'.next ∧ τ'.get b5 = some [v, v2] ∧ b5 < τ'.next ∧ ArrAt σ0.next τ' v 94 (x.flatMap nodeC) x.length 4 ∧ ArrAt σ0.next τ' v2 96 (x5.flatMap edgeC) x5.length 7 ∧ (∀ i, idOf v2 = some i → ¬ i = b4) ∧ (∀ i, idOf v2 = some i → ¬ i = b5) ∧ Apart v v2) := ⟨_, fun _ _ _ => Iff.rfl⟩
  refine SW.loop J F ((hJ _ _ _).2 ⟨0, ([] : List EdgeT), AV.nils, hruni1, f1, f4, f5, f10, hK, hN, gb4, ub4, gb5, ub5, av, .inl ⟨rfl, rfl, rfl⟩, (fun i h => by cases h), (fun i h => by cases h), (fun i h h' => by cases h')⟩) ?_
  clear hruni1
  intro m_ fr25 τ15 hm
  rw [hJ] at hm
  clear f1 f10 f4 f5 hK hN gb4 ub4 gb5 ub5 av
  obtain ⟨t10, x5, v2, hruni1, f1, f4, f5, f10, hK, hN, gb4, ub4, gb5, ub5, av, av2, ev2b4, ev2b5, evv2⟩ := hm
  obtain ⟨F', ci1, rfl, hbi1, hci1⟩ := whileG_step hruni1
  simp only [b3_ref04_Made] at hbi1
  refine SW.seq ?_
  refine SW.seq ?_
  refine SW.regX (fun f_ t_ => τ15 = t_ ∧ f_ 1 = sl_Ar2_Int (o) ∧ f_ 4 = AV.ptr b4 0 ∧ f_ 5 = AV.ptr b5 0 ∧ f_ 10 = AV.int (t10) ∧ f_ 91 = AV.bool ((((decide (t10 < ((o.length : Nat) : Int)))) && ((decide (t10 < 5)))))) (fun M hM => ?_) (fun fr26 τz9 hm => ?_)
  ·rcases Bool.eq_false_or_eq_true ((decide (t10 < ((o.length : Nat) : Int)))) with y0 | y0
   ·have y0' := y0
    try simp at y0'
    simp [go_sem, f1, f10, f4, f5, gb4, gb5, y0, y0']
    refine (hM _ _).2 ⟨rfl, ?_, ?_, ?_, ?_, ?_⟩ <;> simp [go_sem, f1, f10, f4, f5, gb4, gb5, y0, y0']
   ·have y0' := y0
    try simp at y0'
    simp [go_sem, f1, f10, f4, f5, gb4, gb5, y0, y0']
    refine (hM _ _).2 ⟨rfl, ?_, ?_, ?_, ?_, ?_⟩ <;> simp [go_sem, f1, f10, f4, f5, gb4, gb5, y0, y0']
  clear f1 f10 f4 f5
  obtain ⟨rfl, f1, f4, f5, f10, f91⟩ := hm
  refine SW.cond _ f91 (fun hx4 => ?_) (fun hx4 => ?_)
  ·have hbi1 := condT hbi1 hx4
   refine SW.skip ?_
   refine SW.seq ?_
   refine SW.block ?_
   refine SW.seq ?_
   refine SW.regX (fun f_ t_ => τ15 = t_ ∧ f_ 1 = sl_Ar2_Int (o) ∧ f_ 4 = AV.ptr b4 0 ∧ f_ 5 = AV.ptr b5 0 ∧ f_ 10 = AV.int (t10) ∧ f_ 11 = AV.int (((x.length : Nat) : Int))) (fun M hM => ?_) (fun fr27 τz10 hm => ?_)
   ·have zv := av
    rcases zv with ⟨rfl, nv, mv⟩ | ⟨ov, rfl, gov, tov, lov, hiv⟩
    ·simp [go_sem, f1, f10, f4, f5, f91, gb4, gb5, nv, mv]
     refine (hM _ _).2 ⟨rfl, ?_, ?_, ?_, ?_, ?_⟩ <;> simp [go_sem, f1, f10, f4, f5, f91, gb4, gb5, nv, mv]
    ·have Lv : (x.flatMap nodeC).length = x.length * 4 := length_flatMap (f := nodeC) (sz := 4) (fun _ => rfl) _
     simp [go_sem, f1, f10, f4, f5, f91, gb4, gb5, gov, tov, Lv]
     refine (hM _ _).2 ⟨rfl, ?_, ?_, ?_, ?_, ?_⟩ <;> simp [go_sem, f1, f10, f4, f5, f91, gb4, gb5, gov, tov, Lv]
   clear f1 f10 f4 f5 f91
   obtain ⟨rfl, f1, f4, f5, f10, f11⟩ := hm
   obtain ⟨w3, nw3⟩ : ∃ w : Int, (IntKind.i64.wrap (t10 + 1)) = w := ⟨_, rfl⟩
   rw [nw3] at hbi1
   obtain ⟨w4, hw4, hbi1⟩ := obind hbi1
   obtain ⟨pw4, qw4, rw4, ew4⟩ := cutL_spec hw4
   simp at rw4
   obtain ⟨x6, hx6, hbi1⟩ := obind hbi1
   have xpx6 := getI_pos hx6
   have xlx6 := getI_lt hx6
   have xix6 := getI_N hx6
   have xdx6 := getN_flat Ar2_IntC 2 (fun _ => rfl) xix6
   obtain ⟨z1, hz1, hbi1⟩ := obind hbi1
   have nz1 := nzI_spec hz1
   have mz1 := nz1
   try simp at mz1
   obtain ⟨z2, hz2, hbi1⟩ := obind hbi1
   have nz2 := nzI_spec hz2
   have mz2 := nz2
   try simp at mz2
   obtain ⟨a1, ha1, hbi1⟩ := obind hbi1
   obtain ⟨la1, ea1⟩ := catL_spec ha1
   refine SW.regX (fun f_ t_ => ∃ v3 : AV, f_ 1 = sl_Ar2_Int (o) ∧ f_ 4 = AV.ptr b4 0 ∧ f_ 5 = AV.ptr b5 0 ∧ f_ 10 = AV.int (t10) ∧ Kept σ0 t_ ∧ σ0.next ≤ t_.next ∧ t_.get b4 = some [AV.nils, AV.nils] ∧ b4 < t_.next ∧ t_.get b5 = some [v, v3] ∧ b5 < t_.next ∧ ArrAt σ0.next t_ v 94 (x.flatMap nodeC) x.length 4 ∧ ArrAt σ0.next t_ v3 96 (a1.flatMap edgeC) a1.length 7 ∧ (∀ i, idOf v3 = some i → ¬ i = b4) ∧ (∀ i, idOf v3 = some i → ¬ i = b5) ∧ Apart v v3) (fun M hM => ?_) (fun fr28 τ16 hm => ?_)
   ·have nb4_0 : ¬ b4 = τ15.next := by omega
    have nb4_1 : ¬ b4 = τ15.next + 1 := by omega
    have nb5_0 : ¬ b5 = τ15.next := by omega
    have nb5_1 : ¬ b5 = τ15.next + 1 := by omega
    have nb4_b5 : ¬ b4 = b5 := by omega
    have nb5_b4 : ¬ b5 = b4 := by omega
    have zv2 := av2
    rcases zv2 with ⟨rfl, nv2, mv2⟩ | ⟨ov2, rfl, gov2, tov2, lov2, hiv2⟩
    ·refine EW_regionY τ15 25 (.q false 0 (.q false 1 (.q false 2 (.q false 3 (.q false 4 (.q false 5 (.q false 6 (.q false 7 (.q false 8 (.q false 9 (.q false 10 (.q false 11 (.q false 12 (.q false 13 (.q false 14 (.q false 15 (.q false 16 (.q false 17 (.q false 18 (.q false 19 (.q false 20 (.q false 21 (.q false 22 (.s 23 (.s 24 .done))))))))))))))))))))))))) (by kernel_rfl) (by kernel_rfl) (fun _ _ h => h) (fun hfin => ?_)
     have m0_ : τ15.get (τ15.next) = none := hfin _ (by omega)
     have m1_ : τ15.get (τ15.next + 1) = none := hfin _ (by omega)
     have hsub : Sub τ15 τ15 := (fun _ _ h => h)
     simp (maxDischargeDepth := 12) [go_sem, f1, f10, f11, f4, f5, gb4, gb5, pw4, qw4, rw4, xpx6, xlx6, xdx6, Ar2_IntC, nz1, mz1, nz2, mz2, nw3, nb4_0, nb4_1, nb5_0, nb5_1, nb4_b5, nb5_b4, nv2, mv2, m0_, m1_, sub_set, sub_killAll, hsub]
     refine (hM _ _).2 ⟨AV.arr (τ15.next + 1) 0 a1.length 7, ?_, ?_, ?_, ?_, by intro j hj; have hj_ := hK j hj; simp [go_sem, hj_.1, hj_.2, show ¬ j = τ15.next by omega, show ¬ j = τ15.next + 1 by omega, show ¬ j = b5 by omega], by first | omega | (simp [go_sem]; done) | (simp [go_sem]; omega), by simp (disch := omega) [get_alloc_ne, get_set_ne, get_kill_ne, go_sem, f1, f10, f11, f4, f5, gb4, gb5, pw4, qw4, rw4, xpx6, xlx6, xdx6, Ar2_IntC, nz1, mz1, nz2, mz2, nw3, nb4_0, nb4_1, nb5_0, nb5_1, nb4_b5, nb5_b4, nv2, mv2, m0_, m1_, sub_set, sub_killAll, hsub, ew4, ea1], by first | omega | (simp [go_sem]; done) | (simp [go_sem]; omega), by simp (disch := omega) [get_alloc_ne, get_set_ne, get_kill_ne, go_sem, f1, f10, f11, f4, f5, gb4, gb5, pw4, qw4, rw4, xpx6, xlx6, xdx6, Ar2_IntC, nz1, mz1, nz2, mz2, nw3, nb4_0, nb4_1, nb5_0, nb5_1, nb4_b5, nb5_b4, nv2, mv2, m0_, m1_, sub_set, sub_killAll, hsub, ew4, ea1], by first | omega | (simp [go_sem]; done) | (simp [go_sem]; omega), av.same' (by simp [go_sem]; try omega) (fun i hi => by have zl := arrAt_lt av i hi; have zs0 := evb5 i hi; have zi0 : ¬ i = τ15.next := (by omega); have zi1 : ¬ i = τ15.next + 1 := (by omega); constructor <;> simp [go_sem, zs0, zi0, zi1]), .inr ⟨(τ15.next + 1), rfl, by simp (disch := omega) [get_alloc_ne, get_set_ne, get_kill_ne, go_sem, f1, f10, f11, f4, f5, gb4, gb5, pw4, qw4, rw4, xpx6, xlx6, xdx6, Ar2_IntC, nz1, mz1, nz2, mz2, nw3, nb4_0, nb4_1, nb5_0, nb5_1, nb4_b5, nb5_b4, nv2, mv2, m0_, m1_, sub_set, sub_killAll, hsub, ew4, ea1, edgeC], by simp [go_sem, f1, f10, f11, f4, f5, gb4, gb5, pw4, qw4, rw4, xpx6, xlx6, xdx6, Ar2_IntC, nz1, mz1, nz2, mz2, nw3, nb4_0, nb4_1, nb5_0, nb5_1, nb4_b5, nb5_b4, nv2, mv2, m0_, m1_, sub_set, sub_killAll, hsub, ew4, ea1], by omega, by first | (simp [go_sem]; done) | (simp [go_sem]; omega)⟩, by intro i hi; first | (simp [idOf] at hi; done) | (simp [idOf] at hi; omega), by intro i hi; first | (simp [idOf] at hi; done) | (simp [idOf] at hi; omega), by first | exact evv3 | exact apart_symm ev3v | (intro i h1 h2; simp [idOf] at h1; done) | (intro i h1 h2; simp [idOf] at h2; done) | (intro i h1 h2; have := arrAt_lt av i h1; simp [idOf] at h2; omega)⟩ <;> simp [go_sem, f1, f10, f11, f4, f5, gb4, gb5, pw4, qw4, rw4, xpx6, xlx6, xdx6, Ar2_IntC, nz1, mz1, nz2, mz2, nw3, nb4_0, nb4_1, nb5_0, nb5_1, nb4_b5, nb5_b4, nv2, mv2, m0_, m1_, sub_set, sub_killAll, hsub, ew4, ea1]
    ·have Lv2 : (x5.flatMap edgeC).length = x5.length * 7 := length_flatMap (f := edgeC) (sz := 7) (fun _ => rfl) _
     have nv2_0 : ¬ ov2 = τ15.next := by omega
     have nv2_1 : ¬ ov2 = τ15.next + 1 := by omega
     have nv2_b4 : ¬ ov2 = b4 := ev2b4 _ rfl
     have nb4_v2 : ¬ b4 = ov2 := fun e => ev2b4 _ rfl e.symm
     have nv2_b5 : ¬ ov2 = b5 := ev2b5 _ rfl
     have nb5_v2 : ¬ b5 = ov2 := fun e => ev2b5 _ rfl e.symm
     have ca1_0 : x5.length ≤ 9223372036854775806 := by have c_ := la1; (try simp at c_); omega
     have ca1_1 : (x5.length + 1) * 64 ≤ 140737488355328 := by have c_ := la1; (try simp at c_); omega
     refine EW_regionY (τ15.kill ov2) 25 (.q false 0 (.q false 1 (.q false 2 (.q false 3 (.q false 4 (.q false 5 (.q false 6 (.q false 7 (.q false 8 (.q false 9 (.q false 10 (.q false 11 (.q false 12 (.q false 13 (.q false 14 (.q false 15 (.q false 16 (.q false 17 (.q false 18 (.q false 19 (.q false 20 (.q false 21 (.q false 22 (.s 23 (.s 24 .done))))))))))))))))))))))))) (by kernel_rfl) (by kernel_rfl) (sub_kill ov2 (fun _ _ h => h)) (fun hfin => ?_)
     have m0_ : τ15.get (τ15.next) = none := hfin _ (by omega)
     have m1_ : τ15.get (τ15.next + 1) = none := hfin _ (by omega)
     have hsub : Sub (τ15.kill ov2) τ15 := (sub_kill ov2 (fun _ _ h => h))
     simp (maxDischargeDepth := 12) [go_sem, f1, f10, f11, f4, f5, gb4, gb5, pw4, qw4, rw4, xpx6, xlx6, xdx6, Ar2_IntC, nz1, mz1, nz2, mz2, nw3, nb4_0, nb4_1, nb5_0, nb5_1, nb4_b5, nb5_b4, gov2, tov2, Lv2, nv2_0, nv2_1, nv2_b4, nb4_v2, nv2_b5, nb5_v2, ca1_0, ca1_1, m0_, m1_, sub_set, sub_killAll, hsub]
     refine (hM _ _).2 ⟨AV.arr (τ15.next + 1) 0 a1.length 7, ?_, ?_, ?_, ?_, by intro j hj; have hj_ := hK j hj; simp [go_sem, hj_.1, hj_.2, show ¬ j = τ15.next by omega, show ¬ j = τ15.next + 1 by omega, show ¬ j = b5 by omega, show ¬ j = ov2 by omega], by first | omega | (simp [go_sem]; done) | (simp [go_sem]; omega), by simp (disch := omega) [get_alloc_ne, get_set_ne, get_kill_ne, go_sem, f1, f10, f11, f4, f5, gb4, gb5, pw4, qw4, rw4, xpx6, xlx6, xdx6, Ar2_IntC, nz1, mz1, nz2, mz2, nw3, nb4_0, nb4_1, nb5_0, nb5_1, nb4_b5, nb5_b4, gov2, tov2, Lv2, nv2_0, nv2_1, nv2_b4, nb4_v2, nv2_b5, nb5_v2, ca1_0, ca1_1, m0_, m1_, sub_set, sub_killAll, hsub, ew4, ea1], by first | omega | (simp [go_sem]; done) | (simp [go_sem]; omega), by simp (disch := omega) [get_alloc_ne, get_set_ne, get_kill_ne, go_sem, f1, f10, f11, f4, f5, gb4, gb5, pw4, qw4, rw4, xpx6, xlx6, xdx6, Ar2_IntC, nz1, mz1, nz2, mz2, nw3, nb4_0, nb4_1, nb5_0, nb5_1, nb4_b5, nb5_b4, gov2, tov2, Lv2, nv2_0, nv2_1, nv2_b4, nb4_v2, nv2_b5, nb5_v2, ca1_0, ca1_1, m0_, m1_, sub_set, sub_killAll, hsub, ew4, ea1], by first | omega | (simp [go_sem]; done) | (simp [go_sem]; omega), av.same' (by simp [go_sem]; try omega) (fun i hi => by have zl := arrAt_lt av i hi; have zs0 := evb5 i hi; have zi0 : ¬ i = τ15.next := (by omega); have zi1 : ¬ i = τ15.next + 1 := (by omega); have zk0 := apart_ne (by first | exact ev2v | exact apart_symm evv2) hi; constructor <;> simp [go_sem, zs0, zi0, zi1, zk0]), .inr ⟨(τ15.next + 1), rfl, by simp (disch := omega) [get_alloc_ne, get_set_ne, get_kill_ne, go_sem, f1, f10, f11, f4, f5, gb4, gb5, pw4, qw4, rw4, xpx6, xlx6, xdx6, Ar2_IntC, nz1, mz1, nz2, mz2, nw3, nb4_0, nb4_1, nb5_0, nb5_1, nb4_b5, nb5_b4, gov2, tov2, Lv2, nv2_0, nv2_1, nv2_b4, nb4_v2, nv2_b5, nb5_v2, ca1_0, ca1_1, m0_, m1_, sub_set, sub_killAll, hsub, ew4, ea1, edgeC], by simp [go_sem, f1, f10, f11, f4, f5, gb4, gb5, pw4, qw4, rw4, xpx6, xlx6, xdx6, Ar2_IntC, nz1, mz1, nz2, mz2, nw3, nb4_0, nb4_1, nb5_0, nb5_1, nb4_b5, nb5_b4, gov2, tov2, Lv2, nv2_0, nv2_1, nv2_b4, nb4_v2, nv2_b5, nb5_v2, ca1_0, ca1_1, m0_, m1_, sub_set, sub_killAll, hsub, ew4, ea1], by omega, by first | (simp [go_sem]; done) | (simp [go_sem]; omega)⟩, by intro i hi; first | (simp [idOf] at hi; done) | (simp [idOf] at hi; omega), by intro i hi; first | (simp [idOf] at hi; done) | (simp [idOf] at hi; omega), by first | exact evv3 | exact apart_symm ev3v | (intro i h1 h2; simp [idOf] at h1; done) | (intro i h1 h2; simp [idOf] at h2; done) | (intro i h1 h2; have := arrAt_lt av i h1; simp [idOf] at h2; omega)⟩ <;> simp [go_sem, f1, f10, f11, f4, f5, gb4, gb5, pw4, qw4, rw4, xpx6, xlx6, xdx6, Ar2_IntC, nz1, mz1, nz2, mz2, nw3, nb4_0, nb4_1, nb5_0, nb5_1, nb4_b5, nb5_b4, gov2, tov2, Lv2, nv2_0, nv2_1, nv2_b4, nb4_v2, nv2_b5, nb5_v2, ca1_0, ca1_1, m0_, m1_, sub_set, sub_killAll, hsub, ew4, ea1]
   clear f1 f10 f11 f4 f5 hK hN gb4 ub4 gb5 ub5 av av2
   obtain ⟨v3, f1, f4, f5, f10, hK, hN, gb4, ub4, gb5, ub5, av, av3, ev3b4, ev3b5, evv3⟩ := hm
   refine SW.blk ?_
   refine SW.regX (fun f_ t_ => τ16 = t_ ∧ f_ 1 = sl_Ar2_Int (o) ∧ f_ 4 = AV.ptr b4 0 ∧ f_ 5 = AV.ptr b5 0 ∧ f_ 10 = AV.int (w3)) (fun M hM => ?_) (fun fr29 τz11 hm => ?_)
   ·simp [go_sem, f1, f10, f4, f5, gb4, gb5, nw3]
    refine (hM _ _).2 ⟨rfl, ?_, ?_, ?_, ?_⟩ <;> simp [go_sem, f1, f10, f4, f5, gb4, gb5, nw3]
   clear f1 f10 f4 f5
   obtain ⟨rfl, f1, f4, f5, f10⟩ := hm
   obtain rfl := Option.some.inj hbi1
   exact SW.goal ⟨_, Nat.lt_succ_self _, (hJ _ _ _).2 ⟨w3, a1, v3, hci1, f1, f4, f5, f10, hK, hN, gb4, ub4, gb5, ub5, av, av3, ev3b4, ev3b5, (by first | exact evv3 | exact fun i h h' => ev3v i h' h)⟩⟩
  have hbi1 := condF hbi1 hx4
  refine SW.exit rfl ?_
  obtain rfl := Option.some.inj hbi1
  exact SW.goal ((hKL _ _).2 ⟨t10, x5, v2, (Option.some.inj hci1).symm, f4, f5, hK, hN, gb4, ub4, gb5, ub5, av, av2, ev2b4, ev2b5, (by first | exact evv2 | exact fun i h h' => ev2v i h' h)⟩)
 intro fr30 τ17 hm
 rw [hKL] at hm
 clear hKL hruni1
 clear f1 f10 f4 f5 hK hN gb4 ub4 gb5 ub5 av
 obtain ⟨t10, x5, v2, rfl, f4, f5, hK, hN, gb4, ub4, gb5, ub5, av, av2, ev2b4, ev2b5, evv2⟩ := hm
 simp only [Out.on] at hoi1
 refine SW.seq ?_
 refine SW.regX (fun f_ t_ => f_ 4 = AV.ptr b4 0 ∧ Kept σ0 t_ ∧ σ0.next ≤ t_.next ∧ t_.get b4 = some [v, v2] ∧ b4 < t_.next ∧ ArrAt σ0.next t_ v 94 (x.flatMap nodeC) x.length 4 ∧ ArrAt σ0.next t_ v2 96 (x5.flatMap edgeC) x5.length 7) (fun M hM => ?_) (fun fr31 τ18 hm => ?_)
 ·have nb5_b4 : ¬ b5 = b4 := by omega
  have zv := av
  rcases zv with ⟨rfl, nv, mv⟩ | ⟨ov, rfl, gov, tov, lov, hiv⟩
  ·have zv2 := av2
   rcases zv2 with ⟨rfl, nv2, mv2⟩ | ⟨ov2, rfl, gov2, tov2, lov2, hiv2⟩
   ·simp [go_sem, f4, f5, gb4, gb5, nb5_b4, nv, mv, nv2, mv2]
    refine (hM _ _).2 ⟨?_, by intro j hj; have hj_ := hK j hj; simp [go_sem, hj_.1, hj_.2, show ¬ j = b4 by omega], by first | omega | (simp [go_sem]; done) | (simp [go_sem]; omega), by simp (disch := omega) [get_alloc_ne, get_set_ne, get_kill_ne, go_sem, f4, f5, gb4, gb5, nb5_b4, nv, mv, nv2, mv2], by first | omega | (simp [go_sem]; done) | (simp [go_sem]; omega), av.same' (by simp [go_sem]; try omega) (fun i hi => by have zl := arrAt_lt av i hi; have zs0 := evb4 i hi; constructor <;> simp [go_sem, zs0]), av2.same' (by simp [go_sem]; try omega) (fun i hi => by have zl := arrAt_lt av2 i hi; have zs0 := ev2b4 i hi; constructor <;> simp [go_sem, zs0])⟩ <;> simp [go_sem, f4, f5, gb4, gb5, nb5_b4, nv, mv, nv2, mv2]
   ·have Lv2 : (x5.flatMap edgeC).length = x5.length * 7 := length_flatMap (f := edgeC) (sz := 7) (fun _ => rfl) _
    have nv2_b4 : ¬ ov2 = b4 := ev2b4 _ rfl
    have nb4_v2 : ¬ b4 = ov2 := fun e => ev2b4 _ rfl e.symm
    have nv2_b5 : ¬ ov2 = b5 := ev2b5 _ rfl
    have nb5_v2 : ¬ b5 = ov2 := fun e => ev2b5 _ rfl e.symm
    simp [go_sem, f4, f5, gb4, gb5, nb5_b4, nv, mv, gov2, tov2, Lv2, nv2_b4, nb4_v2, nv2_b5, nb5_v2]
    refine (hM _ _).2 ⟨?_, by intro j hj; have hj_ := hK j hj; simp [go_sem, hj_.1, hj_.2, show ¬ j = b4 by omega], by first | omega | (simp [go_sem]; done) | (simp [go_sem]; omega), by simp (disch := omega) [get_alloc_ne, get_set_ne, get_kill_ne, go_sem, f4, f5, gb4, gb5, nb5_b4, nv, mv, gov2, tov2, Lv2, nv2_b4, nb4_v2, nv2_b5, nb5_v2], by first | omega | (simp [go_sem]; done) | (simp [go_sem]; omega), av.same' (by simp [go_sem]; try omega) (fun i hi => by have zl := arrAt_lt av i hi; have zs0 := evb4 i hi; constructor <;> simp [go_sem, zs0]), av2.same' (by simp [go_sem]; try omega) (fun i hi => by have zl := arrAt_lt av2 i hi; have zs0 := ev2b4 i hi; constructor <;> simp [go_sem, zs0])⟩ <;> simp [go_sem, f4, f5, gb4, gb5, nb5_b4, nv, mv, gov2, tov2, Lv2, nv2_b4, nb4_v2, nv2_b5, nb5_v2]
  ·have Lv : (x.flatMap nodeC).length = x.length * 4 := length_flatMap (f := nodeC) (sz := 4) (fun _ => rfl) _
   have nv_b4 : ¬ ov = b4 := evb4 _ rfl
   have nb4_v : ¬ b4 = ov := fun e => evb4 _ rfl e.symm
   have nv_b5 : ¬ ov = b5 := evb5 _ rfl
   have nb5_v : ¬ b5 = ov := fun e => evb5 _ rfl e.symm
   have zv2 := av2
   rcases zv2 with ⟨rfl, nv2, mv2⟩ | ⟨ov2, rfl, gov2, tov2, lov2, hiv2⟩
   ·simp [go_sem, f4, f5, gb4, gb5, nb5_b4, gov, tov, Lv, nv_b4, nb4_v, nv_b5, nb5_v, nv2, mv2]
    refine (hM _ _).2 ⟨?_, by intro j hj; have hj_ := hK j hj; simp [go_sem, hj_.1, hj_.2, show ¬ j = b4 by omega], by first | omega | (simp [go_sem]; done) | (simp [go_sem]; omega), by simp (disch := omega) [get_alloc_ne, get_set_ne, get_kill_ne, go_sem, f4, f5, gb4, gb5, nb5_b4, gov, tov, Lv, nv_b4, nb4_v, nv_b5, nb5_v, nv2, mv2], by first | omega | (simp [go_sem]; done) | (simp [go_sem]; omega), av.same' (by simp [go_sem]; try omega) (fun i hi => by have zl := arrAt_lt av i hi; have zs0 := evb4 i hi; constructor <;> simp [go_sem, zs0]), av2.same' (by simp [go_sem]; try omega) (fun i hi => by have zl := arrAt_lt av2 i hi; have zs0 := ev2b4 i hi; constructor <;> simp [go_sem, zs0])⟩ <;> simp [go_sem, f4, f5, gb4, gb5, nb5_b4, gov, tov, Lv, nv_b4, nb4_v, nv_b5, nb5_v, nv2, mv2]
   ·have Lv2 : (x5.flatMap edgeC).length = x5.length * 7 := length_flatMap (f := edgeC) (sz := 7) (fun _ => rfl) _
    have nv2_v : ¬ ov2 = ov := by first | exact apart_ne evv2 rfl | exact apart_ne (apart_symm ev2v) rfl
    have nv_v2 := fun e => nv2_v (Eq.symm e)
    have nv2_b4 : ¬ ov2 = b4 := ev2b4 _ rfl
    have nb4_v2 : ¬ b4 = ov2 := fun e => ev2b4 _ rfl e.symm
    have nv2_b5 : ¬ ov2 = b5 := ev2b5 _ rfl
    have nb5_v2 : ¬ b5 = ov2 := fun e => ev2b5 _ rfl e.symm
    simp [go_sem, f4, f5, gb4, gb5, nb5_b4, gov, tov, Lv, nv_b4, nb4_v, nv_b5, nb5_v, gov2, tov2, Lv2, nv2_v, nv_v2, nv2_b4, nb4_v2, nv2_b5, nb5_v2]
    refine (hM _ _).2 ⟨?_, by intro j hj; have hj_ := hK j hj; simp [go_sem, hj_.1, hj_.2, show ¬ j = b4 by omega], by first | omega | (simp [go_sem]; done) | (simp [go_sem]; omega), by simp (disch := omega) [get_alloc_ne, get_set_ne, get_kill_ne, go_sem, f4, f5, gb4, gb5, nb5_b4, gov, tov, Lv, nv_b4, nb4_v, nv_b5, nb5_v, gov2, tov2, Lv2, nv2_v, nv_v2, nv2_b4, nb4_v2, nv2_b5, nb5_v2], by first | omega | (simp [go_sem]; done) | (simp [go_sem]; omega), av.same' (by simp [go_sem]; try omega) (fun i hi => by have zl := arrAt_lt av i hi; have zs0 := evb4 i hi; constructor <;> simp [go_sem, zs0]), av2.same' (by simp [go_sem]; try omega) (fun i hi => by have zl := arrAt_lt av2 i hi; have zs0 := ev2b4 i hi; constructor <;> simp [go_sem, zs0])⟩ <;> simp [go_sem, f4, f5, gb4, gb5, nb5_b4, gov, tov, Lv, nv_b4, nb4_v, nv_b5, nb5_v, gov2, tov2, Lv2, nv2_v, nv_v2, nv2_b4, nb4_v2, nv2_b5, nb5_v2]
 clear f4 f5 hK hN gb4 ub4 gb5 ub5 av av2
 obtain ⟨f4, hK, hN, gb4, ub4, av, av2⟩ := hm
 obtain rfl := Option.some.inj hoi1
 exact SW.ret ⟨AV.agg [v, v2], by simp [go_sem, f4, gb4], ⟨v, v2, rfl, av, av2, (by first | exact evv2 | exact fun i h h' => ev2v i h' h)⟩, hK, hN⟩
theorem w_ref04_Made (F : Nat) (t : List Ar2_Int) (o : List Ar2_Int) (r : (Types)) (h : s_ref04_Made F t o = some r) : PureA Tryz.prog 51 [sl_Ar2_Int (t), sl_Ar2_Int (o)] (AV.agg [nodesA (r.nodes), edgesA (r.edges)]) := pureA_of_own' (O := O_ref04_Made r) (fun σ0 => o_ref04_Made F t o r h σ0) (by rintro n x τ ⟨v0_, v1_, hx, av0_, av1_, ev0_v1_⟩; rw [hx]; exact frz_aggL (frzL_c (av0_.frz (DataL.flatMap gd_nodeC r.nodes)) (frzL_c (av1_.frz (DataL.flatMap gd_edgeC r.edges)) (frzL_n))))
def O_ref17_among (r : ((List Int))) (n : Nat) (x : AV) (τ : Mem) : Prop := ∃ v0_ : AV, x = v0_ ∧ ArrAt n τ v0_ 3 (r.map AV.int) r.length 1
set_option maxHeartbeats 4000000 in
theorem o_ref17_among (F : Nat) (t : Types) (g : Graph) (kind : Int) (r : ((List Int))) (h : s_ref17_among F t g kind = some r) (σ0 : Mem) : CallA Tryz.prog 72 [AV.agg [nodesA (t.nodes), edgesA (t.edges)], AV.agg [intsA (g.nodes), e3sA (g.edges)], AV.int (kind)] σ0 (fun x τ => O_ref17_among r σ0.next x τ ∧ Kept σ0 τ ∧ σ0.next ≤ τ.next) := by
 refine callA_of_SW (N := 29) Tryz.func72 (by kernel_rfl) rfl (by rw [Tryz.ntmps72]; rfl) ?_
 rw [Tryz.results72]
 obtain ⟨fr0, hfr⟩ : ∃ fr, fr = initFr [AV.agg [nodesA (t.nodes), edgesA (t.edges)], AV.agg [intsA (g.nodes), e3sA (g.edges)], AV.int (kind)] := ⟨_, rfl⟩
 rw [← hfr]
 have f0 : fr0 0 = AV.agg [nodesA (t.nodes), edgesA (t.edges)] := by rw [hfr]; rfl
 have f1 : fr0 1 = AV.agg [intsA (g.nodes), e3sA (g.edges)] := by rw [hfr]; rfl
 have f2 : fr0 2 = AV.int (kind) := by rw [hfr]; rfl
 clear hfr
 simp only [s_ref17_among] at h
 refine SW.seq ?_
 refine SW.regX (fun f_ t_ => ∃ b3 : Nat, ∃ b4 : Nat, f_ 2 = AV.int (kind) ∧ f_ 3 = AV.ptr b3 0 ∧ f_ 4 = AV.ptr b4 0 ∧ Kept σ0 t_ ∧ σ0.next ≤ t_.next ∧ t_.get b3 = some [nodesA (t.nodes), edgesA (t.edges)] ∧ b3 < t_.next ∧ t_.get b4 = some [intsA (g.nodes), e3sA (g.edges)] ∧ b4 < t_.next ∧ σ0.next ≤ b3 ∧ σ0.next ≤ b4 ∧ ¬ b3 = b4) (fun M hM => ?_) (fun fr1 τ hm => ?_)
 ·simp [go_sem, f0, f1, f2]
  refine (hM _ _).2 ⟨σ0.next, (σ0.next + 1), ?_, ?_, ?_, by intro j hj; simp [go_sem, show ¬ j = σ0.next by omega, show ¬ j = σ0.next + 1 by omega], by first | omega | (simp [go_sem]; done) | (simp [go_sem]; omega), by simp (disch := omega) [get_alloc_ne, get_set_ne, get_kill_ne, go_sem, f0, f1, f2], by first | omega | (simp [go_sem]; done) | (simp [go_sem]; omega), by simp (disch := omega) [get_alloc_ne, get_set_ne, get_kill_ne, go_sem, f0, f1, f2], by first | omega | (simp [go_sem]; done) | (simp [go_sem]; omega), by omega, by omega, by omega⟩ <;> simp [go_sem, f0, f1, f2]
 clear f0 f1 f2
 obtain ⟨b3, b4, f2, f3, f4, hK, hN, gb3, ub3, gb4, ub4, wb3, wb4, eb3b4⟩ := hm
 refine SW.seq ?_
 refine SW.regX (fun f_ t_ => τ = t_ ∧ f_ 2 = AV.int (kind) ∧ f_ 3 = AV.ptr b3 0 ∧ f_ 4 = AV.ptr b4 0 ∧ f_ 7 = AV.nils) (fun M hM => ?_) (fun fr2 τz hm => ?_)
 ·simp [go_sem, f2, f3, f4, gb3, gb4]
  refine (hM _ _).2 ⟨rfl, ?_, ?_, ?_, ?_⟩ <;> simp [go_sem, f2, f3, f4, gb3, gb4]
 clear f2 f3 f4
 obtain ⟨rfl, f2, f3, f4, f7⟩ := hm
 refine SW.seq ?_
 refine SW.seq ?_
 refine SW.regX (fun f_ t_ => τ = t_ ∧ f_ 2 = AV.int (kind) ∧ f_ 3 = AV.ptr b3 0 ∧ f_ 4 = AV.ptr b4 0 ∧ f_ 7 = AV.nils ∧ f_ 8 = AV.int (0)) (fun M hM => ?_) (fun fr3 τz1 hm => ?_)
 ·simp [go_sem, f2, f3, f4, f7, gb3, gb4]
  refine (hM _ _).2 ⟨rfl, ?_, ?_, ?_, ?_, ?_⟩ <;> simp [go_sem, f2, f3, f4, f7, gb3, gb4]
 clear f2 f3 f4 f7
 obtain ⟨rfl, f2, f3, f4, f7, f8⟩ := hm
 obtain ⟨oi1, hruni1, hoi1⟩ := obind h
 refine SW.lenB b4 0 gb4 rfl (fun hbigi1 => ?_)
 obtain ⟨KL, hKL⟩ : ∃ KL : Fr → Mem → Prop, ∀ fr' τ', KL fr' τ' ↔ (∃ out : List Int, ∃ v : AV, oi1 = .done out ∧ fr' 7 = v ∧ Kept σ0 τ' ∧ σ0.next ≤ τ'.next ∧ ArrAt σ0.next τ' v 3 (out.map AV.int) out.length 1) := ⟨_, fun _ _ => Iff.rfl⟩
 refine SW.cut KL ?_ ?_
 ·refine SW.block ?_
  obtain ⟨J, hJ⟩ : ∃ J : Nat → Fr → Mem → Prop, ∀ m_ fr' τ', J m_ fr' τ' ↔ (∃ i : Nat, ∃ out : List Int, ∃ v : AV, m_ = g.nodes.length - i ∧ forN (b1_ref17_among F t g kind) (g.nodes.length - i) i out = some oi1 ∧ fr' 2 = AV.int (kind) ∧ fr' 3 = AV.ptr b3 0 ∧ fr' 4 = AV.ptr b4 0 ∧ fr' 7 = v ∧ fr' 8 = AV.int (((i : Nat) : Int)) ∧ Kept σ0 τ' ∧ σ0.next ≤ τ'.next ∧ τ'.get b3 = some [nodesA (t.nodes), edgesA (t.edges)] ∧ b3 < τ'.next ∧ τ'.get b4 = some [intsA (g.nodes), e3sA (g.edges)] ∧ b4 < τ'.next ∧ ArrAt σ0.next τ' v 3 (out.map AV.int) out.length 1 ∧ (∀ i, idOf v = some i → ¬ i = b3) ∧ (∀ i, idOf v = some i → ¬ i = b4)) := ⟨_, fun _ _ _ => Iff.rfl⟩
  refine SW.loop J (g.nodes.length - 0) ((hJ _ _ _).2 ⟨0, ([] : List Int), AV.nils, rfl, hruni1, f2, f3, f4, f7, f8, hK, hN, gb3, ub3, gb4, ub4, .inl ⟨rfl, rfl, rfl⟩, (fun i h => by cases h), (fun i h => by cases h)⟩) ?_
  clear hruni1
  intro m_ fr4 τ1 hm
  rw [hJ] at hm
  clear f2 f3 f4 f7 f8 hK hN gb3 ub3 gb4 ub4
  obtain ⟨i, out, v, rfl, hruni1, f2, f3, f4, f7, f8, hK, hN, gb3, ub3, gb4, ub4, av, evb3, evb4⟩ := hm
  refine SW.seq ?_
  refine SW.seq ?_
  refine SW.regX (fun f_ t_ => τ1 = t_ ∧ f_ 2 = AV.int (kind) ∧ f_ 3 = AV.ptr b3 0 ∧ f_ 4 = AV.ptr b4 0 ∧ f_ 7 = v ∧ f_ 8 = AV.int (((i : Nat) : Int)) ∧ f_ 13 = AV.bool ((decide (i < g.nodes.length)))) (fun M hM => ?_) (fun fr5 τz2 hm => ?_)
  ·simp [go_sem, f2, f3, f4, f7, f8, gb3, gb4]
   refine (hM _ _).2 ⟨rfl, ?_, ?_, ?_, ?_, ?_, ?_⟩ <;> simp [go_sem, f2, f3, f4, f7, f8, gb3, gb4]
  clear f2 f3 f4 f7 f8
  obtain ⟨rfl, f2, f3, f4, f7, f8, f13⟩ := hm
  refine SW.cond _ f13 (fun hx => ?_) (fun hx => ?_)
  rotate_left
  ·have hk : ¬ i < g.nodes.length := by have := of_decide_eq_false hx; omega
   refine SW.exit rfl ?_
   exact SW.goal ((hKL _ _).2 ⟨out, v, forN_end hruni1 hk, f7, hK, hN, av⟩)
  have hki : i < g.nodes.length := by have := of_decide_eq_true hx; omega
  have hwi : IntKind.i64.wrap ((i : Int) + 1) = ((i + 1 : Nat) : Int) := by rw [wrap64_of _ (by omega) (by omega)]; rfl
  obtain ⟨ci1, hbi1, hci1⟩ := forN_step hruni1 hki
  simp only [b1_ref17_among] at hbi1
  refine SW.skip ?_
  refine SW.seq ?_
  refine SW.block ?_
  refine SW.seq ?_
  obtain ⟨n, hn, hbi1⟩ := obind hbi1
  have xln := getN_lt hn
  have xdn := getN_map AV.int hn
  obtain ⟨q, hq, hbi1⟩ := obind hbi1
  refine SW.regX (fun f_ t_ => τ1 = t_ ∧ f_ 2 = AV.int (kind) ∧ f_ 3 = AV.ptr b3 0 ∧ f_ 4 = AV.ptr b4 0 ∧ f_ 7 = v ∧ f_ 8 = AV.int (((i : Nat) : Int)) ∧ f_ 23 = AV.bool (q)) (fun M hM => ?_) (fun fr6 τz3 hm => ?_)
  ·refine EW_regionD (by kernel_rfl) (by kernel_rfl) ?_
   simp [go_sem, f13, f2, f3, f4, f7, f8, gb3, gb4, xln, xdn]
   refine EWqcall_pure (w_ref04_Below1 F t n kind _ hq) rfl ?_
   simp [go_sem, f13, f2, f3, f4, f7, f8, gb3, gb4, xln, xdn]
   refine (hM _ _).2 ⟨rfl, ?_, ?_, ?_, ?_, ?_, ?_⟩ <;> simp [go_sem, f13, f2, f3, f4, f7, f8, gb3, gb4, xln, xdn]
  clear f13 f2 f3 f4 f7 f8
  obtain ⟨rfl, f2, f3, f4, f7, f8, f23⟩ := hm
  refine SW.cond _ f23 (fun hx1 => ?_) (fun hx1 => ?_)
  ·have hbi1 := condT hbi1 hx1
   obtain ⟨a, ha, hbi1⟩ := obind hbi1
   obtain ⟨la, ea⟩ := catL_spec ha
   refine SW.regX (fun f_ t_ => ∃ v1 : AV, f_ 2 = AV.int (kind) ∧ f_ 3 = AV.ptr b3 0 ∧ f_ 4 = AV.ptr b4 0 ∧ f_ 7 = v1 ∧ f_ 8 = AV.int (((i : Nat) : Int)) ∧ Kept σ0 t_ ∧ σ0.next ≤ t_.next ∧ t_.get b3 = some [nodesA (t.nodes), edgesA (t.edges)] ∧ b3 < t_.next ∧ t_.get b4 = some [intsA (g.nodes), e3sA (g.edges)] ∧ b4 < t_.next ∧ ArrAt σ0.next t_ v1 3 (a.map AV.int) a.length 1 ∧ (∀ i, idOf v1 = some i → ¬ i = b3) ∧ (∀ i, idOf v1 = some i → ¬ i = b4)) (fun M hM => ?_) (fun fr7 τ2 hm => ?_)
   ·have nb3_0 : ¬ b3 = τ1.next := by omega
    have nb3_1 : ¬ b3 = τ1.next + 1 := by omega
    have nb4_0 : ¬ b4 = τ1.next := by omega
    have nb4_1 : ¬ b4 = τ1.next + 1 := by omega
    have zv := av
    rcases zv with ⟨rfl, nv, mv⟩ | ⟨ov, rfl, gov, tov, lov, hiv⟩
    ·simp [go_sem, f2, f23, f3, f4, f7, f8, gb3, gb4, nb3_0, nb3_1, nb4_0, nb4_1, nv, mv]
     refine (hM _ _).2 ⟨AV.arr (τ1.next + 1) 0 a.length 1, ?_, ?_, ?_, ?_, ?_, by intro j hj; have hj_ := hK j hj; simp [go_sem, hj_.1, hj_.2, show ¬ j = τ1.next by omega, show ¬ j = τ1.next + 1 by omega], by first | omega | (simp [go_sem]; done) | (simp [go_sem]; omega), by simp (disch := omega) [get_alloc_ne, get_set_ne, get_kill_ne, go_sem, f2, f23, f3, f4, f7, f8, gb3, gb4, nb3_0, nb3_1, nb4_0, nb4_1, nv, mv, ea], by first | omega | (simp [go_sem]; done) | (simp [go_sem]; omega), by simp (disch := omega) [get_alloc_ne, get_set_ne, get_kill_ne, go_sem, f2, f23, f3, f4, f7, f8, gb3, gb4, nb3_0, nb3_1, nb4_0, nb4_1, nv, mv, ea], by first | omega | (simp [go_sem]; done) | (simp [go_sem]; omega), .inr ⟨(τ1.next + 1), rfl, by simp (disch := omega) [get_alloc_ne, get_set_ne, get_kill_ne, go_sem, f2, f23, f3, f4, f7, f8, gb3, gb4, nb3_0, nb3_1, nb4_0, nb4_1, nv, mv, ea], by simp [go_sem, f2, f23, f3, f4, f7, f8, gb3, gb4, nb3_0, nb3_1, nb4_0, nb4_1, nv, mv, ea], by omega, by first | (simp [go_sem]; done) | (simp [go_sem]; omega)⟩, by intro i hi; first | (simp [idOf] at hi; done) | (simp [idOf] at hi; omega), by intro i hi; first | (simp [idOf] at hi; done) | (simp [idOf] at hi; omega)⟩ <;> simp [go_sem, f2, f23, f3, f4, f7, f8, gb3, gb4, nb3_0, nb3_1, nb4_0, nb4_1, nv, mv, ea]
    ·have nv_0 : ¬ ov = τ1.next := by omega
     have nv_1 : ¬ ov = τ1.next + 1 := by omega
     have nv_b3 : ¬ ov = b3 := evb3 _ rfl
     have nb3_v : ¬ b3 = ov := fun e => evb3 _ rfl e.symm
     have nv_b4 : ¬ ov = b4 := evb4 _ rfl
     have nb4_v : ¬ b4 = ov := fun e => evb4 _ rfl e.symm
     have ca_0 : out.length ≤ 9223372036854775806 := by have c_ := la; (try simp at c_); omega
     have ca_1 : (out.length + 1) * 8 ≤ 140737488355328 := by have c_ := la; (try simp at c_); omega
     simp [go_sem, f2, f23, f3, f4, f7, f8, gb3, gb4, nb3_0, nb3_1, nb4_0, nb4_1, gov, tov, nv_0, nv_1, nv_b3, nb3_v, nv_b4, nb4_v, ca_0, ca_1]
     refine (hM _ _).2 ⟨AV.arr (τ1.next + 1) 0 a.length 1, ?_, ?_, ?_, ?_, ?_, by intro j hj; have hj_ := hK j hj; simp [go_sem, hj_.1, hj_.2, show ¬ j = τ1.next by omega, show ¬ j = τ1.next + 1 by omega, show ¬ j = ov by omega], by first | omega | (simp [go_sem]; done) | (simp [go_sem]; omega), by simp (disch := omega) [get_alloc_ne, get_set_ne, get_kill_ne, go_sem, f2, f23, f3, f4, f7, f8, gb3, gb4, nb3_0, nb3_1, nb4_0, nb4_1, gov, tov, nv_0, nv_1, nv_b3, nb3_v, nv_b4, nb4_v, ca_0, ca_1, ea], by first | omega | (simp [go_sem]; done) | (simp [go_sem]; omega), by simp (disch := omega) [get_alloc_ne, get_set_ne, get_kill_ne, go_sem, f2, f23, f3, f4, f7, f8, gb3, gb4, nb3_0, nb3_1, nb4_0, nb4_1, gov, tov, nv_0, nv_1, nv_b3, nb3_v, nv_b4, nb4_v, ca_0, ca_1, ea], by first | omega | (simp [go_sem]; done) | (simp [go_sem]; omega), .inr ⟨(τ1.next + 1), rfl, by simp (disch := omega) [get_alloc_ne, get_set_ne, get_kill_ne, go_sem, f2, f23, f3, f4, f7, f8, gb3, gb4, nb3_0, nb3_1, nb4_0, nb4_1, gov, tov, nv_0, nv_1, nv_b3, nb3_v, nv_b4, nb4_v, ca_0, ca_1, ea], by simp [go_sem, f2, f23, f3, f4, f7, f8, gb3, gb4, nb3_0, nb3_1, nb4_0, nb4_1, gov, tov, nv_0, nv_1, nv_b3, nb3_v, nv_b4, nb4_v, ca_0, ca_1, ea], by omega, by first | (simp [go_sem]; done) | (simp [go_sem]; omega)⟩, by intro i hi; first | (simp [idOf] at hi; done) | (simp [idOf] at hi; omega), by intro i hi; first | (simp [idOf] at hi; done) | (simp [idOf] at hi; omega)⟩ <;> simp [go_sem, f2, f23, f3, f4, f7, f8, gb3, gb4, nb3_0, nb3_1, nb4_0, nb4_1, gov, tov, nv_0, nv_1, nv_b3, nb3_v, nv_b4, nb4_v, ca_0, ca_1, ea]
   clear f2 f23 f3 f4 f7 f8 hK hN gb3 ub3 gb4 ub4 av
   obtain ⟨v1, f2, f3, f4, f7, f8, hK, hN, gb3, ub3, gb4, ub4, av1, ev1b3, ev1b4⟩ := hm
   refine SW.blk ?_
   refine SW.regX (fun f_ t_ => τ2 = t_ ∧ f_ 2 = AV.int (kind) ∧ f_ 3 = AV.ptr b3 0 ∧ f_ 4 = AV.ptr b4 0 ∧ f_ 7 = v1 ∧ f_ 8 = AV.int (((i + 1 : Nat) : Int))) (fun M hM => ?_) (fun fr8 τz4 hm => ?_)
   ·simp [go_sem, f2, f3, f4, f7, f8, gb3, gb4, hwi]
    refine (hM _ _).2 ⟨rfl, ?_, ?_, ?_, ?_, ?_⟩ <;> simp [go_sem, f2, f3, f4, f7, f8, gb3, gb4, hwi]
   clear f2 f3 f4 f7 f8
   obtain ⟨rfl, f2, f3, f4, f7, f8⟩ := hm
   obtain rfl := Option.some.inj hbi1
   exact SW.goal ⟨g.nodes.length - (i + 1), by omega, (hJ _ _ _).2 ⟨i + 1, a, v1, rfl, hci1, f2, f3, f4, f7, f8, hK, hN, gb3, ub3, gb4, ub4, av1, ev1b3, ev1b4⟩⟩
  have hbi1 := condF hbi1 hx1
  refine SW.skip ?_
  refine SW.blk ?_
  refine SW.regX (fun f_ t_ => τ1 = t_ ∧ f_ 2 = AV.int (kind) ∧ f_ 3 = AV.ptr b3 0 ∧ f_ 4 = AV.ptr b4 0 ∧ f_ 7 = v ∧ f_ 8 = AV.int (((i + 1 : Nat) : Int))) (fun M hM => ?_) (fun fr9 τz5 hm => ?_)
  ·simp [go_sem, f2, f23, f3, f4, f7, f8, gb3, gb4, hwi]
   refine (hM _ _).2 ⟨rfl, ?_, ?_, ?_, ?_, ?_⟩ <;> simp [go_sem, f2, f23, f3, f4, f7, f8, gb3, gb4, hwi]
  clear f2 f23 f3 f4 f7 f8
  obtain ⟨rfl, f2, f3, f4, f7, f8⟩ := hm
  obtain rfl := Option.some.inj hbi1
  exact SW.goal ⟨g.nodes.length - (i + 1), by omega, (hJ _ _ _).2 ⟨i + 1, out, v, rfl, hci1, f2, f3, f4, f7, f8, hK, hN, gb3, ub3, gb4, ub4, av, evb3, evb4⟩⟩
 intro fr10 τ3 hm
 rw [hKL] at hm
 clear hKL hruni1
 clear f2 f3 f4 f7 f8 hK hN gb3 ub3 gb4 ub4
 obtain ⟨out, v, rfl, f7, hK, hN, av⟩ := hm
 simp only [Out.on] at hoi1
 refine SW.seq ?_
 refine SW.regX (fun f_ t_ => τ3 = t_ ∧ f_ 6 = v) (fun M hM => ?_) (fun fr11 τz6 hm => ?_)
 ·simp [go_sem, f7]
  refine (hM _ _).2 ⟨rfl, ?_⟩ <;> simp [go_sem, f7]
 clear f7
 obtain ⟨rfl, f6⟩ := hm
 obtain rfl := Option.some.inj hoi1
 exact SW.ret ⟨v, by simp [go_sem, f6], ⟨v, rfl, av⟩, hK, hN⟩
theorem os_ref17_among (r : ((List Int))) : ∀ n x τ, O_ref17_among r n x τ → Solid x ∧ ∀ τ', (∀ i cs, n ≤ i → τ.get i = some cs → cs.all flatA = true → τ'.get i = some cs ∧ τ'.ty i = τ.ty i) → τ'.next = τ.next → O_ref17_among r n x τ' := by rintro n x τ ⟨v0_, hx, av0_⟩; exact ⟨by rw [hx]; exact arrAt_solid av0_, fun τ' hg hn => ⟨v0_, hx, av0_.re (flat_map (fun _ => rfl) _) hg hn⟩⟩
end Go.Proofs.YtdacgjleiloooaaGreat
