/-
  Plain functions and the walks that lead to them, by a program of ours (gen.py): scarfjoint/scarfjointref17.All, cmp.Compare_int_, slices.Compare___int_int_.
-/
import Derived.Test.YtdacgjleiloooaaGreatGd
import Derived.Test.YtdacgjleiloooaaGreatGT
import Derived.Test.YtdacgjleiloooaaGreatB3
import Derived.Test.YtdacgjleiloooaaGreatGS
import Derived.Test.YtdacgjleiloooaaGreatGa11
import Derived.Test.YtdacgjleiloooaaGreatGa16
import Derived.Test.YtdacgjleiloooaaGreatGa15
import Derived.Test.YtdacgjleiloooaaGreatGa12
set_option linter.unusedSimpArgs false
set_option linter.unusedVariables false
namespace Go.Proofs.YtdacgjleiloooaaGreat
open Go Go.Ew Go.Proofs Go.RowKit
set_option maxRecDepth 100000
set_option maxHeartbeats 4000000 in
theorem w_ref17_All (F : Nat) (t : Types) (p : Graph) (g : Graph) (injective : Bool) (r : ((List Morph) × Int)) (h : s_ref17_All F t p g injective = some r) : PureA Tryz.prog 27 [AV.agg [nodesA (t.nodes), edgesA (t.edges)], AV.agg [intsA (p.nodes), e3sA (p.edges)], AV.agg [intsA (g.nodes), e3sA (g.edges)], AV.bool (injective)] (AV.tup [morphsA (r.1), AV.int (r.2)]) := by
 refine pureA_of_SW (N := 30) Tryz.func27 (by kernel_rfl) rfl (by rw [Tryz.ntmps27]; rfl) (fun σ0 => ?_)
 rw [Tryz.results27]
 obtain ⟨fr0, hfr⟩ : ∃ fr, fr = initFr [AV.agg [nodesA (t.nodes), edgesA (t.edges)], AV.agg [intsA (p.nodes), e3sA (p.edges)], AV.agg [intsA (g.nodes), e3sA (g.edges)], AV.bool (injective)] := ⟨_, rfl⟩
 rw [← hfr]
 have f0 : fr0 0 = AV.agg [nodesA (t.nodes), edgesA (t.edges)] := by rw [hfr]; rfl
 have f1 : fr0 1 = AV.agg [intsA (p.nodes), e3sA (p.edges)] := by rw [hfr]; rfl
 have f2 : fr0 2 = AV.agg [intsA (g.nodes), e3sA (g.edges)] := by rw [hfr]; rfl
 have f3 : fr0 3 = AV.bool (injective) := by rw [hfr]; rfl
 clear hfr
 simp only [s_ref17_All] at h
 refine SW.seq ?_
 refine SW.regX (fun f_ t_ => ∃ b4 : Nat, ∃ b5 : Nat, ∃ b6 : Nat, f_ 3 = AV.bool (injective) ∧ f_ 4 = AV.ptr b4 0 ∧ f_ 5 = AV.ptr b5 0 ∧ f_ 6 = AV.ptr b6 0 ∧ Kept σ0 t_ ∧ σ0.next ≤ t_.next ∧ t_.get b4 = some [nodesA (t.nodes), edgesA (t.edges)] ∧ b4 < t_.next ∧ t_.get b5 = some [intsA (p.nodes), e3sA (p.edges)] ∧ b5 < t_.next ∧ t_.get b6 = some [intsA (g.nodes), e3sA (g.edges)] ∧ b6 < t_.next ∧ σ0.next ≤ b4 ∧ σ0.next ≤ b5 ∧ ¬ b4 = b5 ∧ σ0.next ≤ b6 ∧ ¬ b4 = b6 ∧ ¬ b5 = b6) (fun M hM => ?_) (fun fr1 τ hm => ?_)
 ·simp [go_sem, f0, f1, f2, f3]
  refine (hM _ _).2 ⟨σ0.next, (σ0.next + 1), (σ0.next + 2), ?_, ?_, ?_, ?_, by intro j hj; simp [go_sem, show ¬ j = σ0.next by omega, show ¬ j = σ0.next + 1 by omega, show ¬ j = σ0.next + 2 by omega], by first | omega | (simp [go_sem]; done) | (simp [go_sem]; omega), by simp (disch := omega) [get_alloc_ne, get_set_ne, get_kill_ne, go_sem, f0, f1, f2, f3], by first | omega | (simp [go_sem]; done) | (simp [go_sem]; omega), by simp (disch := omega) [get_alloc_ne, get_set_ne, get_kill_ne, go_sem, f0, f1, f2, f3], by first | omega | (simp [go_sem]; done) | (simp [go_sem]; omega), by simp (disch := omega) [get_alloc_ne, get_set_ne, get_kill_ne, go_sem, f0, f1, f2, f3], by first | omega | (simp [go_sem]; done) | (simp [go_sem]; omega), by omega, by omega, by omega, by omega, by omega, by omega⟩ <;> simp [go_sem, f0, f1, f2, f3]
 clear f0 f1 f2 f3
 obtain ⟨b4, b5, b6, f3, f4, f5, f6, hK, hN, gb4, ub4, gb5, ub5, gb6, ub6, wb4, wb5, eb4b5, wb6, eb4b6, eb5b6⟩ := hm
 refine SW.seq ?_
 refine SW.seq ?_
 obtain ⟨n, hn, h⟩ := obind h
 refine SW.regX (fun f_ t_ => τ = t_ ∧ f_ 3 = AV.bool (injective) ∧ f_ 4 = AV.ptr b4 0 ∧ f_ 5 = AV.ptr b5 0 ∧ f_ 6 = AV.ptr b6 0 ∧ f_ 10 = AV.int (n)) (fun M hM => ?_) (fun fr2 τz hm => ?_)
 ·simp [go_sem, f3, f4, f5, f6, gb4, gb5, gb6]
  refine EWcall_pure (w_ref17_given F t p g _ hn) ?_
  simp [go_sem, f3, f4, f5, f6, gb4, gb5, gb6]
  refine (hM _ _).2 ⟨rfl, ?_, ?_, ?_, ?_, ?_⟩ <;> simp [go_sem, f3, f4, f5, f6, gb4, gb5, gb6]
 clear f3 f4 f5 f6
 obtain ⟨rfl, f3, f4, f5, f6, f10⟩ := hm
 refine SW.seq ?_
 refine SW.regX (fun f_ t_ => τ = t_ ∧ f_ 3 = AV.bool (injective) ∧ f_ 4 = AV.ptr b4 0 ∧ f_ 5 = AV.ptr b5 0 ∧ f_ 6 = AV.ptr b6 0 ∧ f_ 10 = AV.int (n) ∧ f_ 17 = AV.bool ((!decide (n = 0)))) (fun M hM => ?_) (fun fr3 τz1 hm => ?_)
 ·simp [go_sem, f10, f3, f4, f5, f6, gb4, gb5, gb6]
  refine (hM _ _).2 ⟨rfl, ?_, ?_, ?_, ?_, ?_, ?_⟩ <;> simp [go_sem, f10, f3, f4, f5, f6, gb4, gb5, gb6]
 clear f10 f3 f4 f5 f6
 obtain ⟨rfl, f3, f4, f5, f6, f10, f17⟩ := hm
 refine SW.cond _ f17 (fun hx => ?_) (fun hx => ?_)
 ·have h := condT h hx
  refine SW.seq ?_
  refine SW.regX (fun f_ t_ => τ = t_ ∧ f_ 8 = AV.nils ∧ f_ 9 = AV.int (n)) (fun M hM => ?_) (fun fr4 τz2 hm => ?_)
  ·simp [go_sem, f10, f17, f3, f4, f5, f6, gb4, gb5, gb6]
   refine (hM _ _).2 ⟨rfl, ?_, ?_⟩ <;> simp [go_sem, f10, f17, f3, f4, f5, f6, gb4, gb5, gb6]
  clear f10 f17 f3 f4 f5 f6
  obtain ⟨rfl, f8, f9⟩ := hm
  obtain rfl := Option.some.inj h
  exact SW.ret ⟨AV.tup [AV.nils, AV.int (n)], by simp [go_sem, f8, f9], frz_tupL (frzL_c (.nils) (frzL_c (.lit _) (frzL_n))), hK.keeps⟩
 have h := condF h hx
 refine SW.skip ?_
 refine SW.seq ?_
 obtain ⟨rx, hrx, h⟩ := obind h
 obtain ⟨rx1, hrx1, h⟩ := obind h
 refine SW.regX (fun f_ t_ => τ = t_ ∧ f_ 11 = morphsA (rx1)) (fun M hM => ?_) (fun fr5 τz3 hm => ?_)
 ·refine EW_regionY τ 8 (.q false 0 (.q false 1 (.q false 2 (.q false 3 (.q false 5 (.q true 4 (.q true 6 (.q false 7 .done)))))))) (by kernel_rfl) (by kernel_rfl) (fun _ _ h => h) (fun hfin => ?_)
  have hsub : Sub τ τ := (fun _ _ h => h)
  simp (maxDischargeDepth := 12) [go_sem, f10, f17, f3, f4, f5, f6, gb4, gb5, gb6, sub_set, sub_killAll, hsub]
  refine EWzp_pure (w_ref17_open p _ hrx) ?_
  simp (maxDischargeDepth := 12) [go_sem, f10, f17, f3, f4, f5, f6, gb4, gb5, gb6, sub_set, sub_killAll, hsub]
  refine EWzp_pure (w_ref17_run F t p g rx injective 5000 _ hrx1) ?_
  simp (maxDischargeDepth := 12) [go_sem, f10, f17, f3, f4, f5, f6, gb4, gb5, gb6, sub_set, sub_killAll, hsub]
  refine (hM _ _).2 ⟨rfl, ?_⟩ <;> simp [go_sem, f10, f17, f3, f4, f5, f6, gb4, gb5, gb6, sub_set, sub_killAll, hsub]
 clear f10 f17 f3 f4 f5 f6
 obtain ⟨rfl, f11⟩ := hm
 refine SW.seq ?_
 refine SW.seq ?_
 refine SW.regX (fun f_ t_ => τ = t_ ∧ f_ 11 = morphsA (rx1) ∧ f_ 28 = AV.bool ((decide (5000 < ((rx1.length : Nat) : Int))))) (fun M hM => ?_) (fun fr6 τz4 hm => ?_)
 ·simp [go_sem, f11]
  refine (hM _ _).2 ⟨rfl, ?_, ?_⟩ <;> simp [go_sem, f11]
 clear f11
 obtain ⟨rfl, f11, f28⟩ := hm
 refine SW.cond _ f28 (fun hx1 => ?_) (fun hx1 => ?_)
 ·have h := condT h hx1
  refine SW.seq ?_
  refine SW.regX (fun f_ t_ => τ = t_ ∧ f_ 8 = AV.nils ∧ f_ 9 = AV.int (3)) (fun M hM => ?_) (fun fr7 τz5 hm => ?_)
  ·simp [go_sem, f11, f28]
   refine (hM _ _).2 ⟨rfl, ?_, ?_⟩ <;> simp [go_sem, f11, f28]
  clear f11 f28
  obtain ⟨rfl, f8, f9⟩ := hm
  obtain rfl := Option.some.inj h
  exact SW.ret ⟨AV.tup [AV.nils, AV.int (3)], by simp [go_sem, f8, f9], frz_tupL (frzL_c (.nils) (frzL_c (.lit _) (frzL_n))), hK.keeps⟩
 have h := condF h hx1
 refine SW.skip ?_
 refine SW.seq ?_
 refine SW.regX (fun f_ t_ => τ = t_ ∧ f_ 8 = morphsA (rx1) ∧ f_ 9 = AV.int (0)) (fun M hM => ?_) (fun fr8 τz6 hm => ?_)
 ·simp [go_sem, f11, f28]
  refine (hM _ _).2 ⟨rfl, ?_, ?_⟩ <;> simp [go_sem, f11, f28]
 clear f11 f28
 obtain ⟨rfl, f8, f9⟩ := hm
 obtain rfl := Option.some.inj h
 exact SW.ret ⟨AV.tup [morphsA (rx1), AV.int (0)], by simp [go_sem, f8, f9], frz_tupL (frzL_c ((DataA.imm (DataL.flatMap gd_morphC rx1)) _ _) (frzL_c (.lit _) (frzL_n))), hK.keeps⟩
set_option maxHeartbeats 4000000 in
theorem w_cmp_Compare_int (x : Int) (y : Int) (r : (Int)) (h : s_cmp_Compare_int x y = some r) : PureA Tryz.prog 54 [AV.int (x), AV.int (y)] (AV.int (r)) := by
 refine pureA_of_SW (N := 20) Tryz.func54 (by kernel_rfl) rfl (by rw [Tryz.ntmps54]; rfl) (fun σ0 => ?_)
 rw [Tryz.results54]
 obtain ⟨fr0, hfr⟩ : ∃ fr, fr = initFr [AV.int (x), AV.int (y)] := ⟨_, rfl⟩
 rw [← hfr]
 have f0 : fr0 0 = AV.int (x) := by rw [hfr]; rfl
 have f1 : fr0 1 = AV.int (y) := by rw [hfr]; rfl
 clear hfr
 simp only [s_cmp_Compare_int] at h
 refine SW.seq ?_
 refine SW.regX (fun f_ t_ => σ0 = t_ ∧ f_ 0 = AV.int (x) ∧ f_ 1 = AV.int (y)) (fun M hM => ?_) (fun fr1 τz hm => ?_)
 ·simp [go_sem, f0, f1]
  refine (hM _ _).2 ⟨rfl, ?_, ?_⟩ <;> simp [go_sem, f0, f1]
 clear f0 f1
 obtain ⟨rfl, f0, f1⟩ := hm
 refine SW.seq ?_
 obtain ⟨q, hq, h⟩ := obind h
 refine SW.regX (fun f_ t_ => σ0 = t_ ∧ f_ 0 = AV.int (x) ∧ f_ 1 = AV.int (y) ∧ f_ 5 = AV.bool (q)) (fun M hM => ?_) (fun fr2 τz1 hm => ?_)
 ·simp [go_sem, f0, f1]
  refine EWcall_pure (w_cmp_isNaN_int x _ hq) ?_
  simp [go_sem, f0, f1]
  refine (hM _ _).2 ⟨rfl, ?_, ?_, ?_⟩ <;> simp [go_sem, f0, f1]
 clear f0 f1
 obtain ⟨rfl, f0, f1, f5⟩ := hm
 refine SW.seq ?_
 obtain ⟨q1, hq1, h⟩ := obind h
 refine SW.regX (fun f_ t_ => σ0 = t_ ∧ f_ 0 = AV.int (x) ∧ f_ 1 = AV.int (y) ∧ f_ 5 = AV.bool (q) ∧ f_ 6 = AV.bool (q1)) (fun M hM => ?_) (fun fr3 τz2 hm => ?_)
 ·simp [go_sem, f0, f1, f5]
  refine EWcall_pure (w_cmp_isNaN_int y _ hq1) ?_
  simp [go_sem, f0, f1, f5]
  refine (hM _ _).2 ⟨rfl, ?_, ?_, ?_, ?_⟩ <;> simp [go_sem, f0, f1, f5]
 clear f0 f1 f5
 obtain ⟨rfl, f0, f1, f5, f6⟩ := hm
 refine SW.seq ?_
 refine SW.seq ?_
 refine SW.regX (fun f_ t_ => σ0 = t_ ∧ f_ 0 = AV.int (x) ∧ f_ 1 = AV.int (y) ∧ f_ 6 = AV.bool (q1) ∧ f_ 11 = AV.bool (q)) (fun M hM => ?_) (fun fr4 τz3 hm => ?_)
 ·simp [go_sem, f0, f1, f5, f6]
  refine (hM _ _).2 ⟨rfl, ?_, ?_, ?_, ?_⟩ <;> simp [go_sem, f0, f1, f5, f6]
 clear f0 f1 f5 f6
 obtain ⟨rfl, f0, f1, f6, f11⟩ := hm
 refine SW.cond _ f11 (fun hx => ?_) (fun hx => ?_)
 ·have h := condT h hx
  refine SW.seq ?_
  refine SW.seq ?_
  refine SW.regX (fun f_ t_ => σ0 = t_ ∧ f_ 12 = AV.bool (q1)) (fun M hM => ?_) (fun fr5 τz4 hm => ?_)
  ·simp [go_sem, f0, f1, f11, f6]
   refine (hM _ _).2 ⟨rfl, ?_⟩ <;> simp [go_sem, f0, f1, f11, f6]
  clear f0 f1 f11 f6
  obtain ⟨rfl, f12⟩ := hm
  refine SW.cond _ f12 (fun hx1 => ?_) (fun hx1 => ?_)
  ·have h := condT h hx1
   refine SW.seq ?_
   refine SW.regX (fun f_ t_ => σ0 = t_ ∧ f_ 4 = AV.int (0)) (fun M hM => ?_) (fun fr6 τz5 hm => ?_)
   ·simp [go_sem, f12]
    refine (hM _ _).2 ⟨rfl, ?_⟩ <;> simp [go_sem, f12]
   clear f12
   obtain ⟨rfl, f4⟩ := hm
   obtain rfl := Option.some.inj h
   exact SW.ret ⟨AV.int (0), by simp [go_sem, f4], .lit _, Keeps.refl _⟩
  have h := condF h hx1
  refine SW.skip ?_
  refine SW.seq ?_
  refine SW.regX (fun f_ t_ => σ0 = t_ ∧ f_ 4 = AV.int (-1)) (fun M hM => ?_) (fun fr7 τz6 hm => ?_)
  ·simp [go_sem, f12]
   refine (hM _ _).2 ⟨rfl, ?_⟩ <;> simp [go_sem, f12]
  clear f12
  obtain ⟨rfl, f4⟩ := hm
  obtain rfl := Option.some.inj h
  exact SW.ret ⟨AV.int (-1), by simp [go_sem, f4], .lit _, Keeps.refl _⟩
 have h := condF h hx
 refine SW.skip ?_
 refine SW.seq ?_
 refine SW.seq ?_
 refine SW.regX (fun f_ t_ => σ0 = t_ ∧ f_ 0 = AV.int (x) ∧ f_ 1 = AV.int (y) ∧ f_ 13 = AV.bool (q1)) (fun M hM => ?_) (fun fr8 τz7 hm => ?_)
 ·simp [go_sem, f0, f1, f11, f6]
  refine (hM _ _).2 ⟨rfl, ?_, ?_, ?_⟩ <;> simp [go_sem, f0, f1, f11, f6]
 clear f0 f1 f11 f6
 obtain ⟨rfl, f0, f1, f13⟩ := hm
 refine SW.cond _ f13 (fun hx2 => ?_) (fun hx2 => ?_)
 ·have h := condT h hx2
  refine SW.seq ?_
  refine SW.regX (fun f_ t_ => σ0 = t_ ∧ f_ 4 = AV.int (1)) (fun M hM => ?_) (fun fr9 τz8 hm => ?_)
  ·simp [go_sem, f0, f1, f13]
   refine (hM _ _).2 ⟨rfl, ?_⟩ <;> simp [go_sem, f0, f1, f13]
  clear f0 f1 f13
  obtain ⟨rfl, f4⟩ := hm
  obtain rfl := Option.some.inj h
  exact SW.ret ⟨AV.int (1), by simp [go_sem, f4], .lit _, Keeps.refl _⟩
 have h := condF h hx2
 refine SW.skip ?_
 refine SW.seq ?_
 refine SW.seq ?_
 refine SW.regX (fun f_ t_ => σ0 = t_ ∧ f_ 0 = AV.int (x) ∧ f_ 1 = AV.int (y) ∧ f_ 16 = AV.bool ((decide (x < y)))) (fun M hM => ?_) (fun fr10 τz9 hm => ?_)
 ·simp [go_sem, f0, f1, f13]
  refine (hM _ _).2 ⟨rfl, ?_, ?_, ?_⟩ <;> simp [go_sem, f0, f1, f13]
 clear f0 f1 f13
 obtain ⟨rfl, f0, f1, f16⟩ := hm
 refine SW.cond _ f16 (fun hx3 => ?_) (fun hx3 => ?_)
 ·have h := condT h hx3
  refine SW.seq ?_
  refine SW.regX (fun f_ t_ => σ0 = t_ ∧ f_ 4 = AV.int (-1)) (fun M hM => ?_) (fun fr11 τz10 hm => ?_)
  ·simp [go_sem, f0, f1, f16]
   refine (hM _ _).2 ⟨rfl, ?_⟩ <;> simp [go_sem, f0, f1, f16]
  clear f0 f1 f16
  obtain ⟨rfl, f4⟩ := hm
  obtain rfl := Option.some.inj h
  exact SW.ret ⟨AV.int (-1), by simp [go_sem, f4], .lit _, Keeps.refl _⟩
 have h := condF h hx3
 refine SW.skip ?_
 refine SW.seq ?_
 refine SW.seq ?_
 refine SW.regX (fun f_ t_ => σ0 = t_ ∧ f_ 19 = AV.bool ((decide (y < x)))) (fun M hM => ?_) (fun fr12 τz11 hm => ?_)
 ·simp [go_sem, f0, f1, f16]
  refine (hM _ _).2 ⟨rfl, ?_⟩ <;> simp [go_sem, f0, f1, f16]
 clear f0 f1 f16
 obtain ⟨rfl, f19⟩ := hm
 refine SW.cond _ f19 (fun hx4 => ?_) (fun hx4 => ?_)
 ·have h := condT h hx4
  refine SW.seq ?_
  refine SW.regX (fun f_ t_ => σ0 = t_ ∧ f_ 4 = AV.int (1)) (fun M hM => ?_) (fun fr13 τz12 hm => ?_)
  ·simp [go_sem, f19]
   refine (hM _ _).2 ⟨rfl, ?_⟩ <;> simp [go_sem, f19]
  clear f19
  obtain ⟨rfl, f4⟩ := hm
  obtain rfl := Option.some.inj h
  exact SW.ret ⟨AV.int (1), by simp [go_sem, f4], .lit _, Keeps.refl _⟩
 have h := condF h hx4
 refine SW.skip ?_
 refine SW.seq ?_
 refine SW.regX (fun f_ t_ => σ0 = t_ ∧ f_ 4 = AV.int (0)) (fun M hM => ?_) (fun fr14 τz13 hm => ?_)
 ·simp [go_sem, f19]
  refine (hM _ _).2 ⟨rfl, ?_⟩ <;> simp [go_sem, f19]
 clear f19
 obtain ⟨rfl, f4⟩ := hm
 obtain rfl := Option.some.inj h
 exact SW.ret ⟨AV.int (0), by simp [go_sem, f4], .lit _, Keeps.refl _⟩
set_option maxHeartbeats 4000000 in
theorem w_slices_Compare_int (s1 : List Int) (s2 : List Int) (r : (Int)) (h : s_slices_Compare_int s1 s2 = some r) : PureA Tryz.prog 29 [intsA (s1), intsA (s2)] (AV.int (r)) := by
 refine pureA_of_SW (N := 36) Tryz.func29 (by kernel_rfl) rfl (by rw [Tryz.ntmps29]; rfl) (fun σ0 => ?_)
 rw [Tryz.results29]
 obtain ⟨fr0, hfr⟩ : ∃ fr, fr = initFr [intsA (s1), intsA (s2)] := ⟨_, rfl⟩
 rw [← hfr]
 have f0 : fr0 0 = intsA (s1) := by rw [hfr]; rfl
 have f1 : fr0 1 = intsA (s2) := by rw [hfr]; rfl
 clear hfr
 simp only [s_slices_Compare_int] at h
 refine SW.seq ?_
 refine SW.regX (fun f_ t_ => σ0 = t_ ∧ f_ 0 = intsA (s1) ∧ f_ 1 = intsA (s2)) (fun M hM => ?_) (fun fr1 τz hm => ?_)
 ·simp [go_sem, f0, f1]
  refine (hM _ _).2 ⟨rfl, ?_, ?_⟩ <;> simp [go_sem, f0, f1]
 clear f0 f1
 obtain ⟨rfl, f0, f1⟩ := hm
 refine SW.seq ?_
 refine SW.seq ?_
 refine SW.regX (fun f_ t_ => σ0 = t_ ∧ f_ 0 = intsA (s1) ∧ f_ 1 = intsA (s2) ∧ f_ 9 = intsA (s1) ∧ f_ 10 = AV.int (((s1.length : Nat) : Int)) ∧ f_ 11 = AV.int (0)) (fun M hM => ?_) (fun fr2 τz1 hm => ?_)
 ·simp [go_sem, f0, f1]
  refine (hM _ _).2 ⟨rfl, ?_, ?_, ?_, ?_, ?_⟩ <;> simp [go_sem, f0, f1]
 clear f0 f1
 obtain ⟨rfl, f0, f1, f9, f10, f11⟩ := hm
 obtain ⟨oi, hruni, hoi⟩ := obind h
 refine SW.len 0 f0 (fun hbigi => ?_)
 obtain ⟨KL, hKL⟩ : ∃ KL : Fr → Mem → Prop, ∀ fr' τ', KL fr' τ' ↔ (oi = .done () ∧ σ0 = τ' ∧ fr' 0 = intsA (s1) ∧ fr' 1 = intsA (s2)) := ⟨_, fun _ _ => Iff.rfl⟩
 refine SW.cut KL ?_ ?_
 ·refine SW.block ?_
  obtain ⟨J, hJ⟩ : ∃ J : Nat → Fr → Mem → Prop, ∀ m_ fr' τ', J m_ fr' τ' ↔ (∃ k : Nat, m_ = s1.length - k ∧ forN (b1_slices_Compare_int s1 s2) (s1.length - k) k () = some oi ∧ σ0 = τ' ∧ fr' 0 = intsA (s1) ∧ fr' 1 = intsA (s2) ∧ fr' 9 = intsA (s1) ∧ fr' 10 = AV.int (((s1.length : Nat) : Int)) ∧ fr' 11 = AV.int (((k : Nat) : Int))) := ⟨_, fun _ _ _ => Iff.rfl⟩
  refine SW.loop J (s1.length - 0) ((hJ _ _ _).2 ⟨0, rfl, hruni, rfl, f0, f1, f9, f10, f11⟩) ?_
  clear hruni
  intro m_ fr3 τ hm
  rw [hJ] at hm
  clear f0 f1 f10 f11 f9
  obtain ⟨k, rfl, hruni, rfl, f0, f1, f9, f10, f11⟩ := hm
  refine SW.seq ?_
  refine SW.regX (fun f_ t_ => σ0 = t_ ∧ f_ 0 = intsA (s1) ∧ f_ 1 = intsA (s2) ∧ f_ 9 = intsA (s1) ∧ f_ 10 = AV.int (((s1.length : Nat) : Int)) ∧ f_ 11 = AV.int (((k : Nat) : Int)) ∧ f_ 12 = AV.bool ((decide (k < s1.length)))) (fun M hM => ?_) (fun fr4 τz2 hm => ?_)
  ·simp [go_sem, f0, f1, f10, f11, f9]
   refine (hM _ _).2 ⟨rfl, ?_, ?_, ?_, ?_, ?_, ?_⟩ <;> simp [go_sem, f0, f1, f10, f11, f9]
  clear f0 f1 f10 f11 f9
  obtain ⟨rfl, f0, f1, f9, f10, f11, f12⟩ := hm
  refine SW.seq ?_
  refine SW.cond _ f12 (fun hx => ?_) (fun hx => ?_)
  rotate_left
  ·have hk : ¬ k < s1.length := by have := of_decide_eq_false hx; omega
   refine SW.exit rfl ?_
   exact SW.goal ((hKL _ _).2 ⟨forN_end hruni hk, rfl, f0, f1⟩)
  have hkk : k < s1.length := by have := of_decide_eq_true hx; omega
  have hwk : IntKind.i64.wrap ((k : Int) + 1) = ((k + 1 : Nat) : Int) := by rw [wrap64_of _ (by omega) (by omega)]; rfl
  obtain ⟨ci, hbi, hci⟩ := forN_step hruni hkk
  simp only [b1_slices_Compare_int] at hbi
  refine SW.skip ?_
  refine SW.seq ?_
  refine SW.block ?_
  refine SW.seq ?_
  obtain ⟨n, hn, hbi⟩ := obind hbi
  have xln := getN_lt hn
  have xdn := getN_map AV.int hn
  refine SW.regX (fun f_ t_ => σ0 = t_ ∧ f_ 0 = intsA (s1) ∧ f_ 1 = intsA (s2) ∧ f_ 5 = AV.int (((k : Nat) : Int)) ∧ f_ 6 = AV.int (n) ∧ f_ 9 = intsA (s1) ∧ f_ 10 = AV.int (((s1.length : Nat) : Int)) ∧ f_ 11 = AV.int (((k : Nat) : Int))) (fun M hM => ?_) (fun fr5 τz3 hm => ?_)
  ·simp [go_sem, f0, f1, f10, f11, f12, f9, xln, xdn]
   refine (hM _ _).2 ⟨rfl, ?_, ?_, ?_, ?_, ?_, ?_, ?_⟩ <;> simp [go_sem, f0, f1, f10, f11, f12, f9, xln, xdn]
  clear f0 f1 f10 f11 f12 f9
  obtain ⟨rfl, f0, f1, f5, f6, f9, f10, f11⟩ := hm
  refine SW.seq ?_
  refine SW.seq ?_
  refine SW.regX (fun f_ t_ => σ0 = t_ ∧ f_ 0 = intsA (s1) ∧ f_ 1 = intsA (s2) ∧ f_ 5 = AV.int (((k : Nat) : Int)) ∧ f_ 6 = AV.int (n) ∧ f_ 9 = intsA (s1) ∧ f_ 10 = AV.int (((s1.length : Nat) : Int)) ∧ f_ 11 = AV.int (((k : Nat) : Int)) ∧ f_ 19 = AV.bool ((decide (s2.length ≤ k)))) (fun M hM => ?_) (fun fr6 τz4 hm => ?_)
  ·simp [go_sem, f0, f1, f10, f11, f5, f6, f9]
   refine (hM _ _).2 ⟨rfl, ?_, ?_, ?_, ?_, ?_, ?_, ?_, ?_⟩ <;> simp [go_sem, f0, f1, f10, f11, f5, f6, f9]
  clear f0 f1 f10 f11 f5 f6 f9
  obtain ⟨rfl, f0, f1, f5, f6, f9, f10, f11, f19⟩ := hm
  refine SW.cond _ f19 (fun hx1 => ?_) (fun hx1 => ?_)
  ·have hbi := condT hbi hx1
   refine SW.seq ?_
   refine SW.regX (fun f_ t_ => σ0 = t_ ∧ f_ 4 = AV.int (1)) (fun M hM => ?_) (fun fr7 τz5 hm => ?_)
   ·simp [go_sem, f0, f1, f10, f11, f19, f5, f6, f9]
    refine (hM _ _).2 ⟨rfl, ?_⟩ <;> simp [go_sem, f0, f1, f10, f11, f19, f5, f6, f9]
   clear f0 f1 f10 f11 f19 f5 f6 f9
   obtain ⟨rfl, f4⟩ := hm
   obtain rfl := Option.some.inj hbi
   obtain rfl := Option.some.inj hci
   obtain rfl := Option.some.inj hoi
   exact SW.ret ⟨AV.int (1), by simp [go_sem, f4], .lit _, Keeps.refl _⟩
  have hbi := condF hbi hx1
  refine SW.skip ?_
  refine SW.seq ?_
  obtain ⟨n1, hn1, hbi⟩ := obind hbi
  have xln1 := getN_lt hn1
  have xdn1 := getN_map AV.int hn1
  refine SW.regX (fun f_ t_ => σ0 = t_ ∧ f_ 0 = intsA (s1) ∧ f_ 1 = intsA (s2) ∧ f_ 6 = AV.int (n) ∧ f_ 7 = AV.int (n1) ∧ f_ 9 = intsA (s1) ∧ f_ 10 = AV.int (((s1.length : Nat) : Int)) ∧ f_ 11 = AV.int (((k : Nat) : Int))) (fun M hM => ?_) (fun fr8 τz6 hm => ?_)
  ·simp [go_sem, f0, f1, f10, f11, f19, f5, f6, f9, xln1, xdn1]
   refine (hM _ _).2 ⟨rfl, ?_, ?_, ?_, ?_, ?_, ?_, ?_⟩ <;> simp [go_sem, f0, f1, f10, f11, f19, f5, f6, f9, xln1, xdn1]
  clear f0 f1 f10 f11 f19 f5 f6 f9
  obtain ⟨rfl, f0, f1, f6, f7, f9, f10, f11⟩ := hm
  refine SW.seq ?_
  obtain ⟨n2, hn2, hbi⟩ := obind hbi
  refine SW.regX (fun f_ t_ => σ0 = t_ ∧ f_ 0 = intsA (s1) ∧ f_ 1 = intsA (s2) ∧ f_ 8 = AV.int (n2) ∧ f_ 9 = intsA (s1) ∧ f_ 10 = AV.int (((s1.length : Nat) : Int)) ∧ f_ 11 = AV.int (((k : Nat) : Int))) (fun M hM => ?_) (fun fr9 τz7 hm => ?_)
  ·simp [go_sem, f0, f1, f10, f11, f6, f7, f9]
   refine EWcall_pure (w_cmp_Compare_int n n1 _ hn2) ?_
   simp [go_sem, f0, f1, f10, f11, f6, f7, f9]
   refine (hM _ _).2 ⟨rfl, ?_, ?_, ?_, ?_, ?_, ?_⟩ <;> simp [go_sem, f0, f1, f10, f11, f6, f7, f9]
  clear f0 f1 f10 f11 f6 f7 f9
  obtain ⟨rfl, f0, f1, f8, f9, f10, f11⟩ := hm
  refine SW.seq ?_
  refine SW.regX (fun f_ t_ => σ0 = t_ ∧ f_ 0 = intsA (s1) ∧ f_ 1 = intsA (s2) ∧ f_ 8 = AV.int (n2) ∧ f_ 9 = intsA (s1) ∧ f_ 10 = AV.int (((s1.length : Nat) : Int)) ∧ f_ 11 = AV.int (((k : Nat) : Int)) ∧ f_ 28 = AV.bool ((!decide (n2 = 0)))) (fun M hM => ?_) (fun fr10 τz8 hm => ?_)
  ·simp [go_sem, f0, f1, f10, f11, f8, f9]
   refine (hM _ _).2 ⟨rfl, ?_, ?_, ?_, ?_, ?_, ?_, ?_⟩ <;> simp [go_sem, f0, f1, f10, f11, f8, f9]
  clear f0 f1 f10 f11 f8 f9
  obtain ⟨rfl, f0, f1, f8, f9, f10, f11, f28⟩ := hm
  refine SW.cond _ f28 (fun hx2 => ?_) (fun hx2 => ?_)
  ·have hbi := condT hbi hx2
   refine SW.seq ?_
   refine SW.regX (fun f_ t_ => σ0 = t_ ∧ f_ 4 = AV.int (n2)) (fun M hM => ?_) (fun fr11 τz9 hm => ?_)
   ·simp [go_sem, f0, f1, f10, f11, f28, f8, f9]
    refine (hM _ _).2 ⟨rfl, ?_⟩ <;> simp [go_sem, f0, f1, f10, f11, f28, f8, f9]
   clear f0 f1 f10 f11 f28 f8 f9
   obtain ⟨rfl, f4⟩ := hm
   obtain rfl := Option.some.inj hbi
   obtain rfl := Option.some.inj hci
   obtain rfl := Option.some.inj hoi
   exact SW.ret ⟨AV.int (n2), by simp [go_sem, f4], .lit _, Keeps.refl _⟩
  have hbi := condF hbi hx2
  refine SW.skip ?_
  refine SW.blk ?_
  refine SW.regX (fun f_ t_ => σ0 = t_ ∧ f_ 0 = intsA (s1) ∧ f_ 1 = intsA (s2) ∧ f_ 9 = intsA (s1) ∧ f_ 10 = AV.int (((s1.length : Nat) : Int)) ∧ f_ 11 = AV.int (((k + 1 : Nat) : Int))) (fun M hM => ?_) (fun fr12 τz10 hm => ?_)
  ·simp [go_sem, f0, f1, f10, f11, f28, f8, f9, hwk]
   refine (hM _ _).2 ⟨rfl, ?_, ?_, ?_, ?_, ?_⟩ <;> simp [go_sem, f0, f1, f10, f11, f28, f8, f9, hwk]
  clear f0 f1 f10 f11 f28 f8 f9
  obtain ⟨rfl, f0, f1, f9, f10, f11⟩ := hm
  obtain rfl := Option.some.inj hbi
  exact SW.goal ⟨s1.length - (k + 1), by omega, (hJ _ _ _).2 ⟨k + 1, rfl, hci, rfl, f0, f1, f9, f10, f11⟩⟩
 intro fr13 τ1 hm
 rw [hKL] at hm
 clear hKL hruni
 clear f0 f1 f10 f11 f9
 obtain ⟨rfl, rfl, f0, f1⟩ := hm
 simp only [Out.on] at hoi
 refine SW.seq ?_
 refine SW.seq ?_
 refine SW.regX (fun f_ t_ => σ0 = t_ ∧ f_ 35 = AV.bool ((decide (s1.length < s2.length)))) (fun M hM => ?_) (fun fr14 τz11 hm => ?_)
 ·simp [go_sem, f0, f1]
  refine (hM _ _).2 ⟨rfl, ?_⟩ <;> simp [go_sem, f0, f1]
 clear f0 f1
 obtain ⟨rfl, f35⟩ := hm
 refine SW.cond _ f35 (fun hx3 => ?_) (fun hx3 => ?_)
 ·have hoi := condT hoi hx3
  refine SW.seq ?_
  refine SW.regX (fun f_ t_ => σ0 = t_ ∧ f_ 4 = AV.int (-1)) (fun M hM => ?_) (fun fr15 τz12 hm => ?_)
  ·simp [go_sem, f35]
   refine (hM _ _).2 ⟨rfl, ?_⟩ <;> simp [go_sem, f35]
  clear f35
  obtain ⟨rfl, f4⟩ := hm
  obtain rfl := Option.some.inj hoi
  exact SW.ret ⟨AV.int (-1), by simp [go_sem, f4], .lit _, Keeps.refl _⟩
 have hoi := condF hoi hx3
 refine SW.skip ?_
 refine SW.seq ?_
 refine SW.regX (fun f_ t_ => σ0 = t_ ∧ f_ 4 = AV.int (0)) (fun M hM => ?_) (fun fr16 τz13 hm => ?_)
 ·simp [go_sem, f35]
  refine (hM _ _).2 ⟨rfl, ?_⟩ <;> simp [go_sem, f35]
 clear f35
 obtain ⟨rfl, f4⟩ := hm
 obtain rfl := Option.some.inj hoi
 exact SW.ret ⟨AV.int (0), by simp [go_sem, f4], .lit _, Keeps.refl _⟩
end Go.Proofs.YtdacgjleiloooaaGreat
