/-
  Plain functions and the walks that lead to them, by a program of ours (gen.py): scarfjoint/scarfjointref04.attrs, scarfjoint/scarfjointref04.names, scarfjoint/scarfjointref04.attribute.
-/
import Derived.Test.YtdacgjleiloooaaGreatGd
import Derived.Test.YtdacgjleiloooaaGreatGT
import Derived.Test.YtdacgjleiloooaaGreatB3
import Derived.Test.YtdacgjleiloooaaGreatGS
import Derived.Test.YtdacgjleiloooaaGreatGa6
set_option linter.unusedSimpArgs false
set_option linter.unusedVariables false
namespace Go.Proofs.YtdacgjleiloooaaGreat
open Go Go.Ew Go.Proofs Go.RowKit
set_option maxRecDepth 100000
set_option maxHeartbeats 4000000 in
theorem w_ref04_attrs : ∀ (F : Nat) (t : Types) (a : Int) (r : ((List Attr))) (_ : s_ref04_attrs F t a = some r), PureA Tryz.prog 100 [AV.agg [nodesA (t.nodes), edgesA (t.edges)], AV.int (a)] (attrsA (r))
 | 0, _, _, _, h => by cases h
 | F + 1, t, a, r, h => by
  refine pureA_of_SW (N := 24) Tryz.func100 (by kernel_rfl) rfl (by rw [Tryz.ntmps100]; rfl) (fun σ0 => ?_)
  rw [Tryz.results100]
  obtain ⟨fr0, hfr⟩ : ∃ fr, fr = initFr [AV.agg [nodesA (t.nodes), edgesA (t.edges)], AV.int (a)] := ⟨_, rfl⟩
  rw [← hfr]
  have f0 : fr0 0 = AV.agg [nodesA (t.nodes), edgesA (t.edges)] := by rw [hfr]; rfl
  have f1 : fr0 1 = AV.int (a) := by rw [hfr]; rfl
  clear hfr
  simp only [s_ref04_attrs] at h
  refine SW.seq ?_
  refine SW.regX (fun f_ t_ => ∃ b2 : Nat, f_ 1 = AV.int (a) ∧ f_ 2 = AV.ptr b2 0 ∧ Kept σ0 t_ ∧ σ0.next ≤ t_.next ∧ t_.get b2 = some [nodesA (t.nodes), edgesA (t.edges)] ∧ b2 < t_.next ∧ σ0.next ≤ b2) (fun M hM => ?_) (fun fr1 τ hm => ?_)
  ·simp [go_sem, f0, f1]
   refine (hM _ _).2 ⟨σ0.next, ?_, ?_, by intro j hj; simp [go_sem, show ¬ j = σ0.next by omega], by first | omega | (simp [go_sem]; done) | (simp [go_sem]; omega), by simp (disch := omega) [get_alloc_ne, get_set_ne, get_kill_ne, go_sem, f0, f1], by first | omega | (simp [go_sem]; done) | (simp [go_sem]; omega), by omega⟩ <;> simp [go_sem, f0, f1]
  clear f0 f1
  obtain ⟨b2, f1, f2, hK, hN, gb2, ub2, wb2⟩ := hm
  refine SW.seq ?_
  refine SW.seq ?_
  refine SW.regX (fun f_ t_ => τ = t_ ∧ f_ 1 = AV.int (a) ∧ f_ 2 = AV.ptr b2 0 ∧ f_ 6 = AV.bool ((decide (a < 0)))) (fun M hM => ?_) (fun fr2 τz hm => ?_)
  ·simp [go_sem, f1, f2, gb2]
   refine (hM _ _).2 ⟨rfl, ?_, ?_, ?_⟩ <;> simp [go_sem, f1, f2, gb2]
  clear f1 f2
  obtain ⟨rfl, f1, f2, f6⟩ := hm
  refine SW.cond _ f6 (fun hx => ?_) (fun hx => ?_)
  ·have h := condT h hx
   refine SW.seq ?_
   refine SW.regX (fun f_ t_ => τ = t_ ∧ f_ 4 = AV.nils) (fun M hM => ?_) (fun fr3 τz1 hm => ?_)
   ·simp [go_sem, f1, f2, f6, gb2]
    refine (hM _ _).2 ⟨rfl, ?_⟩ <;> simp [go_sem, f1, f2, f6, gb2]
   clear f1 f2 f6
   obtain ⟨rfl, f4⟩ := hm
   obtain rfl := Option.some.inj h
   exact SW.ret ⟨AV.nils, by simp [go_sem, f4], .nils, hK.keeps⟩
  have h := condF h hx
  refine SW.skip ?_
  refine SW.seq ?_
  obtain ⟨x, hx, h⟩ := obind h
  have xpx := getI_pos hx
  have xlx := getI_lt hx
  have xix := getI_N hx
  have xdx := getN_flat nodeC 4 (fun _ => rfl) xix
  obtain ⟨rx, hrx, h⟩ := obind h
  obtain ⟨a1, ha1, h⟩ := obind h
  obtain ⟨la1, ea1⟩ := catL_spec ha1
  obtain ⟨a2, ha2, h⟩ := obind h
  obtain ⟨la2, ea2⟩ := catL_spec ha2
  refine SW.regX (fun f_ t_ => ∃ v : AV, f_ 4 = v ∧ Kept σ0 t_ ∧ σ0.next ≤ t_.next ∧ ArrAt σ0.next t_ v 91 (a2.flatMap attrC) a2.length 4) (fun M hM => ?_) (fun fr4 τ1 hm => ?_)
  ·have nb2_0 : ¬ b2 = τ.next := by omega
   have nb2_1 : ¬ b2 = τ.next + 1 := by omega
   have nb2_2 : ¬ b2 = τ.next + 2 := by omega
   have La1 := length_flatMap (f := attrC) (sz := 4) (fun _ => rfl) rx
   have Ma1 := sum_len (f := attrC) (sz := 4) (fun _ => rfl) rx
   have ca1_0 : rx.length ≤ 9223372036854775807 := by have c_ := la1; (try simp at c_); omega
   have ca1_1 : rx.length * 56 ≤ 140737488355328 := by have c_ := la1; (try simp at c_); omega
   have La2 := length_flatMap (f := attrC) (sz := 4) (fun _ => rfl) x.attrs
   have Ma2 := sum_len (f := attrC) (sz := 4) (fun _ => rfl) x.attrs
   have ca2_0 : rx.length + x.attrs.length ≤ 9223372036854775807 := by have c_ := la2; rw [ea1] at c_; (try simp at c_); omega
   have ca2_1 : (rx.length + x.attrs.length) * 56 ≤ 140737488355328 := by have c_ := la2; rw [ea1] at c_; (try simp at c_); omega
   refine EW_regionY τ 18 (.q false 1 (.q false 2 (.q false 3 (.q false 4 (.q false 5 (.q false 6 (.q false 7 (.q false 10 (.q false 11 (.q false 12 (.q false 13 (.q false 14 (.q false 15 (.q true 8 (.s 0 (.s 9 (.s 16 (.q false 17 .done)))))))))))))))))) (by kernel_rfl) (by kernel_rfl) (fun _ _ h => h) (fun hfin => ?_)
   have m0_ : τ.get (τ.next) = none := hfin _ (by omega)
   have m1_ : τ.get (τ.next + 1) = none := hfin _ (by omega)
   have m2_ : τ.get (τ.next + 2) = none := hfin _ (by omega)
   have hsub : Sub τ τ := (fun _ _ h => h)
   simp (maxDischargeDepth := 12) [go_sem, f1, f2, f6, gb2, xpx, xlx, xdx, nodeC, nb2_0, nb2_1, nb2_2, La1, Ma1, ca1_0, ca1_1, La2, Ma2, ca2_0, ca2_1, m0_, m1_, m2_, sub_set, sub_killAll, hsub]
   refine EWzp_pure (w_ref04_attrs F t x.parent _ hrx) ?_
   simp (maxDischargeDepth := 12) [go_sem, f1, f2, f6, gb2, xpx, xlx, xdx, nodeC, nb2_0, nb2_1, nb2_2, La1, Ma1, ca1_0, ca1_1, La2, Ma2, ca2_0, ca2_1, m0_, m1_, m2_, sub_set, sub_killAll, hsub]
   refine (hM _ _).2 ⟨AV.arr (τ.next + 2) 0 a2.length 4, ?_, by intro j hj; have hj_ := hK j hj; simp [go_sem, hj_.1, hj_.2, show ¬ j = τ.next by omega, show ¬ j = τ.next + 1 by omega, show ¬ j = τ.next + 2 by omega], by first | omega | (simp [go_sem]; done) | (simp [go_sem]; omega), .inr ⟨(τ.next + 2), rfl, by simp (disch := omega) [get_alloc_ne, get_set_ne, get_kill_ne, go_sem, f1, f2, f6, gb2, xpx, xlx, xdx, nodeC, nb2_0, nb2_1, nb2_2, La1, Ma1, ca1_0, ca1_1, La2, Ma2, ca2_0, ca2_1, m0_, m1_, m2_, sub_set, sub_killAll, hsub, ea1, ea2, attrC], by simp [go_sem, f1, f2, f6, gb2, xpx, xlx, xdx, nodeC, nb2_0, nb2_1, nb2_2, La1, Ma1, ca1_0, ca1_1, La2, Ma2, ca2_0, ca2_1, m0_, m1_, m2_, sub_set, sub_killAll, hsub, ea1, ea2], by omega, by first | (simp [go_sem]; done) | (simp [go_sem]; omega)⟩⟩ <;> simp [go_sem, f1, f2, f6, gb2, xpx, xlx, xdx, nodeC, nb2_0, nb2_1, nb2_2, La1, Ma1, ca1_0, ca1_1, La2, Ma2, ca2_0, ca2_1, m0_, m1_, m2_, sub_set, sub_killAll, hsub, ea1, ea2]
  clear f1 f2 f6 hK hN gb2 ub2
  obtain ⟨v, f4, hK, hN, av⟩ := hm
  obtain rfl := Option.some.inj h
  exact SW.ret ⟨v, by simp [go_sem, f4], av.frz (DataL.flatMap gd_attrC a2), hK.keeps⟩
set_option maxHeartbeats 4000000 in
theorem w_ref04_names (l : List (List UInt8)) (r : (Int)) (h : s_ref04_names l = some r) : PureA Tryz.prog 120 [strsA (l)] (AV.int (r)) := by
 refine pureA_of_SW (N := 34) Tryz.func120 (by kernel_rfl) rfl (by rw [Tryz.ntmps120]; rfl) (fun σ0 => ?_)
 rw [Tryz.results120]
 obtain ⟨fr0, hfr⟩ : ∃ fr, fr = initFr [strsA (l)] := ⟨_, rfl⟩
 rw [← hfr]
 have f0 : fr0 0 = strsA (l) := by rw [hfr]; rfl
 clear hfr
 simp only [s_ref04_names] at h
 refine SW.seq ?_
 refine SW.regX (fun f_ t_ => σ0 = t_ ∧ f_ 0 = strsA (l)) (fun M hM => ?_) (fun fr1 τz hm => ?_)
 ·simp [go_sem, f0]
  refine (hM _ _).2 ⟨rfl, ?_⟩ <;> simp [go_sem, f0]
 clear f0
 obtain ⟨rfl, f0⟩ := hm
 refine SW.seq ?_
 refine SW.seq ?_
 refine SW.regX (fun f_ t_ => σ0 = t_ ∧ f_ 0 = strsA (l) ∧ f_ 7 = AV.bool ((decide (20 < ((l.length : Nat) : Int))))) (fun M hM => ?_) (fun fr2 τz1 hm => ?_)
 ·simp [go_sem, f0]
  refine (hM _ _).2 ⟨rfl, ?_, ?_⟩ <;> simp [go_sem, f0]
 clear f0
 obtain ⟨rfl, f0, f7⟩ := hm
 refine SW.cond _ f7 (fun hx => ?_) (fun hx => ?_)
 ·have h := condT h hx
  refine SW.seq ?_
  refine SW.regX (fun f_ t_ => σ0 = t_ ∧ f_ 2 = AV.int (3)) (fun M hM => ?_) (fun fr3 τz2 hm => ?_)
  ·simp [go_sem, f0, f7]
   refine (hM _ _).2 ⟨rfl, ?_⟩ <;> simp [go_sem, f0, f7]
  clear f0 f7
  obtain ⟨rfl, f2⟩ := hm
  obtain rfl := Option.some.inj h
  exact SW.ret ⟨AV.int (3), by simp [go_sem, f2], .lit _, Keeps.refl _⟩
 have h := condF h hx
 refine SW.skip ?_
 refine SW.seq ?_
 refine SW.seq ?_
 refine SW.regX (fun f_ t_ => σ0 = t_ ∧ f_ 0 = strsA (l) ∧ f_ 3 = AV.int (0)) (fun M hM => ?_) (fun fr4 τz3 hm => ?_)
 ·simp [go_sem, f0, f7]
  refine (hM _ _).2 ⟨rfl, ?_, ?_⟩ <;> simp [go_sem, f0, f7]
 clear f0 f7
 obtain ⟨rfl, f0, f3⟩ := hm
 obtain ⟨oi1, hruni1, hoi1⟩ := obind h
 refine SW.len 0 f0 (fun hbigi1 => ?_)
 obtain ⟨KL, hKL⟩ : ∃ KL : Fr → Mem → Prop, ∀ fr' τ', KL fr' τ' ↔ (oi1 = .done () ∧ σ0 = τ') := ⟨_, fun _ _ => Iff.rfl⟩
 refine SW.cut KL ?_ ?_
 ·refine SW.block ?_
  obtain ⟨J, hJ⟩ : ∃ J : Nat → Fr → Mem → Prop, ∀ m_ fr' τ', J m_ fr' τ' ↔ (∃ i : Nat, m_ = l.length - i ∧ forN (b1_ref04_names l) (l.length - i) i () = some oi1 ∧ σ0 = τ' ∧ fr' 0 = strsA (l) ∧ fr' 3 = AV.int (((i : Nat) : Int))) := ⟨_, fun _ _ _ => Iff.rfl⟩
  refine SW.loop J (l.length - 0) ((hJ _ _ _).2 ⟨0, rfl, hruni1, rfl, f0, f3⟩) ?_
  clear hruni1
  intro m_ fr5 τ hm
  rw [hJ] at hm
  clear f0 f3
  obtain ⟨i, rfl, hruni1, rfl, f0, f3⟩ := hm
  refine SW.seq ?_
  refine SW.seq ?_
  refine SW.regX (fun f_ t_ => σ0 = t_ ∧ f_ 0 = strsA (l) ∧ f_ 3 = AV.int (((i : Nat) : Int)) ∧ f_ 11 = AV.bool ((decide (i < l.length)))) (fun M hM => ?_) (fun fr6 τz4 hm => ?_)
  ·simp [go_sem, f0, f3]
   refine (hM _ _).2 ⟨rfl, ?_, ?_, ?_⟩ <;> simp [go_sem, f0, f3]
  clear f0 f3
  obtain ⟨rfl, f0, f3, f11⟩ := hm
  refine SW.cond _ f11 (fun hx1 => ?_) (fun hx1 => ?_)
  rotate_left
  ·have hk : ¬ i < l.length := by have := of_decide_eq_false hx1; omega
   refine SW.exit rfl ?_
   exact SW.goal ((hKL _ _).2 ⟨forN_end hruni1 hk, rfl⟩)
  have hki : i < l.length := by have := of_decide_eq_true hx1; omega
  have hwi : IntKind.i64.wrap ((i : Int) + 1) = ((i + 1 : Nat) : Int) := by rw [wrap64_of _ (by omega) (by omega)]; rfl
  obtain ⟨ci1, hbi1, hci1⟩ := forN_step hruni1 hki
  simp only [b1_ref04_names] at hbi1
  refine SW.skip ?_
  refine SW.seq ?_
  refine SW.block ?_
  refine SW.seq ?_
  refine SW.seq ?_
  obtain ⟨w, hw, hbi1⟩ := obind hbi1
  have xlw := getN_lt hw
  have xdw := getN_map AV.str hw
  obtain ⟨q, hq, hbi1⟩ := obind hbi1
  refine SW.regX (fun f_ t_ => σ0 = t_ ∧ f_ 0 = strsA (l) ∧ f_ 3 = AV.int (((i : Nat) : Int)) ∧ f_ 19 = AV.bool ((!q))) (fun M hM => ?_) (fun fr7 τz5 hm => ?_)
  ·simp [go_sem, f0, f11, f3, xlw, xdw]
   refine EWcall_pure (w_ref01_IsName w _ hq) ?_
   simp [go_sem, f0, f11, f3, xlw, xdw]
   refine (hM _ _).2 ⟨rfl, ?_, ?_, ?_⟩ <;> simp [go_sem, f0, f11, f3, xlw, xdw]
  clear f0 f11 f3
  obtain ⟨rfl, f0, f3, f19⟩ := hm
  refine SW.cond _ f19 (fun hx2 => ?_) (fun hx2 => ?_)
  ·have hbi1 := condT hbi1 hx2
   refine SW.seq ?_
   refine SW.regX (fun f_ t_ => σ0 = t_ ∧ f_ 2 = AV.int (2)) (fun M hM => ?_) (fun fr8 τz6 hm => ?_)
   ·simp [go_sem, f0, f19, f3]
    refine (hM _ _).2 ⟨rfl, ?_⟩ <;> simp [go_sem, f0, f19, f3]
   clear f0 f19 f3
   obtain ⟨rfl, f2⟩ := hm
   obtain rfl := Option.some.inj hbi1
   obtain rfl := Option.some.inj hci1
   obtain rfl := Option.some.inj hoi1
   exact SW.ret ⟨AV.int (2), by simp [go_sem, f2], .lit _, Keeps.refl _⟩
  have hbi1 := condF hbi1 hx2
  refine SW.skip ?_
  refine SW.seq ?_
  refine SW.regX (fun f_ t_ => σ0 = t_ ∧ f_ 0 = strsA (l) ∧ f_ 3 = AV.int (((i : Nat) : Int)) ∧ f_ 4 = AV.int (0)) (fun M hM => ?_) (fun fr9 τz7 hm => ?_)
  ·simp [go_sem, f0, f19, f3]
   refine (hM _ _).2 ⟨rfl, ?_, ?_, ?_⟩ <;> simp [go_sem, f0, f19, f3]
  clear f0 f19 f3
  obtain ⟨rfl, f0, f3, f4⟩ := hm
  obtain ⟨oi2, hruni2, hoi2⟩ := obind hbi1
  obtain ⟨hbigi2, hruni2⟩ := forR_run hruni2
  obtain ⟨KL, hKL⟩ : ∃ KL : Fr → Mem → Prop, ∀ fr' τ', KL fr' τ' ↔ (oi2 = .done () ∧ σ0 = τ' ∧ fr' 0 = strsA (l) ∧ fr' 3 = AV.int (((i : Nat) : Int))) := ⟨_, fun _ _ => Iff.rfl⟩
  refine SW.cut KL ?_ ?_
  ·refine SW.block ?_
   obtain ⟨J, hJ⟩ : ∃ J : Nat → Fr → Mem → Prop, ∀ m_ fr' τ', J m_ fr' τ' ↔ (∃ k : Nat, m_ = i - k ∧ forN (b2_ref04_names l w) (i - k) k () = some oi2 ∧ σ0 = τ' ∧ fr' 0 = strsA (l) ∧ fr' 3 = AV.int (((i : Nat) : Int)) ∧ fr' 4 = AV.int (((k : Nat) : Int))) := ⟨_, fun _ _ _ => Iff.rfl⟩
   refine SW.loop J (i - 0) ((hJ _ _ _).2 ⟨0, rfl, hruni2, rfl, f0, f3, f4⟩) ?_
   clear hruni2
   intro m_ fr10 τ1 hm
   rw [hJ] at hm
   clear f0 f3 f4
   obtain ⟨k, rfl, hruni2, rfl, f0, f3, f4⟩ := hm
   refine SW.seq ?_
   refine SW.seq ?_
   refine SW.regX (fun f_ t_ => σ0 = t_ ∧ f_ 0 = strsA (l) ∧ f_ 3 = AV.int (((i : Nat) : Int)) ∧ f_ 4 = AV.int (((k : Nat) : Int)) ∧ f_ 22 = AV.bool ((decide (k < i)))) (fun M hM => ?_) (fun fr11 τz8 hm => ?_)
   ·simp [go_sem, f0, f3, f4]
    refine (hM _ _).2 ⟨rfl, ?_, ?_, ?_, ?_⟩ <;> simp [go_sem, f0, f3, f4]
   clear f0 f3 f4
   obtain ⟨rfl, f0, f3, f4, f22⟩ := hm
   refine SW.cond _ f22 (fun hx3 => ?_) (fun hx3 => ?_)
   rotate_left
   ·have hk : ¬ k < i := by have := of_decide_eq_false hx3; omega
    refine SW.exit rfl ?_
    exact SW.goal ((hKL _ _).2 ⟨forN_end hruni2 hk, rfl, f0, f3⟩)
   have hkk : k < i := by have := of_decide_eq_true hx3; omega
   have hwk : IntKind.i64.wrap ((k : Int) + 1) = ((k + 1 : Nat) : Int) := by rw [wrap64_of _ (by omega) (by omega)]; rfl
   obtain ⟨ci2, hbi2, hci2⟩ := forN_step hruni2 hkk
   simp only [b2_ref04_names] at hbi2
   refine SW.skip ?_
   refine SW.seq ?_
   refine SW.block ?_
   refine SW.seq ?_
   obtain ⟨w1, hw1, hbi2⟩ := obind hbi2
   have xlw1 := getN_lt hw1
   have xdw1 := getN_map AV.str hw1
   refine SW.regX (fun f_ t_ => σ0 = t_ ∧ f_ 0 = strsA (l) ∧ f_ 3 = AV.int (((i : Nat) : Int)) ∧ f_ 4 = AV.int (((k : Nat) : Int)) ∧ f_ 33 = AV.bool ((w1 == w))) (fun M hM => ?_) (fun fr12 τz9 hm => ?_)
   ·refine EW_regionD (by kernel_rfl) (by kernel_rfl) ?_
    simp [go_sem, f0, f22, f3, f4, xlw1, xdw1, xlw, xdw]
    refine (hM _ _).2 ⟨rfl, ?_, ?_, ?_, ?_⟩ <;> simp [go_sem, f0, f22, f3, f4, xlw1, xdw1, xlw, xdw]
   clear f0 f22 f3 f4
   obtain ⟨rfl, f0, f3, f4, f33⟩ := hm
   refine SW.cond _ f33 (fun hx4 => ?_) (fun hx4 => ?_)
   ·have hbi2 := condT hbi2 hx4
    refine SW.seq ?_
    refine SW.regX (fun f_ t_ => σ0 = t_ ∧ f_ 2 = AV.int (5)) (fun M hM => ?_) (fun fr13 τz10 hm => ?_)
    ·simp [go_sem, f0, f3, f33, f4]
     refine (hM _ _).2 ⟨rfl, ?_⟩ <;> simp [go_sem, f0, f3, f33, f4]
    clear f0 f3 f33 f4
    obtain ⟨rfl, f2⟩ := hm
    obtain rfl := Option.some.inj hbi2
    obtain rfl := Option.some.inj hci2
    obtain rfl := Option.some.inj hoi2
    obtain rfl := Option.some.inj hci1
    obtain rfl := Option.some.inj hoi1
    exact SW.ret ⟨AV.int (5), by simp [go_sem, f2], .lit _, Keeps.refl _⟩
   have hbi2 := condF hbi2 hx4
   refine SW.skip ?_
   refine SW.blk ?_
   refine SW.regX (fun f_ t_ => σ0 = t_ ∧ f_ 0 = strsA (l) ∧ f_ 3 = AV.int (((i : Nat) : Int)) ∧ f_ 4 = AV.int (((k + 1 : Nat) : Int))) (fun M hM => ?_) (fun fr14 τz11 hm => ?_)
   ·simp [go_sem, f0, f3, f33, f4, hwk]
    refine (hM _ _).2 ⟨rfl, ?_, ?_, ?_⟩ <;> simp [go_sem, f0, f3, f33, f4, hwk]
   clear f0 f3 f33 f4
   obtain ⟨rfl, f0, f3, f4⟩ := hm
   obtain rfl := Option.some.inj hbi2
   exact SW.goal ⟨i - (k + 1), by omega, (hJ _ _ _).2 ⟨k + 1, rfl, hci2, rfl, f0, f3, f4⟩⟩
  intro fr15 τ2 hm
  rw [hKL] at hm
  clear hKL hruni2
  clear f0 f3 f4
  obtain ⟨rfl, rfl, f0, f3⟩ := hm
  simp only [Out.on] at hoi2
  refine SW.blk ?_
  refine SW.regX (fun f_ t_ => σ0 = t_ ∧ f_ 0 = strsA (l) ∧ f_ 3 = AV.int (((i + 1 : Nat) : Int))) (fun M hM => ?_) (fun fr16 τz12 hm => ?_)
  ·simp [go_sem, f0, f3, hwi]
   refine (hM _ _).2 ⟨rfl, ?_, ?_⟩ <;> simp [go_sem, f0, f3, hwi]
  clear f0 f3
  obtain ⟨rfl, f0, f3⟩ := hm
  obtain rfl := Option.some.inj hoi2
  exact SW.goal ⟨l.length - (i + 1), by omega, (hJ _ _ _).2 ⟨i + 1, rfl, hci1, rfl, f0, f3⟩⟩
 intro fr17 τ3 hm
 rw [hKL] at hm
 clear hKL hruni1
 clear f0 f3
 obtain ⟨rfl, rfl⟩ := hm
 simp only [Out.on] at hoi1
 refine SW.seq ?_
 refine SW.regX (fun f_ t_ => σ0 = t_ ∧ f_ 2 = AV.int (0)) (fun M hM => ?_) (fun fr18 τz13 hm => ?_)
 ·simp [go_sem]
  refine (hM _ _).2 ⟨rfl, ?_⟩ <;> simp [go_sem]
 obtain ⟨rfl, f2⟩ := hm
 obtain rfl := Option.some.inj hoi1
 exact SW.ret ⟨AV.int (0), by simp [go_sem, f2], .lit _, Keeps.refl _⟩
set_option maxHeartbeats 4000000 in
theorem w_ref04_attribute (a : Attr) (r : (Int)) (h : s_ref04_attribute a = some r) : PureA Tryz.prog 101 [AV.agg [AV.str (a.name), AV.int (a.low), AV.int (a.high), strsA (a.names)]] (AV.int (r)) := by
 refine pureA_of_SW (N := 38) Tryz.func101 (by kernel_rfl) rfl (by rw [Tryz.ntmps101]; rfl) (fun σ0 => ?_)
 rw [Tryz.results101]
 obtain ⟨fr0, hfr⟩ : ∃ fr, fr = initFr [AV.agg [AV.str (a.name), AV.int (a.low), AV.int (a.high), strsA (a.names)]] := ⟨_, rfl⟩
 rw [← hfr]
 have f0 : fr0 0 = AV.agg [AV.str (a.name), AV.int (a.low), AV.int (a.high), strsA (a.names)] := by rw [hfr]; rfl
 clear hfr
 simp only [s_ref04_attribute] at h
 refine SW.seq ?_
 refine SW.regX (fun f_ t_ => ∃ b1 : Nat, f_ 1 = AV.ptr b1 0 ∧ Kept σ0 t_ ∧ σ0.next ≤ t_.next ∧ t_.get b1 = some [AV.str (a.name), AV.int (a.low), AV.int (a.high), strsA (a.names)] ∧ b1 < t_.next ∧ σ0.next ≤ b1) (fun M hM => ?_) (fun fr1 τ hm => ?_)
 ·simp [go_sem, f0]
  refine (hM _ _).2 ⟨σ0.next, ?_, by intro j hj; simp [go_sem, show ¬ j = σ0.next by omega], by first | omega | (simp [go_sem]; done) | (simp [go_sem]; omega), by simp (disch := omega) [get_alloc_ne, get_set_ne, get_kill_ne, go_sem, f0], by first | omega | (simp [go_sem]; done) | (simp [go_sem]; omega), by omega⟩ <;> simp [go_sem, f0]
 clear f0
 obtain ⟨b1, f1, hK, hN, gb1, ub1, wb1⟩ := hm
 refine SW.seq ?_
 refine SW.seq ?_
 refine SW.regX (fun f_ t_ => τ = t_ ∧ f_ 1 = AV.ptr b1 0 ∧ f_ 7 = AV.bool ((decide (((a.names.length : Nat) : Int) = 0)))) (fun M hM => ?_) (fun fr2 τz hm => ?_)
 ·simp [go_sem, f1, gb1]
  refine (hM _ _).2 ⟨rfl, ?_, ?_⟩ <;> simp [go_sem, f1, gb1]
 clear f1
 obtain ⟨rfl, f1, f7⟩ := hm
 refine SW.cond _ f7 (fun hx => ?_) (fun hx => ?_)
 ·have h := condT h hx
  refine SW.seq ?_
  refine SW.seq ?_
  obtain ⟨q, hq, h⟩ := obind h
  obtain ⟨c, hc, h⟩ := obind h
  refine SW.regX (fun f_ t_ => τ = t_ ∧ f_ 19 = AV.bool (c)) (fun M hM => ?_) (fun fr3 τz1 hm => ?_)
  ·rcases Bool.eq_false_or_eq_true ((!q)) with y0 | y0
   ·have y0' := y0
    try simp at y0'
    have ky0 := condT hc y0
    have ec := Option.some.inj ky0
    simp [go_sem, f1, f7, gb1, y0, y0']
    refine EWcall_pure (w_ref04_in a.low (-1000000) 1000000 _ hq) ?_
    simp [go_sem, f1, f7, gb1, y0, y0']
    refine (hM _ _).2 ⟨rfl, ?_⟩ <;> simp [go_sem, f1, f7, gb1, y0, y0', ← ec]
   ·have y0' := y0
    try simp at y0'
    have ky0 := condF hc y0
    obtain ⟨q1, hq1, ky0⟩ := obind ky0
    have ec := Option.some.inj ky0
    simp [go_sem, f1, f7, gb1, y0, y0']
    refine EWcall_pure (w_ref04_in a.low (-1000000) 1000000 _ hq) ?_
    simp [go_sem, f1, f7, gb1, y0, y0']
    refine EWcall_pure (w_ref04_in a.high a.low 1000000 _ hq1) ?_
    simp [go_sem, f1, f7, gb1, y0, y0']
    refine (hM _ _).2 ⟨rfl, ?_⟩ <;> simp [go_sem, f1, f7, gb1, y0, y0', ← ec]
  clear f1 f7
  obtain ⟨rfl, f19⟩ := hm
  refine SW.cond _ f19 (fun hx1 => ?_) (fun hx1 => ?_)
  ·have h := condT h hx1
   refine SW.seq ?_
   refine SW.regX (fun f_ t_ => τ = t_ ∧ f_ 2 = AV.int (6)) (fun M hM => ?_) (fun fr4 τz2 hm => ?_)
   ·simp [go_sem, f19]
    refine (hM _ _).2 ⟨rfl, ?_⟩ <;> simp [go_sem, f19]
   clear f19
   obtain ⟨rfl, f2⟩ := hm
   obtain rfl := Option.some.inj h
   exact SW.ret ⟨AV.int (6), by simp [go_sem, f2], .lit _, hK.keeps⟩
  have h := condF h hx1
  refine SW.skip ?_
  refine SW.seq ?_
  refine SW.regX (fun f_ t_ => τ = t_ ∧ f_ 2 = AV.int (0)) (fun M hM => ?_) (fun fr5 τz3 hm => ?_)
  ·simp [go_sem, f19]
   refine (hM _ _).2 ⟨rfl, ?_⟩ <;> simp [go_sem, f19]
  clear f19
  obtain ⟨rfl, f2⟩ := hm
  obtain rfl := Option.some.inj h
  exact SW.ret ⟨AV.int (0), by simp [go_sem, f2], .lit _, hK.keeps⟩
 have h := condF h hx
 refine SW.skip ?_
 refine SW.seq ?_
 refine SW.seq ?_
 obtain ⟨n, hn, h⟩ := obind h
 refine SW.regX (fun f_ t_ => τ = t_ ∧ f_ 1 = AV.ptr b1 0 ∧ f_ 3 = AV.int (n)) (fun M hM => ?_) (fun fr6 τz4 hm => ?_)
 ·simp [go_sem, f1, f7, gb1]
  refine EWcall_pure (w_ref04_names a.names _ hn) ?_
  simp [go_sem, f1, f7, gb1]
  refine (hM _ _).2 ⟨rfl, ?_, ?_⟩ <;> simp [go_sem, f1, f7, gb1]
 clear f1 f7
 obtain ⟨rfl, f1, f3⟩ := hm
 refine SW.seq ?_
 refine SW.regX (fun f_ t_ => τ = t_ ∧ f_ 1 = AV.ptr b1 0 ∧ f_ 3 = AV.int (n) ∧ f_ 24 = AV.bool ((!decide (n = 0)))) (fun M hM => ?_) (fun fr7 τz5 hm => ?_)
 ·simp [go_sem, f1, f3, gb1]
  refine (hM _ _).2 ⟨rfl, ?_, ?_, ?_⟩ <;> simp [go_sem, f1, f3, gb1]
 clear f1 f3
 obtain ⟨rfl, f1, f3, f24⟩ := hm
 refine SW.cond _ f24 (fun hx2 => ?_) (fun hx2 => ?_)
 ·have h := condT h hx2
  refine SW.seq ?_
  refine SW.regX (fun f_ t_ => τ = t_ ∧ f_ 2 = AV.int (n)) (fun M hM => ?_) (fun fr8 τz6 hm => ?_)
  ·simp [go_sem, f1, f24, f3, gb1]
   refine (hM _ _).2 ⟨rfl, ?_⟩ <;> simp [go_sem, f1, f24, f3, gb1]
  clear f1 f24 f3
  obtain ⟨rfl, f2⟩ := hm
  obtain rfl := Option.some.inj h
  exact SW.ret ⟨AV.int (n), by simp [go_sem, f2], .lit _, hK.keeps⟩
 have h := condF h hx2
 refine SW.skip ?_
 refine SW.seq ?_
 refine SW.seq ?_
 refine SW.regX (fun f_ t_ => τ = t_ ∧ f_ 37 = AV.bool ((((!decide (a.low = 0))) || ((!decide (a.high = (IntKind.i64.wrap (((a.names.length : Nat) : Int) - 1)))))))) (fun M hM => ?_) (fun fr9 τz7 hm => ?_)
 ·rcases Bool.eq_false_or_eq_true ((!decide (a.low = 0))) with y0 | y0
  ·have y0' := y0
   try simp at y0'
   simp [go_sem, f1, f24, f3, gb1, y0, y0']
   refine (hM _ _).2 ⟨rfl, ?_⟩ <;> simp [go_sem, f1, f24, f3, gb1, y0, y0']
  ·have y0' := y0
   try simp at y0'
   simp [go_sem, f1, f24, f3, gb1, y0, y0']
   refine (hM _ _).2 ⟨rfl, ?_⟩ <;> simp [go_sem, f1, f24, f3, gb1, y0, y0']
 clear f1 f24 f3
 obtain ⟨rfl, f37⟩ := hm
 refine SW.cond _ f37 (fun hx3 => ?_) (fun hx3 => ?_)
 ·have h := condT h hx3
  refine SW.seq ?_
  refine SW.regX (fun f_ t_ => τ = t_ ∧ f_ 2 = AV.int (6)) (fun M hM => ?_) (fun fr10 τz8 hm => ?_)
  ·simp [go_sem, f37]
   refine (hM _ _).2 ⟨rfl, ?_⟩ <;> simp [go_sem, f37]
  clear f37
  obtain ⟨rfl, f2⟩ := hm
  obtain rfl := Option.some.inj h
  exact SW.ret ⟨AV.int (6), by simp [go_sem, f2], .lit _, hK.keeps⟩
 have h := condF h hx3
 refine SW.skip ?_
 refine SW.seq ?_
 refine SW.regX (fun f_ t_ => τ = t_ ∧ f_ 2 = AV.int (0)) (fun M hM => ?_) (fun fr11 τz9 hm => ?_)
 ·simp [go_sem, f37]
  refine (hM _ _).2 ⟨rfl, ?_⟩ <;> simp [go_sem, f37]
 clear f37
 obtain ⟨rfl, f2⟩ := hm
 obtain rfl := Option.some.inj h
 exact SW.ret ⟨AV.int (0), by simp [go_sem, f2], .lit _, hK.keeps⟩
end Go.Proofs.YtdacgjleiloooaaGreat
