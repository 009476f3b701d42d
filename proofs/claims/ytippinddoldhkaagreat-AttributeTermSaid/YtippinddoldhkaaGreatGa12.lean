/-
  Plain functions and the walks that lead to them, by a program of ours (gen.py): scarfjoint/difference.Refute, scarfjoint/attribute.Contradiction.
-/
import Derived.Test.YtippinddoldhkaaGreatGd
import Derived.Test.YtippinddoldhkaaGreatGT
import Derived.Test.YtippinddoldhkaaGreatB3
import Derived.Test.YtippinddoldhkaaGreatB7
import Derived.Test.YtippinddoldhkaaGreatGS
import Derived.Test.YtippinddoldhkaaGreatLg
import Derived.Test.YtippinddoldhkaaGreatGa3
import Derived.Test.YtippinddoldhkaaGreatGa10
import Derived.Test.YtippinddoldhkaaGreatGa11
import Derived.Test.YtippinddoldhkaaGreatGa4
set_option linter.unusedSimpArgs false
set_option linter.unusedVariables false
namespace Go.Proofs.YtippinddoldhkaaGreat
open Go Go.Ew Go.Proofs Go.RowKit
set_option maxRecDepth 100000
def O_difference_Refute (r : ((List GUse) × Int)) (n : Nat) (x : AV) (τ : Mem) : Prop := ∃ v0_ : AV, x = AV.tup [v0_, AV.int (r.2)] ∧ ArrAt n τ v0_ 52 (r.1.flatMap GUseC) r.1.length 2
set_option maxHeartbeats 4000000 in
theorem o_difference_Refute (F : Nat) (t : Int) (o : List GTest) (r : ((List GUse) × Int)) (h : s_difference_Refute F t o = some r) (σ0 : Mem) : CallA Tryz.prog 44 [AV.int (t), sl_GTest (o)] σ0 (fun x τ => O_difference_Refute r σ0.next x τ ∧ Kept σ0 τ ∧ σ0.next ≤ τ.next) := by
 refine callA_of_SW (N := 115) Tryz.func44 (by kernel_rfl) rfl (by rw [Tryz.ntmps44]; rfl) ?_
 rw [Tryz.results44]
 obtain ⟨fr0, hfr⟩ : ∃ fr, fr = initFr [AV.int (t), sl_GTest (o)] := ⟨_, rfl⟩
 rw [← hfr]
 have f0 : fr0 0 = AV.int (t) := by rw [hfr]; rfl
 have f1 : fr0 1 = sl_GTest (o) := by rw [hfr]; rfl
 clear hfr
 simp only [s_difference_Refute] at h
 refine SW.seq ?_
 refine SW.regX (fun f_ t_ => σ0 = t_ ∧ f_ 0 = AV.int (t) ∧ f_ 1 = sl_GTest (o)) (fun M hM => ?_) (fun fr1 τz hm => ?_)
 ·simp [go_sem, f0, f1]
  refine (hM _ _).2 ⟨rfl, ?_, ?_⟩ <;> simp [go_sem, f0, f1]
 clear f0 f1
 obtain ⟨rfl, f0, f1⟩ := hm
 refine SW.seq ?_
 refine SW.seq ?_
 obtain ⟨n, hn, h⟩ := obind h
 refine SW.regX (fun f_ t_ => σ0 = t_ ∧ f_ 0 = AV.int (t) ∧ f_ 1 = sl_GTest (o) ∧ f_ 6 = AV.int (n)) (fun M hM => ?_) (fun fr2 τz1 hm => ?_)
 ·simp [go_sem, f0, f1]
  refine EWcall_pure (w_difference_Valid t o _ hn) ?_
  simp [go_sem, f0, f1]
  refine (hM _ _).2 ⟨rfl, ?_, ?_, ?_⟩ <;> simp [go_sem, f0, f1]
 clear f0 f1
 obtain ⟨rfl, f0, f1, f6⟩ := hm
 refine SW.seq ?_
 refine SW.regX (fun f_ t_ => σ0 = t_ ∧ f_ 0 = AV.int (t) ∧ f_ 1 = sl_GTest (o) ∧ f_ 6 = AV.int (n) ∧ f_ 24 = AV.bool ((!decide (n = 0)))) (fun M hM => ?_) (fun fr3 τz2 hm => ?_)
 ·simp [go_sem, f0, f1, f6]
  refine (hM _ _).2 ⟨rfl, ?_, ?_, ?_, ?_⟩ <;> simp [go_sem, f0, f1, f6]
 clear f0 f1 f6
 obtain ⟨rfl, f0, f1, f6, f24⟩ := hm
 refine SW.cond _ f24 (fun vh => ?_) (fun vh => ?_)
 ·have h := condT h vh
  refine SW.seq ?_
  refine SW.regX (fun f_ t_ => σ0 = t_ ∧ f_ 4 = AV.nils ∧ f_ 5 = AV.int (n)) (fun M hM => ?_) (fun fr4 τz3 hm => ?_)
  ·simp [go_sem, f0, f1, f24, f6]
   refine (hM _ _).2 ⟨rfl, ?_, ?_⟩ <;> simp [go_sem, f0, f1, f24, f6]
  clear f0 f1 f24 f6
  obtain ⟨rfl, f4, f5⟩ := hm
  obtain rfl := Option.some.inj h
  exact SW.ret ⟨AV.tup [AV.nils, AV.int (n)], by simp [go_sem, f4, f5], ⟨AV.nils, rfl, .inl ⟨rfl, rfl, rfl⟩⟩, Kept.refl _, Nat.le_refl _⟩
 have h := condF h vh
 refine SW.skip ?_
 refine SW.seq ?_
 obtain ⟨rx, hrx, h⟩ := obind h
 refine SW.regX (fun f_ t_ => σ0 = t_ ∧ f_ 0 = AV.int (t) ∧ f_ 7 = sl_Gdifference_arc (rx)) (fun M hM => ?_) (fun fr5 τz4 hm => ?_)
 ·simp [go_sem, f0, f1, f24, f6]
  refine EWcall_pure (w_difference_arcs o _ hrx) ?_
  simp [go_sem, f0, f1, f24, f6]
  refine (hM _ _).2 ⟨rfl, ?_, ?_⟩ <;> simp [go_sem, f0, f1, f24, f6]
 clear f0 f1 f24 f6
 obtain ⟨rfl, f0, f7⟩ := hm
 refine SW.seq ?_
 refine SW.seq ?_
 obtain ⟨rx1, hrx1, h⟩ := obind h
 refine SW.regX (fun f_ t_ => σ0 = t_ ∧ f_ 0 = AV.int (t) ∧ f_ 7 = sl_Gdifference_arc (rx) ∧ f_ 9 = AV.bool (rx1.2)) (fun M hM => ?_) (fun fr6 τz5 hm => ?_)
 ·simp [go_sem, f0, f7]
  refine EWcall_pure (w_difference_distances t rx _ hrx1) ?_
  simp [go_sem, f0, f7]
  refine (hM _ _).2 ⟨rfl, ?_, ?_, ?_⟩ <;> simp [go_sem, f0, f7]
 clear f0 f7
 obtain ⟨rfl, f0, f7, f9⟩ := hm
 refine SW.seq ?_
 refine SW.regX (fun f_ t_ => σ0 = t_ ∧ f_ 0 = AV.int (t) ∧ f_ 7 = sl_Gdifference_arc (rx) ∧ f_ 34 = AV.bool (rx1.2)) (fun M hM => ?_) (fun fr7 τz6 hm => ?_)
 ·simp [go_sem, f0, f7, f9]
  refine (hM _ _).2 ⟨rfl, ?_, ?_, ?_⟩ <;> simp [go_sem, f0, f7, f9]
 clear f0 f7 f9
 obtain ⟨rfl, f0, f7, f34⟩ := hm
 refine SW.cond _ f34 (fun vh1 => ?_) (fun vh1 => ?_)
 ·have h := condT h vh1
  refine SW.seq ?_
  refine SW.regX (fun f_ t_ => σ0 = t_ ∧ f_ 4 = AV.nils ∧ f_ 5 = AV.int (10)) (fun M hM => ?_) (fun fr8 τz7 hm => ?_)
  ·simp [go_sem, f0, f34, f7]
   refine (hM _ _).2 ⟨rfl, ?_, ?_⟩ <;> simp [go_sem, f0, f34, f7]
  clear f0 f34 f7
  obtain ⟨rfl, f4, f5⟩ := hm
  obtain rfl := Option.some.inj h
  exact SW.ret ⟨AV.tup [AV.nils, AV.int (10)], by simp [go_sem, f4, f5], ⟨AV.nils, rfl, .inl ⟨rfl, rfl, rfl⟩⟩, Kept.refl _, Nat.le_refl _⟩
 have h := condF h vh1
 refine SW.skip ?_
 refine SW.seq ?_
 obtain ⟨rx2, hrx2, h⟩ := obind h
 refine SW.regX (fun f_ t_ => ∃ v : AV, f_ 7 = sl_Gdifference_arc (rx) ∧ f_ 10 = v ∧ Kept σ0 t_ ∧ σ0.next ≤ t_.next ∧ ArrAt σ0.next t_ v 149 ((([rx2] : List (List (List Int)))).map sl_List_Int) (([rx2] : List (List (List Int)))).length 1) (fun M hM => ?_) (fun fr9 τ hm => ?_)
 ·simp [go_sem, f0, f34, f7]
  refine EWcall_pure (w_difference_fresh t _ hrx2) ?_
  simp [go_sem, f0, f34, f7]
  refine (hM _ _).2 ⟨AV.arr σ0.next 0 (([rx2] : List (List (List Int)))).length 1, ?_, ?_, by intro j hj; simp [go_sem, show ¬ j = σ0.next by omega], by first | omega | (simp [go_sem]; done) | (simp [go_sem]; omega), .inr ⟨σ0.next, rfl, by simp (disch := omega) [get_alloc_ne, get_set_ne, get_kill_ne, go_sem, f0, f34, f7], by simp [go_sem, f0, f34, f7], by omega, by first | (simp [go_sem]; done) | (simp [go_sem]; omega)⟩⟩ <;> simp [go_sem, f0, f34, f7]
 clear f0 f34 f7
 obtain ⟨v, f7, f10, hK, hN, av⟩ := hm
 refine SW.seq ?_
 obtain ⟨oi, hruni, hoi⟩ := obind h
 obtain ⟨KLi, hKLi⟩ : ∃ KL : Fr → Mem → Prop, ∀ fr' τ', KL fr' τ' ↔ (∃ t10 : List (List (List Int)), ∃ v1 : AV, oi = .done t10 ∧ fr' 7 = sl_Gdifference_arc (rx) ∧ fr' 10 = v1 ∧ Kept σ0 τ' ∧ σ0.next ≤ τ'.next ∧ ArrAt σ0.next τ' v1 149 (t10.map sl_List_Int) t10.length 1) := ⟨_, fun _ _ => Iff.rfl⟩
 refine SW.cut KLi ?_ ?_
 ·refine SW.block ?_
  obtain ⟨Ji, hJi⟩ : ∃ J : Nat → Fr → Mem → Prop, ∀ m_ fr' τ', J m_ fr' τ' ↔ (∃ t10 : List (List (List Int)), ∃ v1 : AV, whileG (b1_difference_Refute rx) m_ t10 = some oi ∧ fr' 7 = sl_Gdifference_arc (rx) ∧ fr' 10 = v1 ∧ Kept σ0 τ' ∧ σ0.next ≤ τ'.next ∧ ArrAt σ0.next τ' v1 149 (t10.map sl_List_Int) t10.length 1) := ⟨_, fun _ _ _ => Iff.rfl⟩
  refine SW.loop Ji F ((hJi _ _ _).2 ⟨([rx2] : List (List (List Int))), v, hruni, f7, f10, hK, hN, av⟩) ?_
  clear hruni
  intro m_ fr10 τ1 hm
  rw [hJi] at hm
  clear f10 f7 hK hN av
  obtain ⟨t10, v1, hruni, f7, f10, hK, hN, av1⟩ := hm
  obtain ⟨F', ci, rfl, hbi, hci⟩ := whileG_step hruni
  simp only [b1_difference_Refute] at hbi
  refine SW.seq ?_
  refine SW.seq ?_
  obtain ⟨w, nw⟩ : ∃ w : Int, (IntKind.i64.wrap (((t10.length : Nat) : Int) - 1)) = w := ⟨_, rfl⟩
  rw [nw] at hbi
  obtain ⟨x, hx, hbi⟩ := obind hbi
  have xpx := getI_pos hx
  have xlx := getI_lt hx
  have xix := getI_N hx
  have xdx := getN_map sl_List_Int xix
  have xox : (t10.map sl_List_Int).length = t10.length * 1 := by simp
  obtain ⟨q, hq, hbi⟩ := obind hbi
  refine SW.regX (fun f_ t_ => τ1 = t_ ∧ f_ 7 = sl_Gdifference_arc (rx) ∧ f_ 10 = v1 ∧ f_ 45 = AV.bool ((!q))) (fun M hM => ?_) (fun fr11 τz8 hm => ?_)
  ·have zv1 := av1
   rcases zv1 with ⟨rfl, nv1, mv1⟩ | ⟨ov1, rfl, gov1, tov1, lov1, hiv1⟩
   ·exfalso; omega
   ·simp [go_sem, f10, f7, xpx, xlx, xdx, sl_List_Int, xox, nw, nw, gov1, tov1]
    refine EWcall_pure (w_difference_closed x _ hq) ?_
    simp [go_sem, f10, f7, xpx, xlx, xdx, sl_List_Int, xox, nw, nw, gov1, tov1]
    refine (hM _ _).2 ⟨rfl, ?_, ?_, ?_⟩ <;> simp [go_sem, f10, f7, xpx, xlx, xdx, sl_List_Int, xox, nw, nw, gov1, tov1]
  clear f10 f7
  obtain ⟨rfl, f7, f10, f45⟩ := hm
  refine SW.cond _ f45 (fun vh2 => ?_) (fun vh2 => ?_)
  ·have hbi := condT hbi vh2
   refine SW.skip ?_
   refine SW.block ?_
   obtain ⟨x1, hx1, hbi⟩ := obind hbi
   have xpx1 := getI_pos hx1
   have xlx1 := getI_lt hx1
   have xix1 := getI_N hx1
   have xdx1 := getN_map sl_List_Int xix1
   have xox1 : (t10.map sl_List_Int).length = t10.length * 1 := by simp
   obtain ⟨rx3, hrx3, hbi⟩ := obind hbi
   obtain ⟨a, ha, hbi⟩ := obind hbi
   obtain ⟨la, ea⟩ := catL_spec ha
   refine SW.regX (fun f_ t_ => ∃ v2 : AV, f_ 7 = sl_Gdifference_arc (rx) ∧ f_ 10 = v2 ∧ Kept σ0 t_ ∧ σ0.next ≤ t_.next ∧ ArrAt σ0.next t_ v2 149 (a.map sl_List_Int) a.length 1) (fun M hM => ?_) (fun fr12 τ2 hm => ?_)
   ·have zv1 := av1
    rcases zv1 with ⟨rfl, nv1, mv1⟩ | ⟨ov1, rfl, gov1, tov1, lov1, hiv1⟩
    ·exfalso; omega
    ·have nv1_0 : ¬ ov1 = τ1.next := by omega
     have nv1_1 : ¬ ov1 = τ1.next + 1 := by omega
     have ca_0 : t10.length ≤ 9223372036854775806 := by have c_ := la; (try simp at c_); omega
     have ca_1 : (t10.length + 1) * 24 ≤ 140737488355328 := by have c_ := la; (try simp at c_); omega
     simp [go_sem, f10, f45, f7, nw, xpx1, xlx1, xdx1, sl_List_Int, xox1, gov1, tov1, nv1_0, nv1_1, ca_0, ca_1]
     refine EWcall_pure (w_difference_longer x1 rx _ hrx3) ?_
     simp [go_sem, f10, f45, f7, nw, xpx1, xlx1, xdx1, sl_List_Int, xox1, gov1, tov1, nv1_0, nv1_1, ca_0, ca_1]
     refine (hM _ _).2 ⟨AV.arr (τ1.next + 1) 0 a.length 1, ?_, ?_, by intro j hj; have hj_ := hK j hj; simp [go_sem, hj_.1, hj_.2, show ¬ j = τ1.next by omega, show ¬ j = τ1.next + 1 by omega, show ¬ j = ov1 by omega], by first | omega | (simp [go_sem]; done) | (simp [go_sem]; omega), .inr ⟨(τ1.next + 1), rfl, by simp (disch := omega) [get_alloc_ne, get_set_ne, get_kill_ne, go_sem, f10, f45, f7, nw, xpx1, xlx1, xdx1, sl_List_Int, xox1, gov1, tov1, nv1_0, nv1_1, ca_0, ca_1, ea], by simp [go_sem, f10, f45, f7, nw, xpx1, xlx1, xdx1, sl_List_Int, xox1, gov1, tov1, nv1_0, nv1_1, ca_0, ca_1, ea], by omega, by first | (simp [go_sem]; done) | (simp [go_sem]; omega)⟩⟩ <;> simp [go_sem, f10, f45, f7, nw, xpx1, xlx1, xdx1, sl_List_Int, xox1, gov1, tov1, nv1_0, nv1_1, ca_0, ca_1, ea]
   clear f10 f45 f7 hK hN av1
   obtain ⟨v2, f7, f10, hK, hN, av2⟩ := hm
   refine SW.blk ?_
   obtain rfl := Option.some.inj hbi
   exact SW.goal ⟨_, Nat.lt_succ_self _, (hJi _ _ _).2 ⟨a, v2, hci, f7, f10, hK, hN, av2⟩⟩
  have hbi := condF hbi vh2
  refine SW.exit rfl ?_
  obtain rfl := Option.some.inj hbi
  exact SW.goal ((hKLi _ _).2 ⟨t10, v1, (Option.some.inj hci).symm, f7, f10, hK, hN, av1⟩)
 intro fr13 τ3 hm
 rw [hKLi] at hm
 clear hKLi hruni
 clear f10 f7 hK hN av
 obtain ⟨t10, v1, rfl, f7, f10, hK, hN, av1⟩ := hm
 simp only [Out.on] at hoi
 refine SW.seq ?_
 refine SW.regX (fun f_ t_ => τ3 = t_ ∧ f_ 7 = sl_Gdifference_arc (rx) ∧ f_ 10 = v1 ∧ f_ 11 = AV.nils) (fun M hM => ?_) (fun fr14 τz9 hm => ?_)
 ·simp [go_sem, f10, f7]
  refine (hM _ _).2 ⟨rfl, ?_, ?_, ?_⟩ <;> simp [go_sem, f10, f7]
 clear f10 f7
 obtain ⟨rfl, f7, f10, f11⟩ := hm
 refine SW.seq ?_
 refine SW.regX (fun f_ t_ => τ3 = t_ ∧ f_ 7 = sl_Gdifference_arc (rx) ∧ f_ 10 = v1 ∧ f_ 11 = AV.nils ∧ f_ 12 = AV.int (-1) ∧ f_ 13 = AV.int (0) ∧ f_ 14 = AV.int (0)) (fun M hM => ?_) (fun fr15 τz10 hm => ?_)
 ·simp [go_sem, f10, f11, f7]
  refine (hM _ _).2 ⟨rfl, ?_, ?_, ?_, ?_, ?_, ?_⟩ <;> simp [go_sem, f10, f11, f7]
 clear f10 f11 f7
 obtain ⟨rfl, f7, f10, f11, f12, f13, f14⟩ := hm
 refine SW.seq ?_
 refine SW.seq ?_
 refine SW.regX (fun f_ t_ => τ3 = t_ ∧ f_ 7 = sl_Gdifference_arc (rx) ∧ f_ 10 = v1 ∧ f_ 11 = AV.nils ∧ f_ 12 = AV.int (-1) ∧ f_ 13 = AV.int (0) ∧ f_ 14 = AV.int (0) ∧ f_ 15 = AV.int ((IntKind.i64.wrap (((t10.length : Nat) : Int) - 2)))) (fun M hM => ?_) (fun fr16 τz11 hm => ?_)
 ·have zv1 := av1
  rcases zv1 with ⟨rfl, nv1, mv1⟩ | ⟨ov1, rfl, gov1, tov1, lov1, hiv1⟩
  ·simp [go_sem, f10, f11, f12, f13, f14, f7, nv1, mv1]
   refine (hM _ _).2 ⟨rfl, ?_, ?_, ?_, ?_, ?_, ?_, ?_⟩ <;> simp [go_sem, f10, f11, f12, f13, f14, f7, nv1, mv1]
  ·simp [go_sem, f10, f11, f12, f13, f14, f7, gov1, tov1]
   refine (hM _ _).2 ⟨rfl, ?_, ?_, ?_, ?_, ?_, ?_, ?_⟩ <;> simp [go_sem, f10, f11, f12, f13, f14, f7, gov1, tov1]
 clear f10 f11 f12 f13 f14 f7
 obtain ⟨rfl, f7, f10, f11, f12, f13, f14, f15⟩ := hm
 obtain ⟨oi1, hruni1, hoi1⟩ := obind hoi
 obtain ⟨KLi1, hKLi1⟩ : ∃ KL : Fr → Mem → Prop, ∀ fr' τ', KL fr' τ' ↔ (∃ t11 : List GUse, ∃ t12 : Int, ∃ t13 : Int, ∃ t14 : Int, ∃ t15 : Int, ∃ v3 : AV, oi1 = .done (t11, t12, t13, t14, t15) ∧ fr' 11 = v3 ∧ Kept σ0 τ' ∧ σ0.next ≤ τ'.next ∧ ArrAt σ0.next τ' v3 52 (t11.flatMap GUseC) t11.length 2) := ⟨_, fun _ _ => Iff.rfl⟩
 refine SW.cut KLi1 ?_ ?_
 ·refine SW.block ?_
  obtain ⟨Ji1, hJi1⟩ : ∃ J : Nat → Fr → Mem → Prop, ∀ m_ fr' τ', J m_ fr' τ' ↔ (∃ t11 : List GUse, ∃ t12 : Int, ∃ t13 : Int, ∃ t14 : Int, ∃ t15 : Int, ∃ v3 : AV, whileG (b3_difference_Refute rx t10) m_ (t11, t12, t13, t14, t15) = some oi1 ∧ fr' 7 = sl_Gdifference_arc (rx) ∧ fr' 10 = v1 ∧ fr' 11 = v3 ∧ fr' 12 = AV.int (t12) ∧ fr' 13 = AV.int (t13) ∧ fr' 14 = AV.int (t14) ∧ fr' 15 = AV.int (t15) ∧ Kept σ0 τ' ∧ σ0.next ≤ τ'.next ∧ ArrAt σ0.next τ' v1 149 (t10.map sl_List_Int) t10.length 1 ∧ ArrAt σ0.next τ' v3 52 (t11.flatMap GUseC) t11.length 2 ∧ Apart v1 v3) := ⟨_, fun _ _ _ => Iff.rfl⟩
  refine SW.loop Ji1 F ((hJi1 _ _ _).2 ⟨([] : List GUse), -1, 0, 0, (IntKind.i64.wrap (((t10.length : Nat) : Int) - 2)), AV.nils, hruni1, f7, f10, f11, f12, f13, f14, f15, hK, hN, av1, .inl ⟨rfl, rfl, rfl⟩, (fun i h h' => by cases h')⟩) ?_
  clear hruni1
  intro m_ fr17 τ4 hm
  rw [hJi1] at hm
  clear f10 f11 f12 f13 f14 f15 f7 hK hN av1
  obtain ⟨t11, t12, t13, t14, t15, v3, hruni1, f7, f10, f11, f12, f13, f14, f15, hK, hN, av1, av3, ev1v3⟩ := hm
  obtain ⟨F', ci1, rfl, hbi1, hci1⟩ := whileG_step hruni1
  simp only [b3_difference_Refute] at hbi1
  refine SW.seq ?_
  refine SW.seq ?_
  refine SW.regX (fun f_ t_ => τ4 = t_ ∧ f_ 7 = sl_Gdifference_arc (rx) ∧ f_ 10 = v1 ∧ f_ 11 = v3 ∧ f_ 12 = AV.int (t12) ∧ f_ 13 = AV.int (t13) ∧ f_ 14 = AV.int (t14) ∧ f_ 15 = AV.int (t15) ∧ f_ 61 = AV.bool ((decide (0 ≤ t15)))) (fun M hM => ?_) (fun fr18 τz12 hm => ?_)
  ·simp [go_sem, f10, f11, f12, f13, f14, f15, f7]
   refine (hM _ _).2 ⟨rfl, ?_, ?_, ?_, ?_, ?_, ?_, ?_, ?_⟩ <;> simp [go_sem, f10, f11, f12, f13, f14, f15, f7]
  clear f10 f11 f12 f13 f14 f15 f7
  obtain ⟨rfl, f7, f10, f11, f12, f13, f14, f15, f61⟩ := hm
  refine SW.cond _ f61 (fun vh3 => ?_) (fun vh3 => ?_)
  ·have hbi1 := condT hbi1 vh3
   refine SW.skip ?_
   refine SW.seq ?_
   refine SW.block ?_
   refine SW.seq ?_
   refine SW.regX (fun f_ t_ => τ4 = t_ ∧ f_ 7 = sl_Gdifference_arc (rx) ∧ f_ 10 = v1 ∧ f_ 11 = v3 ∧ f_ 12 = AV.int (t12) ∧ f_ 13 = AV.int (t13) ∧ f_ 14 = AV.int (t14) ∧ f_ 15 = AV.int (t15) ∧ f_ 64 = sl_Gdifference_arc (rx) ∧ f_ 65 = AV.int (((rx.length : Nat) : Int)) ∧ f_ 66 = AV.int (0)) (fun M hM => ?_) (fun fr19 τz13 hm => ?_)
   ·simp [go_sem, f10, f11, f12, f13, f14, f15, f61, f7]
    refine (hM _ _).2 ⟨rfl, ?_, ?_, ?_, ?_, ?_, ?_, ?_, ?_, ?_, ?_⟩ <;> simp [go_sem, f10, f11, f12, f13, f14, f15, f61, f7]
   clear f10 f11 f12 f13 f14 f15 f61 f7
   obtain ⟨rfl, f7, f10, f11, f12, f13, f14, f15, f64, f65, f66⟩ := hm
   obtain ⟨oi2, hruni2, hoi2⟩ := obind hbi1
   refine SW.len 7 f7 (fun hbigi2 => ?_)
   obtain ⟨KLi2, hKLi2⟩ : ∃ KL : Fr → Mem → Prop, ∀ fr' τ', KL fr' τ' ↔ (∃ t111 : List GUse, ∃ t121 : Int, ∃ t131 : Int, ∃ t141 : Int, ∃ v4 : AV, oi2 = .done (t111, t121, t131, t141) ∧ fr' 7 = sl_Gdifference_arc (rx) ∧ fr' 10 = v1 ∧ fr' 11 = v4 ∧ fr' 12 = AV.int (t121) ∧ fr' 13 = AV.int (t131) ∧ fr' 14 = AV.int (t141) ∧ fr' 15 = AV.int (t15) ∧ Kept σ0 τ' ∧ σ0.next ≤ τ'.next ∧ ArrAt σ0.next τ' v1 149 (t10.map sl_List_Int) t10.length 1 ∧ ArrAt σ0.next τ' v4 52 (t111.flatMap GUseC) t111.length 2 ∧ Apart v1 v4) := ⟨_, fun _ _ => Iff.rfl⟩
   refine SW.cut KLi2 ?_ ?_
   ·refine SW.block ?_
    obtain ⟨Ji2, hJi2⟩ : ∃ J : Nat → Fr → Mem → Prop, ∀ m_ fr' τ', J m_ fr' τ' ↔ (∃ k : Nat, ∃ t111 : List GUse, ∃ t121 : Int, ∃ t131 : Int, ∃ t141 : Int, ∃ v4 : AV, m_ = rx.length - k ∧ forN (b4_difference_Refute rx t10 t15) (rx.length - k) k (t111, t121, t131, t141) = some oi2 ∧ fr' 7 = sl_Gdifference_arc (rx) ∧ fr' 10 = v1 ∧ fr' 11 = v4 ∧ fr' 12 = AV.int (t121) ∧ fr' 13 = AV.int (t131) ∧ fr' 14 = AV.int (t141) ∧ fr' 15 = AV.int (t15) ∧ fr' 64 = sl_Gdifference_arc (rx) ∧ fr' 65 = AV.int (((rx.length : Nat) : Int)) ∧ fr' 66 = AV.int (((k : Nat) : Int)) ∧ Kept σ0 τ' ∧ σ0.next ≤ τ'.next ∧ ArrAt σ0.next τ' v1 149 (t10.map sl_List_Int) t10.length 1 ∧ ArrAt σ0.next τ' v4 52 (t111.flatMap GUseC) t111.length 2 ∧ Apart v1 v4) := ⟨_, fun _ _ _ => Iff.rfl⟩
    refine SW.loop Ji2 (rx.length - 0) ((hJi2 _ _ _).2 ⟨0, t11, t12, t13, t14, v3, rfl, hruni2, f7, f10, f11, f12, f13, f14, f15, f64, f65, f66, hK, hN, av1, av3, (by first | exact ev1v3 | exact fun i h h' => ev3v1 i h' h)⟩) ?_
    clear hruni2
    intro m_ fr20 τ5 hm
    rw [hJi2] at hm
    clear f10 f11 f12 f13 f14 f15 f64 f65 f66 f7 hK hN av1 av3
    obtain ⟨k, t111, t121, t131, t141, v4, rfl, hruni2, f7, f10, f11, f12, f13, f14, f15, f64, f65, f66, hK, hN, av1, av4, ev1v4⟩ := hm
    refine SW.seq ?_
    refine SW.regX (fun f_ t_ => τ5 = t_ ∧ f_ 7 = sl_Gdifference_arc (rx) ∧ f_ 10 = v1 ∧ f_ 11 = v4 ∧ f_ 12 = AV.int (t121) ∧ f_ 13 = AV.int (t131) ∧ f_ 14 = AV.int (t141) ∧ f_ 15 = AV.int (t15) ∧ f_ 64 = sl_Gdifference_arc (rx) ∧ f_ 65 = AV.int (((rx.length : Nat) : Int)) ∧ f_ 66 = AV.int (((k : Nat) : Int)) ∧ f_ 67 = AV.bool ((decide (k < rx.length)))) (fun M hM => ?_) (fun fr21 τz14 hm => ?_)
    ·simp [go_sem, f10, f11, f12, f13, f14, f15, f64, f65, f66, f7]
     refine (hM _ _).2 ⟨rfl, ?_, ?_, ?_, ?_, ?_, ?_, ?_, ?_, ?_, ?_, ?_⟩ <;> simp [go_sem, f10, f11, f12, f13, f14, f15, f64, f65, f66, f7]
    clear f10 f11 f12 f13 f14 f15 f64 f65 f66 f7
    obtain ⟨rfl, f7, f10, f11, f12, f13, f14, f15, f64, f65, f66, f67⟩ := hm
    refine SW.seq ?_
    refine SW.cond _ f67 (fun vh4 => ?_) (fun vh4 => ?_)
    rotate_left
    ·have hk : ¬ k < rx.length := by have := of_decide_eq_false vh4; omega
     refine SW.exit rfl ?_
     exact SW.goal ((hKLi2 _ _).2 ⟨t111, t121, t131, t141, v4, forN_end hruni2 hk, f7, f10, f11, f12, f13, f14, f15, hK, hN, av1, av4, (by first | exact ev1v4 | exact fun i h h' => ev4v1 i h' h)⟩)
    have hkk : k < rx.length := by have := of_decide_eq_true vh4; omega
    have hwk : IntKind.i64.wrap ((k : Int) + 1) = ((k + 1 : Nat) : Int) := by rw [wrap64_of _ (by omega) (by omega)]; rfl
    obtain ⟨ci2, hbi2, hci2⟩ := forN_step hruni2 hkk
    simp only [b4_difference_Refute] at hbi2
    refine SW.skip ?_
    refine SW.seq ?_
    refine SW.block ?_
    refine SW.seq ?_
    obtain ⟨x2, hx2, hbi2⟩ := obind hbi2
    have xlx2 := getN_lt hx2
    have xdx2 := getN_flat Gdifference_arcC 5 (fun _ => rfl) hx2
    refine SW.regX (fun f_ t_ => ∃ b17 : Nat, f_ 7 = sl_Gdifference_arc (rx) ∧ f_ 10 = v1 ∧ f_ 11 = v4 ∧ f_ 12 = AV.int (t121) ∧ f_ 13 = AV.int (t131) ∧ f_ 14 = AV.int (t141) ∧ f_ 15 = AV.int (t15) ∧ f_ 17 = AV.ptr b17 0 ∧ f_ 64 = sl_Gdifference_arc (rx) ∧ f_ 65 = AV.int (((rx.length : Nat) : Int)) ∧ f_ 66 = AV.int (((k : Nat) : Int)) ∧ Kept σ0 t_ ∧ σ0.next ≤ t_.next ∧ t_.get b17 = some [AV.int (x2.use.test), AV.int (x2.use.sign), AV.int (x2.fromx), AV.int (x2.tox), AV.int (x2.most)] ∧ b17 < t_.next ∧ ArrAt σ0.next t_ v1 149 (t10.map sl_List_Int) t10.length 1 ∧ ArrAt σ0.next t_ v4 52 (t111.flatMap GUseC) t111.length 2 ∧ σ0.next ≤ b17 ∧ (∀ i, idOf v1 = some i → ¬ i = b17) ∧ (∀ i, idOf v4 = some i → ¬ i = b17)) (fun M hM => ?_) (fun fr22 τ6 hm => ?_)
    ·simp [go_sem, f10, f11, f12, f13, f14, f15, f64, f65, f66, f67, f7, xlx2, xdx2, Gdifference_arcC]
     refine (hM _ _).2 ⟨τ5.next, ?_, ?_, ?_, ?_, ?_, ?_, ?_, ?_, ?_, ?_, ?_, by intro j hj; have hj_ := hK j hj; simp [go_sem, hj_.1, hj_.2, show ¬ j = τ5.next by omega], by first | omega | (simp [go_sem]; done) | (simp [go_sem]; omega), by simp (disch := omega) [get_alloc_ne, get_set_ne, get_kill_ne, go_sem, f10, f11, f12, f13, f14, f15, f64, f65, f66, f67, f7, xlx2, xdx2, Gdifference_arcC], by first | omega | (simp [go_sem]; done) | (simp [go_sem]; omega), av1.same' (by simp [go_sem]; try omega) (fun i hi => by have zl := arrAt_lt av1 i hi; have zi0 : ¬ i = τ5.next := (by omega); constructor <;> simp [go_sem, zi0]), av4.same' (by simp [go_sem]; try omega) (fun i hi => by have zl := arrAt_lt av4 i hi; have zi0 : ¬ i = τ5.next := (by omega); constructor <;> simp [go_sem, zi0]), by omega, by first | exact ev1b17 | (intro i hi; have := arrAt_lt av1 i hi; omega), by first | exact ev4b17 | (intro i hi; have := arrAt_lt av4 i hi; omega)⟩ <;> simp [go_sem, f10, f11, f12, f13, f14, f15, f64, f65, f66, f67, f7, xlx2, xdx2, Gdifference_arcC]
    clear f10 f11 f12 f13 f14 f15 f64 f65 f66 f67 f7 hK hN av1 av4
    obtain ⟨b17, f7, f10, f11, f12, f13, f14, f15, f17, f64, f65, f66, hK, hN, gb17, ub17, av1, av4, wb17, ev1b17, ev4b17⟩ := hm
    refine SW.seq ?_
    refine SW.regX (fun f_ t_ => τ6 = t_ ∧ f_ 7 = sl_Gdifference_arc (rx) ∧ f_ 10 = v1 ∧ f_ 11 = v4 ∧ f_ 12 = AV.int (t121) ∧ f_ 13 = AV.int (t131) ∧ f_ 14 = AV.int (t141) ∧ f_ 15 = AV.int (t15) ∧ f_ 17 = AV.ptr b17 0 ∧ f_ 18 = AV.int (t121) ∧ f_ 64 = sl_Gdifference_arc (rx) ∧ f_ 65 = AV.int (((rx.length : Nat) : Int)) ∧ f_ 66 = AV.int (((k : Nat) : Int))) (fun M hM => ?_) (fun fr23 τz15 hm => ?_)
    ·simp [go_sem, f10, f11, f12, f13, f14, f15, f17, f64, f65, f66, f7, gb17]
     refine (hM _ _).2 ⟨rfl, ?_, ?_, ?_, ?_, ?_, ?_, ?_, ?_, ?_, ?_, ?_, ?_⟩ <;> simp [go_sem, f10, f11, f12, f13, f14, f15, f17, f64, f65, f66, f7, gb17]
    clear f10 f11 f12 f13 f14 f15 f17 f64 f65 f66 f7
    obtain ⟨rfl, f7, f10, f11, f12, f13, f14, f15, f17, f18, f64, f65, f66⟩ := hm
    refine SW.seq ?_
    refine SW.seq ?_
    refine SW.regX (fun f_ t_ => τ6 = t_ ∧ f_ 7 = sl_Gdifference_arc (rx) ∧ f_ 10 = v1 ∧ f_ 11 = v4 ∧ f_ 12 = AV.int (t121) ∧ f_ 13 = AV.int (t131) ∧ f_ 14 = AV.int (t141) ∧ f_ 15 = AV.int (t15) ∧ f_ 17 = AV.ptr b17 0 ∧ f_ 18 = AV.int (t121) ∧ f_ 64 = sl_Gdifference_arc (rx) ∧ f_ 65 = AV.int (((rx.length : Nat) : Int)) ∧ f_ 66 = AV.int (((k : Nat) : Int)) ∧ f_ 72 = AV.bool ((decide (t121 < 0)))) (fun M hM => ?_) (fun fr24 τz16 hm => ?_)
    ·simp [go_sem, f10, f11, f12, f13, f14, f15, f17, f18, f64, f65, f66, f7, gb17]
     refine (hM _ _).2 ⟨rfl, ?_, ?_, ?_, ?_, ?_, ?_, ?_, ?_, ?_, ?_, ?_, ?_, ?_⟩ <;> simp [go_sem, f10, f11, f12, f13, f14, f15, f17, f18, f64, f65, f66, f7, gb17]
    clear f10 f11 f12 f13 f14 f15 f17 f18 f64 f65 f66 f7
    obtain ⟨rfl, f7, f10, f11, f12, f13, f14, f15, f17, f18, f64, f65, f66, f72⟩ := hm
    obtain ⟨oj, hjj, hoj⟩ := obind hbi2
    obtain ⟨Jj, hJj⟩ : ∃ J : Fr → Mem → Prop, ∀ fr' τ', J fr' τ' ↔ (∃ t18 : Int, oj = .done t18 ∧ τ6 = τ' ∧ fr' 7 = sl_Gdifference_arc (rx) ∧ fr' 10 = v1 ∧ fr' 11 = v4 ∧ fr' 12 = AV.int (t121) ∧ fr' 13 = AV.int (t131) ∧ fr' 14 = AV.int (t141) ∧ fr' 15 = AV.int (t15) ∧ fr' 17 = AV.ptr b17 0 ∧ fr' 18 = AV.int (t18) ∧ fr' 64 = sl_Gdifference_arc (rx) ∧ fr' 65 = AV.int (((rx.length : Nat) : Int)) ∧ fr' 66 = AV.int (((k : Nat) : Int))) := ⟨_, fun _ _ => Iff.rfl⟩
    refine SW.cut Jj ?_ ?_
    ·refine SW.cond _ f72 (fun vh5 => ?_) (fun vh5 => ?_)
     ·have hjj := condT hjj vh5
      refine SW.regX (fun f_ t_ => τ6 = t_ ∧ f_ 7 = sl_Gdifference_arc (rx) ∧ f_ 10 = v1 ∧ f_ 11 = v4 ∧ f_ 12 = AV.int (t121) ∧ f_ 13 = AV.int (t131) ∧ f_ 14 = AV.int (t141) ∧ f_ 15 = AV.int (t15) ∧ f_ 17 = AV.ptr b17 0 ∧ f_ 18 = AV.int (x2.fromx) ∧ f_ 64 = sl_Gdifference_arc (rx) ∧ f_ 65 = AV.int (((rx.length : Nat) : Int)) ∧ f_ 66 = AV.int (((k : Nat) : Int))) (fun M hM => ?_) (fun fr26 τz17 hm => ?_)
      ·simp [go_sem, f10, f11, f12, f13, f14, f15, f17, f18, f64, f65, f66, f7, f72, gb17]
       refine (hM _ _).2 ⟨rfl, ?_, ?_, ?_, ?_, ?_, ?_, ?_, ?_, ?_, ?_, ?_, ?_⟩ <;> simp [go_sem, f10, f11, f12, f13, f14, f15, f17, f18, f64, f65, f66, f7, f72, gb17]
      clear f10 f11 f12 f13 f14 f15 f17 f18 f64 f65 f66 f7 f72
      obtain ⟨rfl, f7, f10, f11, f12, f13, f14, f15, f17, f18, f64, f65, f66⟩ := hm
      exact SW.goal ((hJj _ _).2 ⟨x2.fromx, (Option.some.inj hjj).symm, rfl, f7, f10, f11, f12, f13, f14, f15, f17, f18, f64, f65, f66⟩)
     have hjj := condF hjj vh5
     refine SW.seq ?_
     refine SW.regX (fun f_ t_ => τ6 = t_ ∧ f_ 7 = sl_Gdifference_arc (rx) ∧ f_ 10 = v1 ∧ f_ 11 = v4 ∧ f_ 12 = AV.int (t121) ∧ f_ 13 = AV.int (t131) ∧ f_ 14 = AV.int (t141) ∧ f_ 15 = AV.int (t15) ∧ f_ 17 = AV.ptr b17 0 ∧ f_ 18 = AV.int (t121) ∧ f_ 64 = sl_Gdifference_arc (rx) ∧ f_ 65 = AV.int (((rx.length : Nat) : Int)) ∧ f_ 66 = AV.int (((k : Nat) : Int)) ∧ f_ 78 = AV.bool ((!decide (x2.fromx = t131)))) (fun M hM => ?_) (fun fr27 τz18 hm => ?_)
     ·simp [go_sem, f10, f11, f12, f13, f14, f15, f17, f18, f64, f65, f66, f7, f72, gb17]
      refine (hM _ _).2 ⟨rfl, ?_, ?_, ?_, ?_, ?_, ?_, ?_, ?_, ?_, ?_, ?_, ?_, ?_⟩ <;> simp [go_sem, f10, f11, f12, f13, f14, f15, f17, f18, f64, f65, f66, f7, f72, gb17]
     clear f10 f11 f12 f13 f14 f15 f17 f18 f64 f65 f66 f7 f72
     obtain ⟨rfl, f7, f10, f11, f12, f13, f14, f15, f17, f18, f64, f65, f66, f78⟩ := hm
     refine SW.cond _ f78 (fun vh6 => ?_) (fun vh6 => ?_)
     ·have hjj := condT hjj vh6
      refine SW.exit rfl ?_
      refine SW.regX (fun f_ t_ => τ6 = t_ ∧ f_ 7 = sl_Gdifference_arc (rx) ∧ f_ 10 = v1 ∧ f_ 11 = v4 ∧ f_ 12 = AV.int (t121) ∧ f_ 13 = AV.int (t131) ∧ f_ 14 = AV.int (t141) ∧ f_ 15 = AV.int (t15) ∧ f_ 64 = sl_Gdifference_arc (rx) ∧ f_ 65 = AV.int (((rx.length : Nat) : Int)) ∧ f_ 66 = AV.int (((k + 1 : Nat) : Int))) (fun M hM => ?_) (fun fr28 τz19 hm => ?_)
      ·simp [go_sem, f10, f11, f12, f13, f14, f15, f17, f18, f64, f65, f66, f7, f78, gb17, hwk]
       refine (hM _ _).2 ⟨rfl, ?_, ?_, ?_, ?_, ?_, ?_, ?_, ?_, ?_, ?_⟩ <;> simp [go_sem, f10, f11, f12, f13, f14, f15, f17, f18, f64, f65, f66, f7, f78, gb17, hwk]
      clear f10 f11 f12 f13 f14 f15 f17 f18 f64 f65 f66 f7 f78
      obtain ⟨rfl, f7, f10, f11, f12, f13, f14, f15, f64, f65, f66⟩ := hm
      obtain rfl := Option.some.inj hjj
      obtain rfl := Option.some.inj hoj
      exact SW.goal ⟨rx.length - (k + 1), by omega, (hJi2 _ _ _).2 ⟨k + 1, t111, t121, t131, t141, v4, rfl, hci2, f7, f10, f11, f12, f13, f14, f15, f64, f65, f66, hK, hN, av1, av4, (by first | exact ev1v4 | exact fun i h h' => ev4v1 i h' h)⟩⟩
     have hjj := condF hjj vh6
     refine SW.skip ?_
     exact SW.goal ((hJj _ _).2 ⟨t121, (Option.some.inj hjj).symm, rfl, f7, f10, f11, f12, f13, f14, f15, f17, f18, f64, f65, f66⟩)
    intro fr25 τ7 hm
    rw [hJj] at hm
    clear hJj
    clear f10 f11 f12 f13 f14 f15 f17 f18 f64 f65 f66 f7 f72
    obtain ⟨t18, rfl, rfl, f7, f10, f11, f12, f13, f14, f15, f17, f18, f64, f65, f66⟩ := hm
    simp only [Out.on] at hoj
    refine SW.seq ?_
    obtain ⟨x3, hx3, hoj⟩ := obind hoj
    have xpx3 := getI_pos hx3
    have xlx3 := getI_lt hx3
    have xix3 := getI_N hx3
    have xdx3 := getN_map sl_List_Int xix3
    have xox3 : (t10.map sl_List_Int).length = t10.length * 1 := by simp
    obtain ⟨x4, hx4, hoj⟩ := obind hoj
    have xpx4 := getI_pos hx4
    have xlx4 := getI_lt hx4
    have xix4 := getI_N hx4
    have xdx4 := getN_map intsA xix4
    obtain ⟨n1, hn1, hoj⟩ := obind hoj
    have xpn1 := getI_pos hn1
    have xln1 := getI_lt hn1
    have xin1 := getI_N hn1
    have xdn1 := getN_map AV.int xin1
    refine SW.regX (fun f_ t_ => τ6 = t_ ∧ f_ 7 = sl_Gdifference_arc (rx) ∧ f_ 10 = v1 ∧ f_ 11 = v4 ∧ f_ 12 = AV.int (t121) ∧ f_ 13 = AV.int (t131) ∧ f_ 14 = AV.int (t141) ∧ f_ 15 = AV.int (t15) ∧ f_ 17 = AV.ptr b17 0 ∧ f_ 18 = AV.int (t18) ∧ f_ 19 = AV.int (n1) ∧ f_ 64 = sl_Gdifference_arc (rx) ∧ f_ 65 = AV.int (((rx.length : Nat) : Int)) ∧ f_ 66 = AV.int (((k : Nat) : Int))) (fun M hM => ?_) (fun fr29 τz20 hm => ?_)
    ·refine EW_regionD (by kernel_rfl) (by kernel_rfl) ?_
     have zv1 := av1
     rcases zv1 with ⟨rfl, nv1, mv1⟩ | ⟨ov1, rfl, gov1, tov1, lov1, hiv1⟩
     ·exfalso; omega
     ·simp [go_sem, f10, f11, f12, f13, f14, f15, f17, f18, f64, f65, f66, f7, gb17, xpx3, xlx3, xdx3, sl_List_Int, xox3, xpx4, xlx4, xdx4, intsA, xpn1, xln1, xdn1, gov1, tov1]
      refine (hM _ _).2 ⟨rfl, ?_, ?_, ?_, ?_, ?_, ?_, ?_, ?_, ?_, ?_, ?_, ?_, ?_⟩ <;> simp [go_sem, f10, f11, f12, f13, f14, f15, f17, f18, f64, f65, f66, f7, gb17, xpx3, xlx3, xdx3, sl_List_Int, xox3, xpx4, xlx4, xdx4, intsA, xpn1, xln1, xdn1, gov1, tov1]
    clear f10 f11 f12 f13 f14 f15 f17 f18 f64 f65 f66 f7
    obtain ⟨rfl, f7, f10, f11, f12, f13, f14, f15, f17, f18, f19, f64, f65, f66⟩ := hm
    refine SW.seq ?_
    refine SW.regX (fun f_ t_ => τ6 = t_ ∧ f_ 7 = sl_Gdifference_arc (rx) ∧ f_ 10 = v1 ∧ f_ 11 = v4 ∧ f_ 12 = AV.int (t121) ∧ f_ 13 = AV.int (t131) ∧ f_ 14 = AV.int (t141) ∧ f_ 15 = AV.int (t15) ∧ f_ 17 = AV.ptr b17 0 ∧ f_ 18 = AV.int (t18) ∧ f_ 64 = sl_Gdifference_arc (rx) ∧ f_ 65 = AV.int (((rx.length : Nat) : Int)) ∧ f_ 66 = AV.int (((k : Nat) : Int)) ∧ f_ 100 = AV.bool ((((decide (n1 < 1125899906842624))) && ((decide ((IntKind.i64.wrap ((IntKind.i64.wrap (t141 + x2.most)) + n1)) < 0)))))) (fun M hM => ?_) (fun fr30 τz21 hm => ?_)
    ·rcases Bool.eq_false_or_eq_true ((decide (n1 < 1125899906842624))) with y0 | y0
     ·have y0' := y0
      try simp at y0'
      simp [go_sem, f10, f11, f12, f13, f14, f15, f17, f18, f19, f64, f65, f66, f7, gb17, y0, y0']
      refine (hM _ _).2 ⟨rfl, ?_, ?_, ?_, ?_, ?_, ?_, ?_, ?_, ?_, ?_, ?_, ?_, ?_⟩ <;> simp [go_sem, f10, f11, f12, f13, f14, f15, f17, f18, f19, f64, f65, f66, f7, gb17, y0, y0']
     ·have y0' := y0
      try simp at y0'
      simp [go_sem, f10, f11, f12, f13, f14, f15, f17, f18, f19, f64, f65, f66, f7, gb17, y0, y0']
      refine (hM _ _).2 ⟨rfl, ?_, ?_, ?_, ?_, ?_, ?_, ?_, ?_, ?_, ?_, ?_, ?_, ?_⟩ <;> simp [go_sem, f10, f11, f12, f13, f14, f15, f17, f18, f19, f64, f65, f66, f7, gb17, y0, y0']
    clear f10 f11 f12 f13 f14 f15 f17 f18 f19 f64 f65 f66 f7
    obtain ⟨rfl, f7, f10, f11, f12, f13, f14, f15, f17, f18, f64, f65, f66, f100⟩ := hm
    refine SW.cond _ f100 (fun vh7 => ?_) (fun vh7 => ?_)
    ·have hoj := condT hoj vh7
     refine SW.seq ?_
     obtain ⟨a1, ha1, hoj⟩ := obind hoj
     obtain ⟨la1, ea1⟩ := catL_spec ha1
     refine SW.regX (fun f_ t_ => ∃ v5 : AV, f_ 7 = sl_Gdifference_arc (rx) ∧ f_ 10 = v1 ∧ f_ 11 = v5 ∧ f_ 14 = AV.int (t141) ∧ f_ 15 = AV.int (t15) ∧ f_ 17 = AV.ptr b17 0 ∧ f_ 18 = AV.int (t18) ∧ Kept σ0 t_ ∧ σ0.next ≤ t_.next ∧ t_.get b17 = some [AV.int (x2.use.test), AV.int (x2.use.sign), AV.int (x2.fromx), AV.int (x2.tox), AV.int (x2.most)] ∧ b17 < t_.next ∧ ArrAt σ0.next t_ v1 149 (t10.map sl_List_Int) t10.length 1 ∧ ArrAt σ0.next t_ v5 52 (a1.flatMap GUseC) a1.length 2 ∧ (∀ i, idOf v5 = some i → ¬ i = b17) ∧ Apart v1 v5) (fun M hM => ?_) (fun fr31 τ8 hm => ?_)
     ·have nb17_0 : ¬ b17 = τ6.next := by omega
      have nb17_1 : ¬ b17 = τ6.next + 1 := by omega
      have zv4 := av4
      rcases zv4 with ⟨rfl, nv4, mv4⟩ | ⟨ov4, rfl, gov4, tov4, lov4, hiv4⟩
      ·simp [go_sem, f10, f100, f11, f12, f13, f14, f15, f17, f18, f64, f65, f66, f7, gb17, nb17_0, nb17_1, nv4, mv4]
       refine (hM _ _).2 ⟨AV.arr (τ6.next + 1) 0 a1.length 2, ?_, ?_, ?_, ?_, ?_, ?_, ?_, by intro j hj; have hj_ := hK j hj; simp [go_sem, hj_.1, hj_.2, show ¬ j = τ6.next by omega, show ¬ j = τ6.next + 1 by omega], by first | omega | (simp [go_sem]; done) | (simp [go_sem]; omega), by simp (disch := omega) [get_alloc_ne, get_set_ne, get_kill_ne, go_sem, f10, f100, f11, f12, f13, f14, f15, f17, f18, f64, f65, f66, f7, gb17, nb17_0, nb17_1, nv4, mv4, ea1], by first | omega | (simp [go_sem]; done) | (simp [go_sem]; omega), av1.same' (by simp [go_sem]; try omega) (fun i hi => by have zl := arrAt_lt av1 i hi; have zi0 : ¬ i = τ6.next := (by omega); have zi1 : ¬ i = τ6.next + 1 := (by omega); constructor <;> simp [go_sem, zi0, zi1]), .inr ⟨(τ6.next + 1), rfl, by simp (disch := omega) [get_alloc_ne, get_set_ne, get_kill_ne, go_sem, f10, f100, f11, f12, f13, f14, f15, f17, f18, f64, f65, f66, f7, gb17, nb17_0, nb17_1, nv4, mv4, ea1, GUseC], by simp [go_sem, f10, f100, f11, f12, f13, f14, f15, f17, f18, f64, f65, f66, f7, gb17, nb17_0, nb17_1, nv4, mv4, ea1], by omega, by first | (simp [go_sem]; done) | (simp [go_sem]; omega)⟩, by intro i hi; first | (simp [idOf] at hi; done) | (simp [idOf] at hi; omega), by first | exact ev1v5 | exact apart_symm ev5v1 | (intro i h1 h2; simp [idOf] at h1; done) | (intro i h1 h2; simp [idOf] at h2; done) | (intro i h1 h2; have := arrAt_lt av1 i h1; simp [idOf] at h2; omega)⟩ <;> simp [go_sem, f10, f100, f11, f12, f13, f14, f15, f17, f18, f64, f65, f66, f7, gb17, nb17_0, nb17_1, nv4, mv4, ea1]
      ·have Lv4 : (t111.flatMap GUseC).length = t111.length * 2 := length_flatMap (f := GUseC) (sz := 2) (fun _ => rfl) _
       have nv4_0 : ¬ ov4 = τ6.next := by omega
       have nv4_1 : ¬ ov4 = τ6.next + 1 := by omega
       have nv4_b17 : ¬ ov4 = b17 := ev4b17 _ rfl
       have nb17_v4 : ¬ b17 = ov4 := fun e => ev4b17 _ rfl e.symm
       have ca1_0 : t111.length ≤ 9223372036854775806 := by have c_ := la1; (try simp at c_); omega
       have ca1_1 : (t111.length + 1) * 16 ≤ 140737488355328 := by have c_ := la1; (try simp at c_); omega
       simp [go_sem, f10, f100, f11, f12, f13, f14, f15, f17, f18, f64, f65, f66, f7, gb17, nb17_0, nb17_1, gov4, tov4, Lv4, nv4_0, nv4_1, nv4_b17, nb17_v4, ca1_0, ca1_1]
       refine (hM _ _).2 ⟨AV.arr (τ6.next + 1) 0 a1.length 2, ?_, ?_, ?_, ?_, ?_, ?_, ?_, by intro j hj; have hj_ := hK j hj; simp [go_sem, hj_.1, hj_.2, show ¬ j = τ6.next by omega, show ¬ j = τ6.next + 1 by omega, show ¬ j = ov4 by omega], by first | omega | (simp [go_sem]; done) | (simp [go_sem]; omega), by simp (disch := omega) [get_alloc_ne, get_set_ne, get_kill_ne, go_sem, f10, f100, f11, f12, f13, f14, f15, f17, f18, f64, f65, f66, f7, gb17, nb17_0, nb17_1, gov4, tov4, Lv4, nv4_0, nv4_1, nv4_b17, nb17_v4, ca1_0, ca1_1, ea1], by first | omega | (simp [go_sem]; done) | (simp [go_sem]; omega), av1.same' (by simp [go_sem]; try omega) (fun i hi => by have zl := arrAt_lt av1 i hi; have zi0 : ¬ i = τ6.next := (by omega); have zi1 : ¬ i = τ6.next + 1 := (by omega); have zk0 := apart_ne (by first | exact ev4v1 | exact apart_symm ev1v4) hi; constructor <;> simp [go_sem, zi0, zi1, zk0]), .inr ⟨(τ6.next + 1), rfl, by simp (disch := omega) [get_alloc_ne, get_set_ne, get_kill_ne, go_sem, f10, f100, f11, f12, f13, f14, f15, f17, f18, f64, f65, f66, f7, gb17, nb17_0, nb17_1, gov4, tov4, Lv4, nv4_0, nv4_1, nv4_b17, nb17_v4, ca1_0, ca1_1, ea1, GUseC], by simp [go_sem, f10, f100, f11, f12, f13, f14, f15, f17, f18, f64, f65, f66, f7, gb17, nb17_0, nb17_1, gov4, tov4, Lv4, nv4_0, nv4_1, nv4_b17, nb17_v4, ca1_0, ca1_1, ea1], by omega, by first | (simp [go_sem]; done) | (simp [go_sem]; omega)⟩, by intro i hi; first | (simp [idOf] at hi; done) | (simp [idOf] at hi; omega), by first | exact ev1v5 | exact apart_symm ev5v1 | (intro i h1 h2; simp [idOf] at h1; done) | (intro i h1 h2; simp [idOf] at h2; done) | (intro i h1 h2; have := arrAt_lt av1 i h1; simp [idOf] at h2; omega)⟩ <;> simp [go_sem, f10, f100, f11, f12, f13, f14, f15, f17, f18, f64, f65, f66, f7, gb17, nb17_0, nb17_1, gov4, tov4, Lv4, nv4_0, nv4_1, nv4_b17, nb17_v4, ca1_0, ca1_1, ea1]
     clear f10 f100 f11 f12 f13 f14 f15 f17 f18 f64 f65 f66 f7 hK hN gb17 ub17 av1 av4
     obtain ⟨v5, f7, f10, f11, f14, f15, f17, f18, hK, hN, gb17, ub17, av1, av5, ev5b17, ev1v5⟩ := hm
     refine SW.seq ?_
     refine SW.regX (fun f_ t_ => τ8 = t_ ∧ f_ 7 = sl_Gdifference_arc (rx) ∧ f_ 10 = v1 ∧ f_ 11 = v5 ∧ f_ 12 = AV.int (t18) ∧ f_ 13 = AV.int (x2.tox) ∧ f_ 14 = AV.int ((IntKind.i64.wrap (t141 + x2.most))) ∧ f_ 15 = AV.int (t15)) (fun M hM => ?_) (fun fr32 τz22 hm => ?_)
     ·refine EW_regionD (by kernel_rfl) (by kernel_rfl) ?_
      simp [go_sem, f10, f11, f14, f15, f17, f18, f7, gb17]
      refine (hM _ _).2 ⟨rfl, ?_, ?_, ?_, ?_, ?_, ?_, ?_⟩ <;> simp [go_sem, f10, f11, f14, f15, f17, f18, f7, gb17]
     clear f10 f11 f14 f15 f17 f18 f7
     obtain ⟨rfl, f7, f10, f11, f12, f13, f14, f15⟩ := hm
     refine SW.exit rfl ?_
     obtain rfl := Option.some.inj hoj
     exact SW.goal ((hKLi2 _ _).2 ⟨a1, t18, x2.tox, (IntKind.i64.wrap (t141 + x2.most)), v5, (Option.some.inj hci2).symm, f7, f10, f11, f12, f13, f14, f15, hK, hN, av1, av5, (by first | exact ev1v5 | exact fun i h h' => ev5v1 i h' h)⟩)
    have hoj := condF hoj vh7
    refine SW.skip ?_
    refine SW.blk ?_
    refine SW.regX (fun f_ t_ => τ6 = t_ ∧ f_ 7 = sl_Gdifference_arc (rx) ∧ f_ 10 = v1 ∧ f_ 11 = v4 ∧ f_ 12 = AV.int (t121) ∧ f_ 13 = AV.int (t131) ∧ f_ 14 = AV.int (t141) ∧ f_ 15 = AV.int (t15) ∧ f_ 64 = sl_Gdifference_arc (rx) ∧ f_ 65 = AV.int (((rx.length : Nat) : Int)) ∧ f_ 66 = AV.int (((k + 1 : Nat) : Int))) (fun M hM => ?_) (fun fr33 τz23 hm => ?_)
    ·simp [go_sem, f10, f100, f11, f12, f13, f14, f15, f17, f18, f64, f65, f66, f7, gb17, hwk]
     refine (hM _ _).2 ⟨rfl, ?_, ?_, ?_, ?_, ?_, ?_, ?_, ?_, ?_, ?_⟩ <;> simp [go_sem, f10, f100, f11, f12, f13, f14, f15, f17, f18, f64, f65, f66, f7, gb17, hwk]
    clear f10 f100 f11 f12 f13 f14 f15 f17 f18 f64 f65 f66 f7
    obtain ⟨rfl, f7, f10, f11, f12, f13, f14, f15, f64, f65, f66⟩ := hm
    obtain rfl := Option.some.inj hoj
    exact SW.goal ⟨rx.length - (k + 1), by omega, (hJi2 _ _ _).2 ⟨k + 1, t111, t121, t131, t141, v4, rfl, hci2, f7, f10, f11, f12, f13, f14, f15, f64, f65, f66, hK, hN, av1, av4, (by first | exact ev1v4 | exact fun i h h' => ev4v1 i h' h)⟩⟩
   intro fr34 τ9 hm
   rw [hKLi2] at hm
   clear hKLi2 hruni2
   clear f10 f11 f12 f13 f14 f15 f64 f65 f66 f7 hK hN av1 av3
   obtain ⟨t111, t121, t131, t141, v4, rfl, f7, f10, f11, f12, f13, f14, f15, hK, hN, av1, av4, ev1v4⟩ := hm
   simp only [Out.on] at hoi2
   refine SW.blk ?_
   refine SW.regX (fun f_ t_ => τ9 = t_ ∧ f_ 7 = sl_Gdifference_arc (rx) ∧ f_ 10 = v1 ∧ f_ 11 = v4 ∧ f_ 12 = AV.int (t121) ∧ f_ 13 = AV.int (t131) ∧ f_ 14 = AV.int (t141) ∧ f_ 15 = AV.int ((IntKind.i64.wrap (t15 - 1)))) (fun M hM => ?_) (fun fr35 τz24 hm => ?_)
   ·simp [go_sem, f10, f11, f12, f13, f14, f15, f7]
    refine (hM _ _).2 ⟨rfl, ?_, ?_, ?_, ?_, ?_, ?_, ?_⟩ <;> simp [go_sem, f10, f11, f12, f13, f14, f15, f7]
   clear f10 f11 f12 f13 f14 f15 f7
   obtain ⟨rfl, f7, f10, f11, f12, f13, f14, f15⟩ := hm
   obtain rfl := Option.some.inj hoi2
   exact SW.goal ⟨_, Nat.lt_succ_self _, (hJi1 _ _ _).2 ⟨t111, t121, t131, t141, (IntKind.i64.wrap (t15 - 1)), v4, hci1, f7, f10, f11, f12, f13, f14, f15, hK, hN, av1, av4, (by first | exact ev1v4 | exact fun i h h' => ev4v1 i h' h)⟩⟩
  have hbi1 := condF hbi1 vh3
  refine SW.exit rfl ?_
  obtain rfl := Option.some.inj hbi1
  exact SW.goal ((hKLi1 _ _).2 ⟨t11, t12, t13, t14, t15, v3, (Option.some.inj hci1).symm, f11, hK, hN, av3⟩)
 intro fr36 τ10 hm
 rw [hKLi1] at hm
 clear hKLi1 hruni1
 clear f10 f11 f12 f13 f14 f15 f7 hK hN av1
 obtain ⟨t11, t12, t13, t14, t15, v3, rfl, f11, hK, hN, av3⟩ := hm
 simp only [Out.on] at hoi1
 refine SW.seq ?_
 refine SW.regX (fun f_ t_ => τ10 = t_ ∧ f_ 4 = v3 ∧ f_ 5 = AV.int (0)) (fun M hM => ?_) (fun fr37 τz25 hm => ?_)
 ·simp [go_sem, f11]
  refine (hM _ _).2 ⟨rfl, ?_, ?_⟩ <;> simp [go_sem, f11]
 clear f11
 obtain ⟨rfl, f4, f5⟩ := hm
 obtain rfl := Option.some.inj hoi1
 exact SW.ret ⟨AV.tup [v3, AV.int (0)], by simp [go_sem, f4, f5], ⟨v3, rfl, av3⟩, hK, hN⟩
theorem w_difference_Refute (F : Nat) (t : Int) (o : List GTest) (r : ((List GUse) × Int)) (h : s_difference_Refute F t o = some r) : PureA Tryz.prog 44 [AV.int (t), sl_GTest (o)] (AV.tup [sl_GUse (r.1), AV.int (r.2)]) := pureA_of_own' (O := O_difference_Refute r) (fun σ0 => o_difference_Refute F t o r h σ0) (by rintro n x τ ⟨v0_, hx, av0_⟩; rw [hx]; exact frz_tupL (frzL_c (av0_.frz (DataL.flatMap gd_GUseC r.1)) (frzL_c (.lit _) (frzL_n))))
set_option maxHeartbeats 4000000 in
theorem w_attribute_Contradiction (F : Nat) (t : Types) (p : GPattern) (r : ((List GUse) × Int)) (h : s_attribute_Contradiction F t p = some r) : PureA Tryz.prog 15 [AV.agg [nodesA (t.nodes), edgesA (t.edges)], AV.agg [intsA (p.graph.nodes), e3sA (p.graph.edges), sl_GSlot (p.slots), AV.int (p.vars), sl_GTest (p.tests)]] (AV.tup [sl_GUse (r.1), AV.int (r.2)]) := by
 refine pureA_of_SW (N := 21) Tryz.func15 (by kernel_rfl) rfl (by rw [Tryz.ntmps15]; rfl) (fun σ0 => ?_)
 rw [Tryz.results15]
 obtain ⟨fr0, hfr⟩ : ∃ fr, fr = initFr [AV.agg [nodesA (t.nodes), edgesA (t.edges)], AV.agg [intsA (p.graph.nodes), e3sA (p.graph.edges), sl_GSlot (p.slots), AV.int (p.vars), sl_GTest (p.tests)]] := ⟨_, rfl⟩
 rw [← hfr]
 have f0 : fr0 0 = AV.agg [nodesA (t.nodes), edgesA (t.edges)] := by rw [hfr]; rfl
 have f1 : fr0 1 = AV.agg [intsA (p.graph.nodes), e3sA (p.graph.edges), sl_GSlot (p.slots), AV.int (p.vars), sl_GTest (p.tests)] := by rw [hfr]; rfl
 clear hfr
 simp only [s_attribute_Contradiction] at h
 refine SW.seq ?_
 refine SW.regX (fun f_ t_ => ∃ b2 : Nat, ∃ b3 : Nat, f_ 2 = AV.ptr b2 0 ∧ f_ 3 = AV.ptr b3 0 ∧ Kept σ0 t_ ∧ σ0.next ≤ t_.next ∧ t_.get b2 = some [nodesA (t.nodes), edgesA (t.edges)] ∧ b2 < t_.next ∧ t_.get b3 = some [intsA (p.graph.nodes), e3sA (p.graph.edges), sl_GSlot (p.slots), AV.int (p.vars), sl_GTest (p.tests)] ∧ b3 < t_.next ∧ σ0.next ≤ b2 ∧ σ0.next ≤ b3 ∧ ¬ b2 = b3) (fun M hM => ?_) (fun fr1 τ hm => ?_)
 ·simp [go_sem, f0, f1]
  refine (hM _ _).2 ⟨σ0.next, (σ0.next + 1), ?_, ?_, by intro j hj; simp [go_sem, show ¬ j = σ0.next by omega, show ¬ j = σ0.next + 1 by omega], by first | omega | (simp [go_sem]; done) | (simp [go_sem]; omega), by simp (disch := omega) [get_alloc_ne, get_set_ne, get_kill_ne, go_sem, f0, f1], by first | omega | (simp [go_sem]; done) | (simp [go_sem]; omega), by simp (disch := omega) [get_alloc_ne, get_set_ne, get_kill_ne, go_sem, f0, f1], by first | omega | (simp [go_sem]; done) | (simp [go_sem]; omega), by omega, by omega, by omega⟩ <;> simp [go_sem, f0, f1]
 clear f0 f1
 obtain ⟨b2, b3, f2, f3, hK, hN, gb2, ub2, gb3, ub3, wb2, wb3, eb2b3⟩ := hm
 refine SW.seq ?_
 refine SW.seq ?_
 obtain ⟨n, hn, h⟩ := obind h
 refine SW.regX (fun f_ t_ => τ = t_ ∧ f_ 2 = AV.ptr b2 0 ∧ f_ 3 = AV.ptr b3 0 ∧ f_ 6 = AV.int (n)) (fun M hM => ?_) (fun fr2 τz hm => ?_)
 ·simp [go_sem, f2, f3, gb2, gb3]
  refine EWcall_pure (w_attribute_Valid t p _ hn) ?_
  simp [go_sem, f2, f3, gb2, gb3]
  refine (hM _ _).2 ⟨rfl, ?_, ?_, ?_⟩ <;> simp [go_sem, f2, f3, gb2, gb3]
 clear f2 f3
 obtain ⟨rfl, f2, f3, f6⟩ := hm
 refine SW.seq ?_
 refine SW.regX (fun f_ t_ => τ = t_ ∧ f_ 2 = AV.ptr b2 0 ∧ f_ 3 = AV.ptr b3 0 ∧ f_ 6 = AV.int (n) ∧ f_ 11 = AV.bool ((!decide (n = 0)))) (fun M hM => ?_) (fun fr3 τz1 hm => ?_)
 ·simp [go_sem, f2, f3, f6, gb2, gb3]
  refine (hM _ _).2 ⟨rfl, ?_, ?_, ?_, ?_⟩ <;> simp [go_sem, f2, f3, f6, gb2, gb3]
 clear f2 f3 f6
 obtain ⟨rfl, f2, f3, f6, f11⟩ := hm
 refine SW.cond _ f11 (fun vh => ?_) (fun vh => ?_)
 ·have h := condT h vh
  refine SW.seq ?_
  refine SW.regX (fun f_ t_ => τ = t_ ∧ f_ 4 = AV.nils ∧ f_ 5 = AV.int (n)) (fun M hM => ?_) (fun fr4 τz2 hm => ?_)
  ·simp [go_sem, f11, f2, f3, f6, gb2, gb3]
   refine (hM _ _).2 ⟨rfl, ?_, ?_⟩ <;> simp [go_sem, f11, f2, f3, f6, gb2, gb3]
  clear f11 f2 f3 f6
  obtain ⟨rfl, f4, f5⟩ := hm
  obtain rfl := Option.some.inj h
  exact SW.ret ⟨AV.tup [AV.nils, AV.int (n)], by simp [go_sem, f4, f5], frz_tupL (frzL_c (.nils) (frzL_c (.lit _) (frzL_n))), hK.keeps⟩
 have h := condF h vh
 refine SW.skip ?_
 refine SW.seq ?_
 obtain ⟨rx, hrx, h⟩ := obind h
 obtain ⟨rx1, hrx1, h⟩ := obind h
 refine SW.regX (fun f_ t_ => τ = t_ ∧ f_ 4 = sl_GUse (rx1.1) ∧ f_ 5 = AV.int (rx1.2)) (fun M hM => ?_) (fun fr5 τz3 hm => ?_)
 ·refine EW_regionY τ 10 (.q false 0 (.q false 1 (.q false 2 (.q false 3 (.q true 4 (.q true 5 (.q false 6 (.q false 7 (.q false 8 (.q false 9 .done)))))))))) (by kernel_rfl) (by kernel_rfl) (fun _ _ h => h) (fun hfin => ?_)
  have hsub : Sub τ τ := (fun _ _ h => h)
  simp (maxDischargeDepth := 12) [go_sem, f11, f2, f3, f6, gb2, gb3, sub_set, sub_killAll, hsub]
  refine EWzp_pure (w_attribute_system F t p _ hrx) ?_
  simp (maxDischargeDepth := 12) [go_sem, f11, f2, f3, f6, gb2, gb3, sub_set, sub_killAll, hsub]
  refine EWzp_pure (w_difference_Refute F p.vars rx _ hrx1) ?_
  simp (maxDischargeDepth := 12) [go_sem, f11, f2, f3, f6, gb2, gb3, sub_set, sub_killAll, hsub]
  refine (hM _ _).2 ⟨rfl, ?_, ?_⟩ <;> simp [go_sem, f11, f2, f3, f6, gb2, gb3, sub_set, sub_killAll, hsub]
 clear f11 f2 f3 f6
 obtain ⟨rfl, f4, f5⟩ := hm
 obtain rfl := Option.some.inj h
 exact SW.ret ⟨AV.tup [sl_GUse (rx1.1), AV.int (rx1.2)], by simp [go_sem, f4, f5], frz_tupL (frzL_c ((DataA.imm (DataL.flatMap gd_GUseC rx1.1)) _ _) (frzL_c (.lit _) (frzL_n))), hK.keeps⟩
end Go.Proofs.YtippinddoldhkaaGreat
