/-
  Plain functions and the walks that lead to them, by a program of ours (gen.py): scarfjoint/difference.distances, scarfjoint/difference.fresh, scarfjoint/difference.closed.
-/
import Derived.Test.YtippinddoldhkaaGreatGd
import Derived.Test.YtippinddoldhkaaGreatGT
import Derived.Test.YtippinddoldhkaaGreatB3
import Derived.Test.YtippinddoldhkaaGreatB7
import Derived.Test.YtippinddoldhkaaGreatGS
import Derived.Test.YtippinddoldhkaaGreatLg
set_option linter.unusedSimpArgs false
set_option linter.unusedVariables false
namespace Go.Proofs.YtippinddoldhkaaGreat
open Go Go.Ew Go.Proofs Go.RowKit
set_option maxRecDepth 100000
def O_difference_distances (r : ((List Int) × Bool)) (n : Nat) (x : AV) (τ : Mem) : Prop := ∃ v0_ : AV, x = AV.tup [v0_, AV.bool (r.2)] ∧ ArrAt n τ v0_ 3 (r.1.map AV.int) r.1.length 1
set_option maxHeartbeats 4000000 in
theorem o_difference_distances (n : Int) (l : List Gdifference_arc) (r : ((List Int) × Bool)) (h : s_difference_distances n l = some r) (σ0 : Mem) : CallA Tryz.prog 91 [AV.int (n), sl_Gdifference_arc (l)] σ0 (fun x τ => O_difference_distances r σ0.next x τ ∧ Kept σ0 τ ∧ σ0.next ≤ τ.next) := by
 refine callA_of_SW (N := 49) Tryz.func91 (by kernel_rfl) rfl (by rw [Tryz.ntmps91]; rfl) ?_
 rw [Tryz.results91]
 obtain ⟨fr0, hfr⟩ : ∃ fr, fr = initFr [AV.int (n), sl_Gdifference_arc (l)] := ⟨_, rfl⟩
 rw [← hfr]
 have f0 : fr0 0 = AV.int (n) := by rw [hfr]; rfl
 have f1 : fr0 1 = sl_Gdifference_arc (l) := by rw [hfr]; rfl
 clear hfr
 simp only [s_difference_distances] at h
 refine SW.seq ?_
 refine SW.regX (fun f_ t_ => σ0 = t_ ∧ f_ 0 = AV.int (n) ∧ f_ 1 = sl_Gdifference_arc (l)) (fun M hM => ?_) (fun fr1 τz hm => ?_)
 ·simp [go_sem, f0, f1]
  refine (hM _ _).2 ⟨rfl, ?_, ?_⟩ <;> simp [go_sem, f0, f1]
 clear f0 f1
 obtain ⟨rfl, f0, f1⟩ := hm
 refine SW.seq ?_
 obtain ⟨a, ha, h⟩ := obind h
 obtain ⟨pa, la, ea⟩ := mkL_spec ha
 have ca_0 : ((IntKind.i64.wrap (n + 1))) ≤ 9223372036854775807 := by omega
 have ca_1 : 8 * ((IntKind.i64.wrap (n + 1))) ≤ 281474976710656 := by omega
 have za := zerosA_map AV.int 0 ((IntKind.i64.wrap (n + 1))).toNat
 try simp at za
 refine SW.regX (fun f_ t_ => ∃ v : AV, f_ 0 = AV.int (n) ∧ f_ 1 = sl_Gdifference_arc (l) ∧ f_ 6 = v ∧ Kept σ0 t_ ∧ σ0.next ≤ t_.next ∧ ArrAt σ0.next t_ v 3 (a.map AV.int) a.length 1) (fun M hM => ?_) (fun fr2 τ hm => ?_)
 ·simp [go_sem, f0, f1, pa, ca_0, ca_1, za]
  refine (hM _ _).2 ⟨AV.arr σ0.next 0 a.length 1, ?_, ?_, ?_, by intro j hj; simp [go_sem, show ¬ j = σ0.next by omega], by first | omega | (simp [go_sem]; done) | (simp [go_sem]; omega), .inr ⟨σ0.next, rfl, by simp (disch := omega) [get_alloc_ne, get_set_ne, get_kill_ne, go_sem, f0, f1, pa, ca_0, ca_1, za, ea], by simp [go_sem, f0, f1, pa, ca_0, ca_1, za, ea], by omega, by first | (simp [go_sem]; done) | (simp [go_sem]; omega)⟩⟩ <;> simp [go_sem, f0, f1, pa, ca_0, ca_1, za, ea]
 clear f0 f1
 obtain ⟨v, f0, f1, f6, hK, hN, av⟩ := hm
 refine SW.seq ?_
 refine SW.seq ?_
 refine SW.regX (fun f_ t_ => τ = t_ ∧ f_ 1 = sl_Gdifference_arc (l) ∧ f_ 6 = v ∧ f_ 15 = AV.int ((IntKind.i64.wrap (n + 2))) ∧ f_ 16 = AV.int (0)) (fun M hM => ?_) (fun fr3 τz1 hm => ?_)
 ·simp [go_sem, f0, f1, f6]
  refine (hM _ _).2 ⟨rfl, ?_, ?_, ?_, ?_⟩ <;> simp [go_sem, f0, f1, f6]
 clear f0 f1 f6
 obtain ⟨rfl, f1, f6, f15, f16⟩ := hm
 obtain ⟨oi, hruni, hoi⟩ := obind h
 obtain ⟨hbigi, hruni⟩ := forR_run hruni
 obtain ⟨KLi, hKLi⟩ : ∃ KL : Fr → Mem → Prop, ∀ fr' τ', KL fr' τ' ↔ (∃ d : List Int, oi = .done d ∧ Kept σ0 τ' ∧ σ0.next ≤ τ'.next) := ⟨_, fun _ _ => Iff.rfl⟩
 refine SW.cut KLi ?_ ?_
 ·refine SW.block ?_
  obtain ⟨Ji, hJi⟩ : ∃ J : Nat → Fr → Mem → Prop, ∀ m_ fr' τ', J m_ fr' τ' ↔ (∃ k : Nat, ∃ d : List Int, ∃ v1 : AV, m_ = (((IntKind.i64.wrap (n + 2))).toNat) - k ∧ forN (b1_difference_distances l) ((((IntKind.i64.wrap (n + 2))).toNat) - k) k d = some oi ∧ fr' 1 = sl_Gdifference_arc (l) ∧ fr' 6 = v1 ∧ fr' 15 = AV.int ((IntKind.i64.wrap (n + 2))) ∧ fr' 16 = AV.int (((k : Nat) : Int)) ∧ Kept σ0 τ' ∧ σ0.next ≤ τ'.next ∧ ArrAt σ0.next τ' v1 3 (d.map AV.int) d.length 1 ∧ d.length = a.length) := ⟨_, fun _ _ _ => Iff.rfl⟩
  refine SW.loop Ji ((((IntKind.i64.wrap (n + 2))).toNat) - 0) ((hJi _ _ _).2 ⟨0, a, v, rfl, hruni, f1, f6, f15, f16, hK, hN, av, rfl⟩) ?_
  clear hruni
  intro m_ fr4 τ1 hm
  rw [hJi] at hm
  clear f1 f15 f16 f6 hK hN av
  obtain ⟨k, d, v1, rfl, hruni, f1, f6, f15, f16, hK, hN, av1, qv1⟩ := hm
  refine SW.seq ?_
  refine SW.regX (fun f_ t_ => τ1 = t_ ∧ f_ 1 = sl_Gdifference_arc (l) ∧ f_ 6 = v1 ∧ f_ 15 = AV.int ((IntKind.i64.wrap (n + 2))) ∧ f_ 16 = AV.int (((k : Nat) : Int)) ∧ f_ 17 = AV.bool ((decide (((k : Nat) : Int) < (IntKind.i64.wrap (n + 2)))))) (fun M hM => ?_) (fun fr5 τz2 hm => ?_)
  ·simp [go_sem, f1, f15, f16, f6]
   refine (hM _ _).2 ⟨rfl, ?_, ?_, ?_, ?_, ?_⟩ <;> simp [go_sem, f1, f15, f16, f6]
  clear f1 f15 f16 f6
  obtain ⟨rfl, f1, f6, f15, f16, f17⟩ := hm
  refine SW.seq ?_
  refine SW.cond _ f17 (fun vh => ?_) (fun vh => ?_)
  rotate_left
  ·have hk : ¬ k < (((IntKind.i64.wrap (n + 2))).toNat) := by have := of_decide_eq_false vh; omega
   refine SW.exit rfl ?_
   exact SW.goal ((hKLi _ _).2 ⟨d, forN_end hruni hk, hK, hN⟩)
  have hkk : k < (((IntKind.i64.wrap (n + 2))).toNat) := by have := of_decide_eq_true vh; omega
  have hwk : IntKind.i64.wrap ((k : Int) + 1) = ((k + 1 : Nat) : Int) := by rw [wrap64_of _ (by omega) (by omega)]; rfl
  obtain ⟨ci, hbi, hci⟩ := forN_step hruni hkk
  simp only [b1_difference_distances] at hbi
  refine SW.skip ?_
  refine SW.seq ?_
  refine SW.block ?_
  refine SW.seq ?_
  refine SW.regX (fun f_ t_ => τ1 = t_ ∧ f_ 1 = sl_Gdifference_arc (l) ∧ f_ 6 = v1 ∧ f_ 7 = AV.bool (false) ∧ f_ 15 = AV.int ((IntKind.i64.wrap (n + 2))) ∧ f_ 16 = AV.int (((k : Nat) : Int))) (fun M hM => ?_) (fun fr6 τz3 hm => ?_)
  ·simp [go_sem, f1, f15, f16, f17, f6]
   refine (hM _ _).2 ⟨rfl, ?_, ?_, ?_, ?_, ?_⟩ <;> simp [go_sem, f1, f15, f16, f17, f6]
  clear f1 f15 f16 f17 f6
  obtain ⟨rfl, f1, f6, f7, f15, f16⟩ := hm
  refine SW.seq ?_
  refine SW.seq ?_
  refine SW.regX (fun f_ t_ => τ1 = t_ ∧ f_ 1 = sl_Gdifference_arc (l) ∧ f_ 6 = v1 ∧ f_ 7 = AV.bool (false) ∧ f_ 15 = AV.int ((IntKind.i64.wrap (n + 2))) ∧ f_ 16 = AV.int (((k : Nat) : Int)) ∧ f_ 18 = sl_Gdifference_arc (l) ∧ f_ 19 = AV.int (((l.length : Nat) : Int)) ∧ f_ 20 = AV.int (0)) (fun M hM => ?_) (fun fr7 τz4 hm => ?_)
  ·simp [go_sem, f1, f15, f16, f6, f7]
   refine (hM _ _).2 ⟨rfl, ?_, ?_, ?_, ?_, ?_, ?_, ?_, ?_⟩ <;> simp [go_sem, f1, f15, f16, f6, f7]
  clear f1 f15 f16 f6 f7
  obtain ⟨rfl, f1, f6, f7, f15, f16, f18, f19, f20⟩ := hm
  obtain ⟨oi1, hruni1, hoi1⟩ := obind hbi
  refine SW.len 1 f1 (fun hbigi1 => ?_)
  obtain ⟨KLi1, hKLi1⟩ : ∃ KL : Fr → Mem → Prop, ∀ fr' τ', KL fr' τ' ↔ (∃ d1 : List Int, ∃ changed : Bool, ∃ v2 : AV, oi1 = .done (d1, changed) ∧ fr' 1 = sl_Gdifference_arc (l) ∧ fr' 6 = v2 ∧ fr' 7 = AV.bool (changed) ∧ fr' 15 = AV.int ((IntKind.i64.wrap (n + 2))) ∧ fr' 16 = AV.int (((k : Nat) : Int)) ∧ Kept σ0 τ' ∧ σ0.next ≤ τ'.next ∧ ArrAt σ0.next τ' v2 3 (d1.map AV.int) d1.length 1 ∧ d1.length = a.length) := ⟨_, fun _ _ => Iff.rfl⟩
  refine SW.cut KLi1 ?_ ?_
  ·refine SW.block ?_
   obtain ⟨Ji1, hJi1⟩ : ∃ J : Nat → Fr → Mem → Prop, ∀ m_ fr' τ', J m_ fr' τ' ↔ (∃ k1 : Nat, ∃ d1 : List Int, ∃ changed : Bool, ∃ v2 : AV, m_ = l.length - k1 ∧ forN (b2_difference_distances l) (l.length - k1) k1 (d1, changed) = some oi1 ∧ fr' 1 = sl_Gdifference_arc (l) ∧ fr' 6 = v2 ∧ fr' 7 = AV.bool (changed) ∧ fr' 15 = AV.int ((IntKind.i64.wrap (n + 2))) ∧ fr' 16 = AV.int (((k : Nat) : Int)) ∧ fr' 18 = sl_Gdifference_arc (l) ∧ fr' 19 = AV.int (((l.length : Nat) : Int)) ∧ fr' 20 = AV.int (((k1 : Nat) : Int)) ∧ Kept σ0 τ' ∧ σ0.next ≤ τ'.next ∧ ArrAt σ0.next τ' v2 3 (d1.map AV.int) d1.length 1 ∧ d1.length = a.length) := ⟨_, fun _ _ _ => Iff.rfl⟩
   refine SW.loop Ji1 (l.length - 0) ((hJi1 _ _ _).2 ⟨0, d, false, v1, rfl, hruni1, f1, f6, f7, f15, f16, f18, f19, f20, hK, hN, av1, qv1⟩) ?_
   clear hruni1
   intro m_ fr8 τ2 hm
   rw [hJi1] at hm
   clear f1 f15 f16 f18 f19 f20 f6 f7 hK hN av1 qv1
   obtain ⟨k1, d1, changed, v2, rfl, hruni1, f1, f6, f7, f15, f16, f18, f19, f20, hK, hN, av2, qv2⟩ := hm
   refine SW.seq ?_
   refine SW.regX (fun f_ t_ => τ2 = t_ ∧ f_ 1 = sl_Gdifference_arc (l) ∧ f_ 6 = v2 ∧ f_ 7 = AV.bool (changed) ∧ f_ 15 = AV.int ((IntKind.i64.wrap (n + 2))) ∧ f_ 16 = AV.int (((k : Nat) : Int)) ∧ f_ 18 = sl_Gdifference_arc (l) ∧ f_ 19 = AV.int (((l.length : Nat) : Int)) ∧ f_ 20 = AV.int (((k1 : Nat) : Int)) ∧ f_ 21 = AV.bool ((decide (k1 < l.length)))) (fun M hM => ?_) (fun fr9 τz5 hm => ?_)
   ·simp [go_sem, f1, f15, f16, f18, f19, f20, f6, f7]
    refine (hM _ _).2 ⟨rfl, ?_, ?_, ?_, ?_, ?_, ?_, ?_, ?_, ?_⟩ <;> simp [go_sem, f1, f15, f16, f18, f19, f20, f6, f7]
   clear f1 f15 f16 f18 f19 f20 f6 f7
   obtain ⟨rfl, f1, f6, f7, f15, f16, f18, f19, f20, f21⟩ := hm
   refine SW.seq ?_
   refine SW.cond _ f21 (fun vh1 => ?_) (fun vh1 => ?_)
   rotate_left
   ·have hk : ¬ k1 < l.length := by have := of_decide_eq_false vh1; omega
    refine SW.exit rfl ?_
    exact SW.goal ((hKLi1 _ _).2 ⟨d1, changed, v2, forN_end hruni1 hk, f1, f6, f7, f15, f16, hK, hN, av2, qv2⟩)
   have hkk1 : k1 < l.length := by have := of_decide_eq_true vh1; omega
   have hwk1 : IntKind.i64.wrap ((k1 : Int) + 1) = ((k1 + 1 : Nat) : Int) := by rw [wrap64_of _ (by omega) (by omega)]; rfl
   obtain ⟨ci1, hbi1, hci1⟩ := forN_step hruni1 hkk1
   simp only [b2_difference_distances] at hbi1
   refine SW.skip ?_
   refine SW.seq ?_
   refine SW.block ?_
   refine SW.seq ?_
   obtain ⟨x, hx, hbi1⟩ := obind hbi1
   have xlx := getN_lt hx
   have xdx := getN_flat Gdifference_arcC 5 (fun _ => rfl) hx
   refine SW.regX (fun f_ t_ => ∃ b9 : Nat, f_ 1 = sl_Gdifference_arc (l) ∧ f_ 6 = v2 ∧ f_ 7 = AV.bool (changed) ∧ f_ 9 = AV.ptr b9 0 ∧ f_ 15 = AV.int ((IntKind.i64.wrap (n + 2))) ∧ f_ 16 = AV.int (((k : Nat) : Int)) ∧ f_ 18 = sl_Gdifference_arc (l) ∧ f_ 19 = AV.int (((l.length : Nat) : Int)) ∧ f_ 20 = AV.int (((k1 : Nat) : Int)) ∧ Kept σ0 t_ ∧ σ0.next ≤ t_.next ∧ t_.get b9 = some [AV.int (x.use.test), AV.int (x.use.sign), AV.int (x.fromx), AV.int (x.tox), AV.int (x.most)] ∧ b9 < t_.next ∧ ArrAt σ0.next t_ v2 3 (d1.map AV.int) d1.length 1 ∧ d1.length = a.length ∧ σ0.next ≤ b9 ∧ (∀ i, idOf v2 = some i → ¬ i = b9)) (fun M hM => ?_) (fun fr10 τ3 hm => ?_)
   ·simp [go_sem, f1, f15, f16, f18, f19, f20, f21, f6, f7, xlx, xdx, Gdifference_arcC]
    refine (hM _ _).2 ⟨τ2.next, ?_, ?_, ?_, ?_, ?_, ?_, ?_, ?_, ?_, by intro j hj; have hj_ := hK j hj; simp [go_sem, hj_.1, hj_.2, show ¬ j = τ2.next by omega], by first | omega | (simp [go_sem]; done) | (simp [go_sem]; omega), by simp (disch := omega) [get_alloc_ne, get_set_ne, get_kill_ne, go_sem, f1, f15, f16, f18, f19, f20, f21, f6, f7, xlx, xdx, Gdifference_arcC], by first | omega | (simp [go_sem]; done) | (simp [go_sem]; omega), av2.same' (by simp [go_sem]; try omega) (fun i hi => by have zl := arrAt_lt av2 i hi; have zi0 : ¬ i = τ2.next := (by omega); constructor <;> simp [go_sem, zi0]), by first | exact qv2 | (simp; done) | (simp [qv2]; done) | (simp [go_sem, f1, f15, f16, f18, f19, f20, f21, f6, f7, xlx, xdx, Gdifference_arcC]; done), by omega, by first | exact ev2b9 | (intro i hi; have := arrAt_lt av2 i hi; omega)⟩ <;> simp [go_sem, f1, f15, f16, f18, f19, f20, f21, f6, f7, xlx, xdx, Gdifference_arcC]
   clear f1 f15 f16 f18 f19 f20 f21 f6 f7 hK hN av2 qv2
   obtain ⟨b9, f1, f6, f7, f9, f15, f16, f18, f19, f20, hK, hN, gb9, ub9, av2, qv2, wb9, ev2b9⟩ := hm
   refine SW.seq ?_
   obtain ⟨n1, hn1, hbi1⟩ := obind hbi1
   have xpn1 := getI_pos hn1
   have xln1 := getI_lt hn1
   have xin1 := getI_N hn1
   have xdn1 := getN_map AV.int xin1
   have xon1 : (d1.map AV.int).length = d1.length * 1 := by simp
   refine SW.regX (fun f_ t_ => τ3 = t_ ∧ f_ 1 = sl_Gdifference_arc (l) ∧ f_ 6 = v2 ∧ f_ 7 = AV.bool (changed) ∧ f_ 9 = AV.ptr b9 0 ∧ f_ 10 = AV.int ((IntKind.i64.wrap (n1 + x.most))) ∧ f_ 15 = AV.int ((IntKind.i64.wrap (n + 2))) ∧ f_ 16 = AV.int (((k : Nat) : Int)) ∧ f_ 18 = sl_Gdifference_arc (l) ∧ f_ 19 = AV.int (((l.length : Nat) : Int)) ∧ f_ 20 = AV.int (((k1 : Nat) : Int))) (fun M hM => ?_) (fun fr11 τz6 hm => ?_)
   ·refine EW_regionD (by kernel_rfl) (by kernel_rfl) ?_
    have zv2 := av2
    rcases zv2 with ⟨rfl, nv2, mv2⟩ | ⟨ov2, rfl, gov2, tov2, lov2, hiv2⟩
    ·exfalso; omega
    ·simp [go_sem, f1, f15, f16, f18, f19, f20, f6, f7, f9, gb9, xpn1, xln1, xdn1, xon1, gov2, tov2]
     refine (hM _ _).2 ⟨rfl, ?_, ?_, ?_, ?_, ?_, ?_, ?_, ?_, ?_, ?_⟩ <;> simp [go_sem, f1, f15, f16, f18, f19, f20, f6, f7, f9, gb9, xpn1, xln1, xdn1, xon1, gov2, tov2]
   clear f1 f15 f16 f18 f19 f20 f6 f7 f9
   obtain ⟨rfl, f1, f6, f7, f9, f10, f15, f16, f18, f19, f20⟩ := hm
   refine SW.seq ?_
   obtain ⟨n2, hn2, hbi1⟩ := obind hbi1
   have xpn2 := getI_pos hn2
   have xln2 := getI_lt hn2
   have xin2 := getI_N hn2
   have xdn2 := getN_map AV.int xin2
   have xon2 : (d1.map AV.int).length = d1.length * 1 := by simp
   refine SW.regX (fun f_ t_ => τ3 = t_ ∧ f_ 1 = sl_Gdifference_arc (l) ∧ f_ 6 = v2 ∧ f_ 7 = AV.bool (changed) ∧ f_ 9 = AV.ptr b9 0 ∧ f_ 10 = AV.int ((IntKind.i64.wrap (n1 + x.most))) ∧ f_ 15 = AV.int ((IntKind.i64.wrap (n + 2))) ∧ f_ 16 = AV.int (((k : Nat) : Int)) ∧ f_ 18 = sl_Gdifference_arc (l) ∧ f_ 19 = AV.int (((l.length : Nat) : Int)) ∧ f_ 20 = AV.int (((k1 : Nat) : Int)) ∧ f_ 38 = AV.bool ((decide ((IntKind.i64.wrap (n1 + x.most)) < n2)))) (fun M hM => ?_) (fun fr12 τz7 hm => ?_)
   ·have zv2 := av2
    rcases zv2 with ⟨rfl, nv2, mv2⟩ | ⟨ov2, rfl, gov2, tov2, lov2, hiv2⟩
    ·exfalso; omega
    ·simp [go_sem, f1, f10, f15, f16, f18, f19, f20, f6, f7, f9, gb9, xpn2, xln2, xdn2, xon2, gov2, tov2]
     refine (hM _ _).2 ⟨rfl, ?_, ?_, ?_, ?_, ?_, ?_, ?_, ?_, ?_, ?_, ?_⟩ <;> simp [go_sem, f1, f10, f15, f16, f18, f19, f20, f6, f7, f9, gb9, xpn2, xln2, xdn2, xon2, gov2, tov2]
   clear f1 f10 f15 f16 f18 f19 f20 f6 f7 f9
   obtain ⟨rfl, f1, f6, f7, f9, f10, f15, f16, f18, f19, f20, f38⟩ := hm
   refine SW.cond _ f38 (fun vh2 => ?_) (fun vh2 => ?_)
   ·have hbi1 := condT hbi1 vh2
    obtain ⟨n3, hn3, hbi1⟩ := obind hbi1
    have xpn3 := getI_pos hn3
    have xln3 := getI_lt hn3
    have xin3 := getI_N hn3
    have xdn3 := getN_map AV.int xin3
    have xon3 : (d1.map AV.int).length = d1.length * 1 := by simp
    have st5 := set_map AV.int ((IntKind.i64.wrap (n1 + x.most))) d1 x.fromx.toNat (by have := xpn3; have := xln3; omega)
    have sust5 : x.fromx.toNat + 1 ≤ d1.length := by have := (by have := xpn3; have := xln3; omega); omega
    refine SW.regX (fun f_ t_ => f_ 1 = sl_Gdifference_arc (l) ∧ f_ 6 = v2 ∧ f_ 7 = AV.bool (true) ∧ f_ 15 = AV.int ((IntKind.i64.wrap (n + 2))) ∧ f_ 16 = AV.int (((k : Nat) : Int)) ∧ f_ 18 = sl_Gdifference_arc (l) ∧ f_ 19 = AV.int (((l.length : Nat) : Int)) ∧ f_ 20 = AV.int (((k1 : Nat) : Int)) ∧ Kept σ0 t_ ∧ σ0.next ≤ t_.next ∧ ArrAt σ0.next t_ v2 3 (((d1.set x.fromx.toNat ((IntKind.i64.wrap (n1 + x.most))))).map AV.int) ((d1.set x.fromx.toNat ((IntKind.i64.wrap (n1 + x.most))))).length 1 ∧ ((d1.set x.fromx.toNat ((IntKind.i64.wrap (n1 + x.most))))).length = a.length) (fun M hM => ?_) (fun fr13 τ4 hm => ?_)
    ·have zv2 := av2
     rcases zv2 with ⟨rfl, nv2, mv2⟩ | ⟨ov2, rfl, gov2, tov2, lov2, hiv2⟩
     ·exfalso; omega
     ·have nv2_b9 : ¬ ov2 = b9 := ev2b9 _ rfl
      have nb9_v2 : ¬ b9 = ov2 := fun e => ev2b9 _ rfl e.symm
      simp [go_sem, f1, f10, f15, f16, f18, f19, f20, f38, f6, f7, f9, gb9, xpn3, xln3, xdn3, xon3, sust5, st5, gov2, tov2, nv2_b9, nb9_v2]
      refine (hM _ _).2 ⟨?_, ?_, ?_, ?_, ?_, ?_, ?_, ?_, by intro j hj; have hj_ := hK j hj; simp [go_sem, hj_.1, hj_.2, show ¬ j = ov2 by omega], by first | omega | (simp [go_sem]; done) | (simp [go_sem]; omega), .inr ⟨ov2, by simp, by simp (disch := omega) [get_alloc_ne, get_set_ne, get_kill_ne, go_sem, f1, f10, f15, f16, f18, f19, f20, f38, f6, f7, f9, gb9, xpn3, xln3, xdn3, xon3, sust5, st5, gov2, tov2, nv2_b9, nb9_v2], by simp (disch := omega) [go_sem, f1, f10, f15, f16, f18, f19, f20, f38, f6, f7, f9, gb9, xpn3, xln3, xdn3, xon3, sust5, st5, gov2, tov2, nv2_b9, nb9_v2], lov2, by first | omega | (simp [go_sem]; done) | (simp [go_sem]; omega)⟩, by first | exact qv2 | (simp; done) | (simp [qv2]; done) | (simp [go_sem, f1, f10, f15, f16, f18, f19, f20, f38, f6, f7, f9, gb9, xpn3, xln3, xdn3, xon3, sust5, st5, gov2, tov2, nv2_b9, nb9_v2]; done)⟩ <;> simp [go_sem, f1, f10, f15, f16, f18, f19, f20, f38, f6, f7, f9, gb9, xpn3, xln3, xdn3, xon3, sust5, st5, gov2, tov2, nv2_b9, nb9_v2]
    clear f1 f10 f15 f16 f18 f19 f20 f38 f6 f7 f9 hK hN gb9 ub9 av2 qv2
    obtain ⟨f1, f6, f7, f15, f16, f18, f19, f20, hK, hN, av2, qv2⟩ := hm
    refine SW.blk ?_
    refine SW.regX (fun f_ t_ => τ4 = t_ ∧ f_ 1 = sl_Gdifference_arc (l) ∧ f_ 6 = v2 ∧ f_ 7 = AV.bool (true) ∧ f_ 15 = AV.int ((IntKind.i64.wrap (n + 2))) ∧ f_ 16 = AV.int (((k : Nat) : Int)) ∧ f_ 18 = sl_Gdifference_arc (l) ∧ f_ 19 = AV.int (((l.length : Nat) : Int)) ∧ f_ 20 = AV.int (((k1 + 1 : Nat) : Int))) (fun M hM => ?_) (fun fr14 τz8 hm => ?_)
    ·simp [go_sem, f1, f15, f16, f18, f19, f20, f6, f7, hwk1]
     refine (hM _ _).2 ⟨rfl, ?_, ?_, ?_, ?_, ?_, ?_, ?_, ?_⟩ <;> simp [go_sem, f1, f15, f16, f18, f19, f20, f6, f7, hwk1]
    clear f1 f15 f16 f18 f19 f20 f6 f7
    obtain ⟨rfl, f1, f6, f7, f15, f16, f18, f19, f20⟩ := hm
    obtain rfl := Option.some.inj hbi1
    exact SW.goal ⟨l.length - (k1 + 1), by omega, (hJi1 _ _ _).2 ⟨k1 + 1, (d1.set x.fromx.toNat ((IntKind.i64.wrap (n1 + x.most)))), true, v2, rfl, hci1, f1, f6, f7, f15, f16, f18, f19, f20, hK, hN, av2, qv2⟩⟩
   have hbi1 := condF hbi1 vh2
   refine SW.skip ?_
   refine SW.blk ?_
   refine SW.regX (fun f_ t_ => τ3 = t_ ∧ f_ 1 = sl_Gdifference_arc (l) ∧ f_ 6 = v2 ∧ f_ 7 = AV.bool (changed) ∧ f_ 15 = AV.int ((IntKind.i64.wrap (n + 2))) ∧ f_ 16 = AV.int (((k : Nat) : Int)) ∧ f_ 18 = sl_Gdifference_arc (l) ∧ f_ 19 = AV.int (((l.length : Nat) : Int)) ∧ f_ 20 = AV.int (((k1 + 1 : Nat) : Int))) (fun M hM => ?_) (fun fr15 τz9 hm => ?_)
   ·simp [go_sem, f1, f10, f15, f16, f18, f19, f20, f38, f6, f7, f9, gb9, hwk1]
    refine (hM _ _).2 ⟨rfl, ?_, ?_, ?_, ?_, ?_, ?_, ?_, ?_⟩ <;> simp [go_sem, f1, f10, f15, f16, f18, f19, f20, f38, f6, f7, f9, gb9, hwk1]
   clear f1 f10 f15 f16 f18 f19 f20 f38 f6 f7 f9
   obtain ⟨rfl, f1, f6, f7, f15, f16, f18, f19, f20⟩ := hm
   obtain rfl := Option.some.inj hbi1
   exact SW.goal ⟨l.length - (k1 + 1), by omega, (hJi1 _ _ _).2 ⟨k1 + 1, d1, changed, v2, rfl, hci1, f1, f6, f7, f15, f16, f18, f19, f20, hK, hN, av2, qv2⟩⟩
  intro fr16 τ5 hm
  rw [hKLi1] at hm
  clear hKLi1 hruni1
  clear f1 f15 f16 f18 f19 f20 f6 f7 hK hN av1 qv1
  obtain ⟨d1, changed, v2, rfl, f1, f6, f7, f15, f16, hK, hN, av2, qv2⟩ := hm
  simp only [Out.on] at hoi1
  refine SW.seq ?_
  refine SW.regX (fun f_ t_ => τ5 = t_ ∧ f_ 1 = sl_Gdifference_arc (l) ∧ f_ 6 = v2 ∧ f_ 15 = AV.int ((IntKind.i64.wrap (n + 2))) ∧ f_ 16 = AV.int (((k : Nat) : Int)) ∧ f_ 46 = AV.bool ((!changed))) (fun M hM => ?_) (fun fr17 τz10 hm => ?_)
  ·simp [go_sem, f1, f15, f16, f6, f7]
   refine (hM _ _).2 ⟨rfl, ?_, ?_, ?_, ?_, ?_⟩ <;> simp [go_sem, f1, f15, f16, f6, f7]
  clear f1 f15 f16 f6 f7
  obtain ⟨rfl, f1, f6, f15, f16, f46⟩ := hm
  refine SW.cond _ f46 (fun vh3 => ?_) (fun vh3 => ?_)
  ·have hoi1 := condT hoi1 vh3
   refine SW.seq ?_
   refine SW.regX (fun f_ t_ => τ5 = t_ ∧ f_ 4 = v2 ∧ f_ 5 = AV.bool (true)) (fun M hM => ?_) (fun fr18 τz11 hm => ?_)
   ·simp [go_sem, f1, f15, f16, f46, f6]
    refine (hM _ _).2 ⟨rfl, ?_, ?_⟩ <;> simp [go_sem, f1, f15, f16, f46, f6]
   clear f1 f15 f16 f46 f6
   obtain ⟨rfl, f4, f5⟩ := hm
   obtain rfl := Option.some.inj hoi1
   obtain rfl := Option.some.inj hci
   obtain rfl := Option.some.inj hoi
   exact SW.ret ⟨AV.tup [v2, AV.bool (true)], by simp [go_sem, f4, f5], ⟨v2, rfl, av2⟩, hK, hN⟩
  have hoi1 := condF hoi1 vh3
  refine SW.skip ?_
  refine SW.blk ?_
  refine SW.regX (fun f_ t_ => τ5 = t_ ∧ f_ 1 = sl_Gdifference_arc (l) ∧ f_ 6 = v2 ∧ f_ 15 = AV.int ((IntKind.i64.wrap (n + 2))) ∧ f_ 16 = AV.int (((k + 1 : Nat) : Int))) (fun M hM => ?_) (fun fr19 τz12 hm => ?_)
  ·simp [go_sem, f1, f15, f16, f46, f6, hwk]
   refine (hM _ _).2 ⟨rfl, ?_, ?_, ?_, ?_⟩ <;> simp [go_sem, f1, f15, f16, f46, f6, hwk]
  clear f1 f15 f16 f46 f6
  obtain ⟨rfl, f1, f6, f15, f16⟩ := hm
  obtain rfl := Option.some.inj hoi1
  exact SW.goal ⟨(((IntKind.i64.wrap (n + 2))).toNat) - (k + 1), by omega, (hJi _ _ _).2 ⟨k + 1, d1, v2, rfl, hci, f1, f6, f15, f16, hK, hN, av2, qv2⟩⟩
 intro fr20 τ6 hm
 rw [hKLi] at hm
 clear hKLi hruni
 clear f1 f15 f16 f6 hK hN av
 obtain ⟨d, rfl, hK, hN⟩ := hm
 simp only [Out.on] at hoi
 refine SW.seq ?_
 refine SW.regX (fun f_ t_ => τ6 = t_ ∧ f_ 4 = AV.nils ∧ f_ 5 = AV.bool (false)) (fun M hM => ?_) (fun fr21 τz13 hm => ?_)
 ·simp [go_sem]
  refine (hM _ _).2 ⟨rfl, ?_, ?_⟩ <;> simp [go_sem]
 obtain ⟨rfl, f4, f5⟩ := hm
 obtain rfl := Option.some.inj hoi
 exact SW.ret ⟨AV.tup [AV.nils, AV.bool (false)], by simp [go_sem, f4, f5], ⟨AV.nils, rfl, .inl ⟨rfl, rfl, rfl⟩⟩, hK, hN⟩
theorem w_difference_distances (n : Int) (l : List Gdifference_arc) (r : ((List Int) × Bool)) (h : s_difference_distances n l = some r) : PureA Tryz.prog 91 [AV.int (n), sl_Gdifference_arc (l)] (AV.tup [intsA (r.1), AV.bool (r.2)]) := pureA_of_own' (O := O_difference_distances r) (fun σ0 => o_difference_distances n l r h σ0) (by rintro n x τ ⟨v0_, hx, av0_⟩; rw [hx]; exact frz_tupL (frzL_c (av0_.frz (DataL.map (fun _ => .lit _) r.1)) (frzL_c (.lit _) (frzL_n))))
def O_difference_fresh (r : ((List (List Int)))) (n : Nat) (x : AV) (τ : Mem) : Prop := ∃ v0_ : AV, x = v0_ ∧ ArrAt n τ v0_ 26 (r.map intsA) r.length 1
set_option maxHeartbeats 4000000 in
theorem o_difference_fresh (n : Int) (r : ((List (List Int)))) (h : s_difference_fresh n = some r) (σ0 : Mem) : CallA Tryz.prog 92 [AV.int (n)] σ0 (fun x τ => O_difference_fresh r σ0.next x τ ∧ Kept σ0 τ ∧ σ0.next ≤ τ.next) := by
 refine callA_of_SW (N := 24) Tryz.func92 (by kernel_rfl) rfl (by rw [Tryz.ntmps92]; rfl) ?_
 rw [Tryz.results92]
 obtain ⟨fr0, hfr⟩ : ∃ fr, fr = initFr [AV.int (n)] := ⟨_, rfl⟩
 rw [← hfr]
 have f0 : fr0 0 = AV.int (n) := by rw [hfr]; rfl
 clear hfr
 simp only [s_difference_fresh] at h
 refine SW.seq ?_
 refine SW.regX (fun f_ t_ => σ0 = t_ ∧ f_ 0 = AV.int (n)) (fun M hM => ?_) (fun fr1 τz hm => ?_)
 ·simp [go_sem, f0]
  refine (hM _ _).2 ⟨rfl, ?_⟩ <;> simp [go_sem, f0]
 clear f0
 obtain ⟨rfl, f0⟩ := hm
 refine SW.seq ?_
 refine SW.regX (fun f_ t_ => σ0 = t_ ∧ f_ 0 = AV.int (n) ∧ f_ 3 = AV.nils) (fun M hM => ?_) (fun fr2 τz1 hm => ?_)
 ·simp [go_sem, f0]
  refine (hM _ _).2 ⟨rfl, ?_, ?_⟩ <;> simp [go_sem, f0]
 clear f0
 obtain ⟨rfl, f0, f3⟩ := hm
 refine SW.seq ?_
 refine SW.seq ?_
 refine SW.regX (fun f_ t_ => σ0 = t_ ∧ f_ 0 = AV.int (n) ∧ f_ 3 = AV.nils ∧ f_ 7 = AV.int ((IntKind.i64.wrap (n + 1))) ∧ f_ 8 = AV.int (0)) (fun M hM => ?_) (fun fr3 τz2 hm => ?_)
 ·simp [go_sem, f0, f3]
  refine (hM _ _).2 ⟨rfl, ?_, ?_, ?_, ?_⟩ <;> simp [go_sem, f0, f3]
 clear f0 f3
 obtain ⟨rfl, f0, f3, f7, f8⟩ := hm
 obtain ⟨oi, hruni, hoi⟩ := obind h
 obtain ⟨hbigi, hruni⟩ := forR_run hruni
 obtain ⟨KLi, hKLi⟩ : ∃ KL : Fr → Mem → Prop, ∀ fr' τ', KL fr' τ' ↔ (∃ out : List (List Int), ∃ v : AV, oi = .done out ∧ fr' 3 = v ∧ Kept σ0 τ' ∧ σ0.next ≤ τ'.next ∧ ArrAt σ0.next τ' v 26 (out.map intsA) out.length 1) := ⟨_, fun _ _ => Iff.rfl⟩
 refine SW.cut KLi ?_ ?_
 ·refine SW.block ?_
  obtain ⟨Ji, hJi⟩ : ∃ J : Nat → Fr → Mem → Prop, ∀ m_ fr' τ', J m_ fr' τ' ↔ (∃ k : Nat, ∃ out : List (List Int), ∃ v : AV, m_ = (((IntKind.i64.wrap (n + 1))).toNat) - k ∧ forN (b1_difference_fresh n) ((((IntKind.i64.wrap (n + 1))).toNat) - k) k out = some oi ∧ fr' 0 = AV.int (n) ∧ fr' 3 = v ∧ fr' 7 = AV.int ((IntKind.i64.wrap (n + 1))) ∧ fr' 8 = AV.int (((k : Nat) : Int)) ∧ Kept σ0 τ' ∧ σ0.next ≤ τ'.next ∧ ArrAt σ0.next τ' v 26 (out.map intsA) out.length 1) := ⟨_, fun _ _ _ => Iff.rfl⟩
  refine SW.loop Ji ((((IntKind.i64.wrap (n + 1))).toNat) - 0) ((hJi _ _ _).2 ⟨0, ([] : List (List Int)), AV.nils, rfl, hruni, f0, f3, f7, f8, Kept.refl _, Nat.le_refl _, .inl ⟨rfl, rfl, rfl⟩⟩) ?_
  clear hruni
  intro m_ fr4 τ hm
  rw [hJi] at hm
  clear f0 f3 f7 f8
  obtain ⟨k, out, v, rfl, hruni, f0, f3, f7, f8, hK, hN, av⟩ := hm
  refine SW.seq ?_
  refine SW.regX (fun f_ t_ => τ = t_ ∧ f_ 0 = AV.int (n) ∧ f_ 3 = v ∧ f_ 7 = AV.int ((IntKind.i64.wrap (n + 1))) ∧ f_ 8 = AV.int (((k : Nat) : Int)) ∧ f_ 9 = AV.bool ((decide (((k : Nat) : Int) < (IntKind.i64.wrap (n + 1)))))) (fun M hM => ?_) (fun fr5 τz3 hm => ?_)
  ·simp [go_sem, f0, f3, f7, f8]
   refine (hM _ _).2 ⟨rfl, ?_, ?_, ?_, ?_, ?_⟩ <;> simp [go_sem, f0, f3, f7, f8]
  clear f0 f3 f7 f8
  obtain ⟨rfl, f0, f3, f7, f8, f9⟩ := hm
  refine SW.seq ?_
  refine SW.cond _ f9 (fun vh => ?_) (fun vh => ?_)
  rotate_left
  ·have hk : ¬ k < (((IntKind.i64.wrap (n + 1))).toNat) := by have := of_decide_eq_false vh; omega
   refine SW.exit rfl ?_
   exact SW.goal ((hKLi _ _).2 ⟨out, v, forN_end hruni hk, f3, hK, hN, av⟩)
  have hkk : k < (((IntKind.i64.wrap (n + 1))).toNat) := by have := of_decide_eq_true vh; omega
  have hwk : IntKind.i64.wrap ((k : Int) + 1) = ((k + 1 : Nat) : Int) := by rw [wrap64_of _ (by omega) (by omega)]; rfl
  obtain ⟨ci, hbi, hci⟩ := forN_step hruni hkk
  simp only [b1_difference_fresh] at hbi
  refine SW.skip ?_
  refine SW.seq ?_
  refine SW.block ?_
  refine SW.seq ?_
  refine SW.regX (fun f_ t_ => τ = t_ ∧ f_ 0 = AV.int (n) ∧ f_ 3 = v ∧ f_ 4 = AV.int (((k : Nat) : Int)) ∧ f_ 7 = AV.int ((IntKind.i64.wrap (n + 1))) ∧ f_ 8 = AV.int (((k : Nat) : Int))) (fun M hM => ?_) (fun fr6 τz4 hm => ?_)
  ·simp [go_sem, f0, f3, f7, f8, f9]
   refine (hM _ _).2 ⟨rfl, ?_, ?_, ?_, ?_, ?_⟩ <;> simp [go_sem, f0, f3, f7, f8, f9]
  clear f0 f3 f7 f8 f9
  obtain ⟨rfl, f0, f3, f4, f7, f8⟩ := hm
  refine SW.seq ?_
  refine SW.region0 ?_
  refine SW.opsX 3 (fun f_ t_ => ∃ v1 : AV, f_ 0 = AV.int (n) ∧ f_ 3 = v ∧ f_ 4 = AV.int (((k : Nat) : Int)) ∧ f_ 7 = AV.int ((IntKind.i64.wrap (n + 1))) ∧ f_ 8 = AV.int (((k : Nat) : Int)) ∧ f_ 11 = v1 ∧ f_ 13 = AV.int ((IntKind.i64.wrap (n + 1))) ∧ Kept σ0 t_ ∧ σ0.next ≤ t_.next ∧ ArrAt σ0.next t_ v 26 (out.map intsA) out.length 1 ∧ ArrAt σ0.next t_ v1 3 ((([1125899906842624] : List Int)).map AV.int) (([1125899906842624] : List Int)).length 1 ∧ Apart v v1) (fun M hM => ?_) (fun fr7 τ1 hm => ?_)
  ·simp [go_sem, f0, f3, f4, f7, f8]
   refine (hM _ _).2 ⟨AV.arr τ.next 0 (([1125899906842624] : List Int)).length 1, ?_, ?_, ?_, ?_, ?_, ?_, ?_, by intro j hj; have hj_ := hK j hj; simp [go_sem, hj_.1, hj_.2, show ¬ j = τ.next by omega], by first | omega | (simp [go_sem]; done) | (simp [go_sem]; omega), av.same' (by simp [go_sem]; try omega) (fun i hi => by have zl := arrAt_lt av i hi; have zi0 : ¬ i = τ.next := (by omega); constructor <;> simp [go_sem, zi0]), .inr ⟨τ.next, rfl, by simp (disch := omega) [get_alloc_ne, get_set_ne, get_kill_ne, go_sem, f0, f3, f4, f7, f8], by simp [go_sem, f0, f3, f4, f7, f8], by omega, by first | (simp [go_sem]; done) | (simp [go_sem]; omega)⟩, by first | exact evv1 | exact apart_symm ev1v | (intro i h1 h2; simp [idOf] at h1; done) | (intro i h1 h2; simp [idOf] at h2; done) | (intro i h1 h2; have := arrAt_lt av i h1; simp [idOf] at h2; omega)⟩ <;> simp [go_sem, f0, f3, f4, f7, f8]
  clear f0 f3 f4 f7 f8 hK hN av
  obtain ⟨v1, f0, f3, f4, f7, f8, f11, f13, hK, hN, av, av1, evv1⟩ := hm
  obtain ⟨rx, hrx, hbi⟩ := obind hbi
  refine SW.opsX 2 (fun f_ t_ => ∃ v3 : AV, f_ 0 = AV.int (n) ∧ f_ 3 = v ∧ f_ 4 = AV.int (((k : Nat) : Int)) ∧ f_ 5 = v3 ∧ f_ 7 = AV.int ((IntKind.i64.wrap (n + 1))) ∧ f_ 8 = AV.int (((k : Nat) : Int)) ∧ Kept σ0 t_ ∧ σ0.next ≤ t_.next ∧ ArrAt σ0.next t_ v 26 (out.map intsA) out.length 1 ∧ ArrAt σ0.next t_ v3 3 (rx.map AV.int) rx.length 1 ∧ Apart v v3) (fun M hM => ?_) (fun fr8 τ2 hm => ?_)
  ·have zv1 := av1
   rcases zv1 with ⟨rfl, nv1, mv1⟩ | ⟨ov1, rfl, gov1, tov1, lov1, hiv1⟩
   ·simp [go_sem, f0, f11, f13, f3, f4, f7, f8, nv1, mv1]
    refine EWcall_of (callA_own_args (fun σ => o_slices_Repeat_int ([1125899906842624] : List Int) (IntKind.i64.wrap (n + 1)) _ hrx σ) (frzL_c (ArrAt.frzle av1 (Nat.zero_le _) (DataL.map (fun _ => .lit _) (([1125899906842624] : List Int)))) (frzL_c (.lit _) (frzL_n))) (os_slices_Repeat_int _)) ?_
    rintro xq τc ⟨⟨v2, hxq, av2⟩, kc, nc⟩
    obtain rfl := hxq.symm
    have hK := hK.trans kc hN
    have hN := Nat.le_trans hN nc
    have ev2v := apart_of av2 av (by omega)
    have ev2v1 := apart_of av2 av1 (by omega)
    have av := av.same' nc (fun i hi => kc i (arrAt_lt av i hi).2)
    have av1 := av1.same' nc (fun i hi => kc i (arrAt_lt av1 i hi).2)
    have av2 := av2.lo (n1 := σ0.next) (by omega)
    simp [go_sem, f0, f11, f13, f3, f4, f7, f8, nv1, mv1]
    refine (hM _ _).2 ⟨v2, ?_, ?_, ?_, ?_, ?_, ?_, by intro j hj; have hj_ := hK j hj; simp [go_sem, hj_.1, hj_.2], by first | omega | (simp [go_sem]; done) | (simp [go_sem]; omega), av, av2, by first | exact evv2 | exact apart_symm ev2v | (intro i h1 h2; simp [idOf] at h1; done) | (intro i h1 h2; simp [idOf] at h2; done) | (intro i h1 h2; have := arrAt_lt av i h1; have := arrAt_lt av2 i h2; omega)⟩ <;> simp [go_sem, f0, f11, f13, f3, f4, f7, f8, nv1, mv1]
   ·simp [go_sem, f0, f11, f13, f3, f4, f7, f8, gov1, tov1]
    refine EWcall_of (callA_own_args (fun σ => o_slices_Repeat_int ([1125899906842624] : List Int) (IntKind.i64.wrap (n + 1)) _ hrx σ) (frzL_c (ArrAt.frzle av1 (Nat.zero_le _) (DataL.map (fun _ => .lit _) (([1125899906842624] : List Int)))) (frzL_c (.lit _) (frzL_n))) (os_slices_Repeat_int _)) ?_
    rintro xq τc ⟨⟨v2, hxq, av2⟩, kc, nc⟩
    obtain rfl := hxq.symm
    have hK := hK.trans kc hN
    have hN := Nat.le_trans hN nc
    have ev2v := apart_of av2 av (by omega)
    have ev2v1 := apart_of av2 av1 (by omega)
    have av := av.same' nc (fun i hi => kc i (arrAt_lt av i hi).2)
    have av1 := av1.same' nc (fun i hi => kc i (arrAt_lt av1 i hi).2)
    have av2 := av2.lo (n1 := σ0.next) (by omega)
    simp [go_sem, f0, f11, f13, f3, f4, f7, f8, gov1, tov1]
    refine (hM _ _).2 ⟨v2, ?_, ?_, ?_, ?_, ?_, ?_, by intro j hj; have hj_ := hK j hj; simp [go_sem, hj_.1, hj_.2], by first | omega | (simp [go_sem]; done) | (simp [go_sem]; omega), av, av2, by first | exact evv2 | exact apart_symm ev2v | (intro i h1 h2; simp [idOf] at h1; done) | (intro i h1 h2; simp [idOf] at h2; done) | (intro i h1 h2; have := arrAt_lt av i h1; have := arrAt_lt av2 i h2; omega)⟩ <;> simp [go_sem, f0, f11, f13, f3, f4, f7, f8, gov1, tov1]
  clear f0 f11 f13 f3 f4 f7 f8 hK hN av av1
  obtain ⟨v3, f0, f3, f4, f5, f7, f8, hK, hN, av, av3, evv3⟩ := hm
  refine SW.opsEnd rfl ?_
  refine SW.seq ?_
  obtain ⟨n1, hn1, hbi⟩ := obind hbi
  have xln1 := getN_lt hn1
  have xdn1 := getN_map AV.int hn1
  have xon1 : (rx.map AV.int).length = rx.length * 1 := by simp
  have st3 := set_map AV.int 0 rx k xln1
  have sust3 : k + 1 ≤ rx.length := by have := xln1; omega
  refine SW.regX (fun f_ t_ => f_ 0 = AV.int (n) ∧ f_ 3 = v ∧ f_ 5 = v3 ∧ f_ 7 = AV.int ((IntKind.i64.wrap (n + 1))) ∧ f_ 8 = AV.int (((k : Nat) : Int)) ∧ Kept σ0 t_ ∧ σ0.next ≤ t_.next ∧ ArrAt σ0.next t_ v 26 (out.map intsA) out.length 1 ∧ ArrAt σ0.next t_ v3 3 (((rx.set k 0)).map AV.int) ((rx.set k 0)).length 1 ∧ ((rx.set k 0)).length = rx.length) (fun M hM => ?_) (fun fr9 τ3 hm => ?_)
  ·have zv3 := av3
   rcases zv3 with ⟨rfl, nv3, mv3⟩ | ⟨ov3, rfl, gov3, tov3, lov3, hiv3⟩
   ·exfalso; omega
   ·simp [go_sem, f0, f3, f4, f5, f7, f8, xln1, xdn1, xon1, sust3, st3, gov3, tov3]
    refine (hM _ _).2 ⟨?_, ?_, ?_, ?_, ?_, by intro j hj; have hj_ := hK j hj; simp [go_sem, hj_.1, hj_.2, show ¬ j = ov3 by omega], by first | omega | (simp [go_sem]; done) | (simp [go_sem]; omega), av.same' (by simp [go_sem]; try omega) (fun i hi => by have zl := arrAt_lt av i hi; have ze0 := apart_ne (by first | exact ev3v | exact apart_symm evv3) hi; constructor <;> simp [go_sem, ze0]), .inr ⟨ov3, by simp, by simp (disch := omega) [get_alloc_ne, get_set_ne, get_kill_ne, go_sem, f0, f3, f4, f5, f7, f8, xln1, xdn1, xon1, sust3, st3, gov3, tov3], by simp (disch := omega) [go_sem, f0, f3, f4, f5, f7, f8, xln1, xdn1, xon1, sust3, st3, gov3, tov3], lov3, by first | omega | (simp [go_sem]; done) | (simp [go_sem]; omega)⟩, by first | exact qv3 | (simp; done) | (simp [qv3]; done) | (simp [go_sem, f0, f3, f4, f5, f7, f8, xln1, xdn1, xon1, sust3, st3, gov3, tov3]; done)⟩ <;> simp [go_sem, f0, f3, f4, f5, f7, f8, xln1, xdn1, xon1, sust3, st3, gov3, tov3]
  clear f0 f3 f4 f5 f7 f8 hK hN av av3
  obtain ⟨f0, f3, f5, f7, f8, hK, hN, av, av3, qv3⟩ := hm
  refine SW.frzT 5 av3 f5 ?_
  obtain ⟨fr10, hfr⟩ : ∃ x, x = upd fr9 5 (AV.imm ((rx.set k 0)).length (((rx.set k 0)).map AV.int)) := ⟨_, rfl⟩
  rw [show upd fr9 5 _ = fr10 from hfr.symm]
  have f0 : fr10 0 = AV.int (n) := by rw [hfr]; simp [upd, f0]
  have f3 : fr10 3 = v := by rw [hfr]; simp [upd, f3]
  have f5 : fr10 5 = intsA ((rx.set k 0)) := by rw [hfr]; exact if_pos rfl
  have f7 : fr10 7 = AV.int ((IntKind.i64.wrap (n + 1))) := by rw [hfr]; simp [upd, f7]
  have f8 : fr10 8 = AV.int (((k : Nat) : Int)) := by rw [hfr]; simp [upd, f8]
  clear hfr
  obtain ⟨τ4, hτ⟩ : ∃ x, x = (τ3.killA v3) := ⟨_, rfl⟩
  rw [← hτ]
  have hK : Kept σ0 τ4 := by rw [hτ]; exact hK.killA av3
  have hN : σ0.next ≤ τ4.next := by rw [hτ]; simp only [next_set, killA_next]; exact hN
  have av : ArrAt σ0.next τ4 v 26 (out.map intsA) out.length 1 := by rw [hτ]; exact av.killA (by first | exact evv3 | exact apart_symm ev3v)
  clear hτ
  obtain ⟨a, ha, hbi⟩ := obind hbi
  obtain ⟨la, ea⟩ := catL_spec ha
  refine SW.regX (fun f_ t_ => ∃ v4 : AV, f_ 0 = AV.int (n) ∧ f_ 3 = v4 ∧ f_ 7 = AV.int ((IntKind.i64.wrap (n + 1))) ∧ f_ 8 = AV.int (((k : Nat) : Int)) ∧ Kept σ0 t_ ∧ σ0.next ≤ t_.next ∧ ArrAt σ0.next t_ v4 26 (a.map intsA) a.length 1) (fun M hM => ?_) (fun fr11 τ5 hm => ?_)
  ·have zv := av
   rcases zv with ⟨rfl, nv, mv⟩ | ⟨ov, rfl, gov, tov, lov, hiv⟩
   ·simp [go_sem, f0, f3, f5, f7, f8, nv, mv]
    refine (hM _ _).2 ⟨AV.arr (τ4.next + 1) 0 a.length 1, ?_, ?_, ?_, ?_, by intro j hj; have hj_ := hK j hj; simp [go_sem, hj_.1, hj_.2, show ¬ j = τ4.next by omega, show ¬ j = τ4.next + 1 by omega], by first | omega | (simp [go_sem]; done) | (simp [go_sem]; omega), .inr ⟨(τ4.next + 1), rfl, by simp (disch := omega) [get_alloc_ne, get_set_ne, get_kill_ne, go_sem, f0, f3, f5, f7, f8, nv, mv, ea], by simp [go_sem, f0, f3, f5, f7, f8, nv, mv, ea], by omega, by first | (simp [go_sem]; done) | (simp [go_sem]; omega)⟩⟩ <;> simp [go_sem, f0, f3, f5, f7, f8, nv, mv, ea]
   ·have nv_0 : ¬ ov = τ4.next := by omega
    have nv_1 : ¬ ov = τ4.next + 1 := by omega
    have ca_0 : out.length ≤ 9223372036854775806 := by have c_ := la; (try simp at c_); omega
    have ca_1 : (out.length + 1) * 24 ≤ 140737488355328 := by have c_ := la; (try simp at c_); omega
    simp [go_sem, f0, f3, f5, f7, f8, gov, tov, nv_0, nv_1, ca_0, ca_1]
    refine (hM _ _).2 ⟨AV.arr (τ4.next + 1) 0 a.length 1, ?_, ?_, ?_, ?_, by intro j hj; have hj_ := hK j hj; simp [go_sem, hj_.1, hj_.2, show ¬ j = τ4.next by omega, show ¬ j = τ4.next + 1 by omega, show ¬ j = ov by omega], by first | omega | (simp [go_sem]; done) | (simp [go_sem]; omega), .inr ⟨(τ4.next + 1), rfl, by simp (disch := omega) [get_alloc_ne, get_set_ne, get_kill_ne, go_sem, f0, f3, f5, f7, f8, gov, tov, nv_0, nv_1, ca_0, ca_1, ea], by simp [go_sem, f0, f3, f5, f7, f8, gov, tov, nv_0, nv_1, ca_0, ca_1, ea], by omega, by first | (simp [go_sem]; done) | (simp [go_sem]; omega)⟩⟩ <;> simp [go_sem, f0, f3, f5, f7, f8, gov, tov, nv_0, nv_1, ca_0, ca_1, ea]
  clear f0 f3 f5 f7 f8 hK hN av
  obtain ⟨v4, f0, f3, f7, f8, hK, hN, av4⟩ := hm
  refine SW.blk ?_
  refine SW.regX (fun f_ t_ => τ5 = t_ ∧ f_ 0 = AV.int (n) ∧ f_ 3 = v4 ∧ f_ 7 = AV.int ((IntKind.i64.wrap (n + 1))) ∧ f_ 8 = AV.int (((k + 1 : Nat) : Int))) (fun M hM => ?_) (fun fr12 τz5 hm => ?_)
  ·simp [go_sem, f0, f3, f7, f8, hwk]
   refine (hM _ _).2 ⟨rfl, ?_, ?_, ?_, ?_⟩ <;> simp [go_sem, f0, f3, f7, f8, hwk]
  clear f0 f3 f7 f8
  obtain ⟨rfl, f0, f3, f7, f8⟩ := hm
  obtain rfl := Option.some.inj hbi
  exact SW.goal ⟨(((IntKind.i64.wrap (n + 1))).toNat) - (k + 1), by omega, (hJi _ _ _).2 ⟨k + 1, a, v4, rfl, hci, f0, f3, f7, f8, hK, hN, av4⟩⟩
 intro fr13 τ6 hm
 rw [hKLi] at hm
 clear hKLi hruni
 clear f0 f3 f7 f8
 obtain ⟨out, v, rfl, f3, hK, hN, av⟩ := hm
 simp only [Out.on] at hoi
 refine SW.seq ?_
 refine SW.regX (fun f_ t_ => τ6 = t_ ∧ f_ 2 = v) (fun M hM => ?_) (fun fr14 τz6 hm => ?_)
 ·simp [go_sem, f3]
  refine (hM _ _).2 ⟨rfl, ?_⟩ <;> simp [go_sem, f3]
 clear f3
 obtain ⟨rfl, f2⟩ := hm
 obtain rfl := Option.some.inj hoi
 exact SW.ret ⟨v, by simp [go_sem, f2], ⟨v, rfl, av⟩, hK, hN⟩
theorem w_difference_fresh (n : Int) (r : ((List (List Int)))) (h : s_difference_fresh n = some r) : PureA Tryz.prog 92 [AV.int (n)] (sl_List_Int (r)) := pureA_of_own' (O := O_difference_fresh r) (fun σ0 => o_difference_fresh n r h σ0) (by rintro n x τ ⟨v0_, hx, av0_⟩; rw [hx]; exact av0_.frz (DataL.map (fun x => intsA_data x) r))
set_option maxHeartbeats 4000000 in
theorem w_difference_closed (t : List (List Int)) (r : (Bool)) (h : s_difference_closed t = some r) : PureA Tryz.prog 93 [sl_List_Int (t)] (AV.bool (r)) := by
 refine pureA_of_SW (N := 18) Tryz.func93 (by kernel_rfl) rfl (by rw [Tryz.ntmps93]; rfl) (fun σ0 => ?_)
 rw [Tryz.results93]
 obtain ⟨fr0, hfr⟩ : ∃ fr, fr = initFr [sl_List_Int (t)] := ⟨_, rfl⟩
 rw [← hfr]
 have f0 : fr0 0 = sl_List_Int (t) := by rw [hfr]; rfl
 clear hfr
 simp only [s_difference_closed] at h
 refine SW.seq ?_
 refine SW.regX (fun f_ t_ => σ0 = t_ ∧ f_ 0 = sl_List_Int (t)) (fun M hM => ?_) (fun fr1 τz hm => ?_)
 ·simp [go_sem, f0]
  refine (hM _ _).2 ⟨rfl, ?_⟩ <;> simp [go_sem, f0]
 clear f0
 obtain ⟨rfl, f0⟩ := hm
 refine SW.seq ?_
 refine SW.seq ?_
 refine SW.regX (fun f_ t_ => σ0 = t_ ∧ f_ 0 = sl_List_Int (t) ∧ f_ 5 = AV.int (((t.length : Nat) : Int)) ∧ f_ 6 = AV.int (0)) (fun M hM => ?_) (fun fr2 τz1 hm => ?_)
 ·simp [go_sem, f0]
  refine (hM _ _).2 ⟨rfl, ?_, ?_, ?_⟩ <;> simp [go_sem, f0]
 clear f0
 obtain ⟨rfl, f0, f5, f6⟩ := hm
 obtain ⟨oi, hruni, hoi⟩ := obind h
 refine SW.len 0 f0 (fun hbigi => ?_)
 obtain ⟨KLi, hKLi⟩ : ∃ KL : Fr → Mem → Prop, ∀ fr' τ', KL fr' τ' ↔ (oi = .done () ∧ σ0 = τ') := ⟨_, fun _ _ => Iff.rfl⟩
 refine SW.cut KLi ?_ ?_
 ·refine SW.block ?_
  obtain ⟨Ji, hJi⟩ : ∃ J : Nat → Fr → Mem → Prop, ∀ m_ fr' τ', J m_ fr' τ' ↔ (∃ k : Nat, m_ = t.length - k ∧ forN (b1_difference_closed t) (t.length - k) k () = some oi ∧ σ0 = τ' ∧ fr' 0 = sl_List_Int (t) ∧ fr' 5 = AV.int (((t.length : Nat) : Int)) ∧ fr' 6 = AV.int (((k : Nat) : Int))) := ⟨_, fun _ _ _ => Iff.rfl⟩
  refine SW.loop Ji (t.length - 0) ((hJi _ _ _).2 ⟨0, rfl, hruni, rfl, f0, f5, f6⟩) ?_
  clear hruni
  intro m_ fr3 τ hm
  rw [hJi] at hm
  clear f0 f5 f6
  obtain ⟨k, rfl, hruni, rfl, f0, f5, f6⟩ := hm
  refine SW.seq ?_
  refine SW.regX (fun f_ t_ => σ0 = t_ ∧ f_ 0 = sl_List_Int (t) ∧ f_ 5 = AV.int (((t.length : Nat) : Int)) ∧ f_ 6 = AV.int (((k : Nat) : Int)) ∧ f_ 7 = AV.bool ((decide (k < t.length)))) (fun M hM => ?_) (fun fr4 τz2 hm => ?_)
  ·simp [go_sem, f0, f5, f6]
   refine (hM _ _).2 ⟨rfl, ?_, ?_, ?_, ?_⟩ <;> simp [go_sem, f0, f5, f6]
  clear f0 f5 f6
  obtain ⟨rfl, f0, f5, f6, f7⟩ := hm
  refine SW.seq ?_
  refine SW.cond _ f7 (fun vh => ?_) (fun vh => ?_)
  rotate_left
  ·have hk : ¬ k < t.length := by have := of_decide_eq_false vh; omega
   refine SW.exit rfl ?_
   exact SW.goal ((hKLi _ _).2 ⟨forN_end hruni hk, rfl⟩)
  have hkk : k < t.length := by have := of_decide_eq_true vh; omega
  have hwk : IntKind.i64.wrap ((k : Int) + 1) = ((k + 1 : Nat) : Int) := by rw [wrap64_of _ (by omega) (by omega)]; rfl
  obtain ⟨ci, hbi, hci⟩ := forN_step hruni hkk
  simp only [b1_difference_closed] at hbi
  refine SW.skip ?_
  refine SW.seq ?_
  refine SW.block ?_
  refine SW.seq ?_
  refine SW.regX (fun f_ t_ => σ0 = t_ ∧ f_ 0 = sl_List_Int (t) ∧ f_ 3 = AV.int (((k : Nat) : Int)) ∧ f_ 5 = AV.int (((t.length : Nat) : Int)) ∧ f_ 6 = AV.int (((k : Nat) : Int))) (fun M hM => ?_) (fun fr5 τz3 hm => ?_)
  ·simp [go_sem, f0, f5, f6, f7]
   refine (hM _ _).2 ⟨rfl, ?_, ?_, ?_, ?_⟩ <;> simp [go_sem, f0, f5, f6, f7]
  clear f0 f5 f6 f7
  obtain ⟨rfl, f0, f3, f5, f6⟩ := hm
  refine SW.seq ?_
  obtain ⟨x, hx, hbi⟩ := obind hbi
  have xlx := getN_lt hx
  have xdx := getN_map intsA hx
  obtain ⟨n, hn, hbi⟩ := obind hbi
  have xln := getN_lt hn
  have xdn := getN_map AV.int hn
  refine SW.regX (fun f_ t_ => σ0 = t_ ∧ f_ 0 = sl_List_Int (t) ∧ f_ 5 = AV.int (((t.length : Nat) : Int)) ∧ f_ 6 = AV.int (((k : Nat) : Int)) ∧ f_ 16 = AV.bool ((decide (n < 0)))) (fun M hM => ?_) (fun fr6 τz4 hm => ?_)
  ·simp [go_sem, f0, f3, f5, f6, xlx, xdx, intsA, xln, xdn]
   refine (hM _ _).2 ⟨rfl, ?_, ?_, ?_, ?_⟩ <;> simp [go_sem, f0, f3, f5, f6, xlx, xdx, intsA, xln, xdn]
  clear f0 f3 f5 f6
  obtain ⟨rfl, f0, f5, f6, f16⟩ := hm
  refine SW.cond _ f16 (fun vh1 => ?_) (fun vh1 => ?_)
  ·have hbi := condT hbi vh1
   refine SW.seq ?_
   refine SW.regX (fun f_ t_ => σ0 = t_ ∧ f_ 2 = AV.bool (true)) (fun M hM => ?_) (fun fr7 τz5 hm => ?_)
   ·simp [go_sem, f0, f16, f5, f6]
    refine (hM _ _).2 ⟨rfl, ?_⟩ <;> simp [go_sem, f0, f16, f5, f6]
   clear f0 f16 f5 f6
   obtain ⟨rfl, f2⟩ := hm
   obtain rfl := Option.some.inj hbi
   obtain rfl := Option.some.inj hci
   obtain rfl := Option.some.inj hoi
   exact SW.ret ⟨AV.bool (true), by simp [go_sem, f2], .lit _, Keeps.refl _⟩
  have hbi := condF hbi vh1
  refine SW.skip ?_
  refine SW.blk ?_
  refine SW.regX (fun f_ t_ => σ0 = t_ ∧ f_ 0 = sl_List_Int (t) ∧ f_ 5 = AV.int (((t.length : Nat) : Int)) ∧ f_ 6 = AV.int (((k + 1 : Nat) : Int))) (fun M hM => ?_) (fun fr8 τz6 hm => ?_)
  ·simp [go_sem, f0, f16, f5, f6, hwk]
   refine (hM _ _).2 ⟨rfl, ?_, ?_, ?_⟩ <;> simp [go_sem, f0, f16, f5, f6, hwk]
  clear f0 f16 f5 f6
  obtain ⟨rfl, f0, f5, f6⟩ := hm
  obtain rfl := Option.some.inj hbi
  exact SW.goal ⟨t.length - (k + 1), by omega, (hJi _ _ _).2 ⟨k + 1, rfl, hci, rfl, f0, f5, f6⟩⟩
 intro fr9 τ1 hm
 rw [hKLi] at hm
 clear hKLi hruni
 clear f0 f5 f6
 obtain ⟨rfl, rfl⟩ := hm
 simp only [Out.on] at hoi
 refine SW.seq ?_
 refine SW.regX (fun f_ t_ => σ0 = t_ ∧ f_ 2 = AV.bool (false)) (fun M hM => ?_) (fun fr10 τz7 hm => ?_)
 ·simp [go_sem]
  refine (hM _ _).2 ⟨rfl, ?_⟩ <;> simp [go_sem]
 obtain ⟨rfl, f2⟩ := hm
 obtain rfl := Option.some.inj hoi
 exact SW.ret ⟨AV.bool (false), by simp [go_sem, f2], .lit _, Keeps.refl _⟩
end Go.Proofs.YtippinddoldhkaaGreat
