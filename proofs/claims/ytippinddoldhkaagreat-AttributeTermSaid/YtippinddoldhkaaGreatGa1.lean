/-
  Plain functions and the walks that lead to them, by a program of ours (gen.py): scarfjoint/scarfjointref04.Example, scarfjoint/scarfjointlaw21.two, scarfjoint/scarfjointlaw21.bank, slices.Index___string_string_, slices.Contains___string_string_, slices.IndexFunc___scarfjoint/api.NodeType_scarfjoint/api.NodeType_, slices.ContainsFunc___scarfjoint/api.NodeType_scarfjoint/api.NodeType_, slices.IndexFunc___scarfjoint/api.Attr_scarfjoint/api.Attr_, slices.ContainsFunc___scarfjoint/api.Attr_scarfjoint/api.Attr_, slices.IndexFunc___scarfjoint/api.EdgeType_scarfjoint/api.EdgeType_, slices.ContainsFunc___scarfjoint/api.EdgeType_scarfjoint/api.EdgeType_, slices.IndexFunc___int_int_, slices.ContainsFunc___int_int_.
-/
import Derived.Test.YtippinddoldhkaaGreatGd
import Derived.Test.YtippinddoldhkaaGreatGT
import Derived.Test.YtippinddoldhkaaGreatB3
import Derived.Test.YtippinddoldhkaaGreatB7
import Derived.Test.YtippinddoldhkaaGreatGS
import Derived.Test.YtippinddoldhkaaGreatLg
set_option linter.unusedSimpArgs false
set_option linter.unusedVariables false
namespace Go.Proofs.YtippinddoldhkaaGreat
open Go Go.Ew Go.Proofs Go.RowKit
set_option maxRecDepth 100000
set_option maxHeartbeats 4000000 in
theorem w_ref04_Example (r : (Types)) (h : s_ref04_Example = some r) : PureA Tryz.prog 37 [] (AV.agg [nodesA (r.nodes), edgesA (r.edges)]) := by
 refine pureA_of_SW (N := 15) Tryz.func37 (by kernel_rfl) rfl (by rw [Tryz.ntmps37]; rfl) (fun σ0 => ?_)
 rw [Tryz.results37]
 obtain ⟨fr0, hfr⟩ : ∃ fr, fr = initFr [] := ⟨_, rfl⟩
 rw [← hfr]
 clear hfr
 simp only [s_ref04_Example] at h
 refine SW.seq ?_
 refine SW.regX (fun f_ t_ => ∃ b0 : Nat, f_ 0 = AV.ptr b0 0 ∧ Kept σ0 t_ ∧ σ0.next ≤ t_.next ∧ t_.get b0 = some [AV.nils, AV.nils] ∧ b0 < t_.next ∧ σ0.next ≤ b0) (fun M hM => ?_) (fun fr1 τ hm => ?_)
 ·simp [go_sem]
  refine (hM _ _).2 ⟨σ0.next, ?_, by intro j hj; simp [go_sem, show ¬ j = σ0.next by omega], by first | omega | (simp [go_sem]; done) | (simp [go_sem]; omega), by simp (disch := omega) [get_alloc_ne, get_set_ne, get_kill_ne, go_sem], by first | omega | (simp [go_sem]; done) | (simp [go_sem]; omega), by omega⟩ <;> simp [go_sem]
 obtain ⟨b0, f0, hK, hN, gb0, ub0, wb0⟩ := hm
 refine SW.seq ?_
 refine SW.regX (fun f_ t_ => ∃ l : Nat, ∃ l1 : Nat, ∃ l2 : Nat, ∃ l3 : Nat, ∃ v : AV, f_ 0 = AV.ptr b0 0 ∧ Kept σ0 t_ ∧ σ0.next ≤ t_.next ∧ t_.get b0 = some [AV.arr l3 0 4 4, v] ∧ b0 < t_.next ∧ t_.get l = some [AV.str (([98, 97, 108, 97, 110, 99, 101] : List UInt8)), AV.int (-1000), AV.int (1000), AV.nils] ∧ l < t_.next ∧ t_.get l1 = some [AV.str (([111, 112, 101, 110] : List UInt8)), AV.str (([99, 108, 111, 115, 101, 100] : List UInt8))] ∧ l1 < t_.next ∧ t_.get l2 = some [AV.str (([115, 116, 97, 116, 101] : List UInt8)), AV.int (0), AV.int (1), AV.arr l1 0 2 1] ∧ l2 < t_.next ∧ t_.get l3 = some [AV.str (([65, 99, 99, 111, 117, 110, 116] : List UInt8)), AV.int (-1), AV.bool (true), AV.arr l 0 1 4, AV.str (([67, 97, 115, 104] : List UInt8)), AV.int (0), AV.bool (false), AV.nils, AV.str (([76, 111, 97, 110] : List UInt8)), AV.int (0), AV.bool (false), AV.arr l2 0 1 4, AV.str (([80, 101, 114, 115, 111, 110] : List UInt8)), AV.int (-1), AV.bool (false), AV.nils] ∧ l3 < t_.next ∧ ArrAt σ0.next t_ v 97 ((([(⟨([111, 119, 110, 115] : List UInt8), 3, 0, 0, -1, 1, 1⟩ : EdgeT), (⟨([112, 97, 121, 115] : List UInt8), 1, 1, 0, -1, 0, -1⟩ : EdgeT)] : List EdgeT)).flatMap edgeC) (([(⟨([111, 119, 110, 115] : List UInt8), 3, 0, 0, -1, 1, 1⟩ : EdgeT), (⟨([112, 97, 121, 115] : List UInt8), 1, 1, 0, -1, 0, -1⟩ : EdgeT)] : List EdgeT)).length 7 ∧ (∀ i, idOf v = some i → ¬ i = b0) ∧ σ0.next ≤ l ∧ ¬ b0 = l ∧ (∀ i, idOf v = some i → ¬ i = l) ∧ σ0.next ≤ l1 ∧ ¬ b0 = l1 ∧ ¬ l = l1 ∧ (∀ i, idOf v = some i → ¬ i = l1) ∧ σ0.next ≤ l2 ∧ ¬ b0 = l2 ∧ ¬ l = l2 ∧ ¬ l1 = l2 ∧ (∀ i, idOf v = some i → ¬ i = l2) ∧ σ0.next ≤ l3 ∧ ¬ b0 = l3 ∧ ¬ l = l3 ∧ ¬ l1 = l3 ∧ ¬ l2 = l3 ∧ (∀ i, idOf v = some i → ¬ i = l3)) (fun M hM => ?_) (fun fr2 τ1 hm => ?_)
 ·have nb0_0 : ¬ b0 = τ.next := by omega
  have nb0_1 : ¬ b0 = τ.next + 1 := by omega
  have nb0_2 : ¬ b0 = τ.next + 2 := by omega
  have nb0_3 : ¬ b0 = τ.next + 3 := by omega
  have nb0_4 : ¬ b0 = τ.next + 4 := by omega
  simp [go_sem, f0, gb0, nb0_0, nb0_1, nb0_2, nb0_3, nb0_4]
  refine (hM _ _).2 ⟨τ.next, (τ.next + 1), (τ.next + 2), (τ.next + 3), AV.arr (τ.next + 4) 0 (([(⟨([111, 119, 110, 115] : List UInt8), 3, 0, 0, -1, 1, 1⟩ : EdgeT), (⟨([112, 97, 121, 115] : List UInt8), 1, 1, 0, -1, 0, -1⟩ : EdgeT)] : List EdgeT)).length 7, ?_, by intro j hj; have hj_ := hK j hj; simp [go_sem, hj_.1, hj_.2, show ¬ j = τ.next by omega, show ¬ j = τ.next + 1 by omega, show ¬ j = τ.next + 2 by omega, show ¬ j = τ.next + 3 by omega, show ¬ j = τ.next + 4 by omega, show ¬ j = b0 by omega], by first | omega | (simp [go_sem]; done) | (simp [go_sem]; omega), by simp (disch := omega) [get_alloc_ne, get_set_ne, get_kill_ne, go_sem, f0, gb0, nb0_0, nb0_1, nb0_2, nb0_3, nb0_4], by first | omega | (simp [go_sem]; done) | (simp [go_sem]; omega), by simp (disch := omega) [get_alloc_ne, get_set_ne, get_kill_ne, go_sem, f0, gb0, nb0_0, nb0_1, nb0_2, nb0_3, nb0_4], by first | omega | (simp [go_sem]; done) | (simp [go_sem]; omega), by simp (disch := omega) [get_alloc_ne, get_set_ne, get_kill_ne, go_sem, f0, gb0, nb0_0, nb0_1, nb0_2, nb0_3, nb0_4], by first | omega | (simp [go_sem]; done) | (simp [go_sem]; omega), by simp (disch := omega) [get_alloc_ne, get_set_ne, get_kill_ne, go_sem, f0, gb0, nb0_0, nb0_1, nb0_2, nb0_3, nb0_4], by first | omega | (simp [go_sem]; done) | (simp [go_sem]; omega), by simp (disch := omega) [get_alloc_ne, get_set_ne, get_kill_ne, go_sem, f0, gb0, nb0_0, nb0_1, nb0_2, nb0_3, nb0_4], by first | omega | (simp [go_sem]; done) | (simp [go_sem]; omega), .inr ⟨(τ.next + 4), rfl, by simp (disch := omega) [get_alloc_ne, get_set_ne, get_kill_ne, go_sem, f0, gb0, nb0_0, nb0_1, nb0_2, nb0_3, nb0_4, edgeC], by simp [go_sem, f0, gb0, nb0_0, nb0_1, nb0_2, nb0_3, nb0_4], by omega, by first | (simp [go_sem]; done) | (simp [go_sem]; omega)⟩, by intro i hi; first | (simp [idOf] at hi; done) | (simp [idOf] at hi; omega), by omega, by omega, by intro i hi; first | (simp [idOf] at hi; done) | (simp [idOf] at hi; omega), by omega, by omega, by omega, by intro i hi; first | (simp [idOf] at hi; done) | (simp [idOf] at hi; omega), by omega, by omega, by omega, by omega, by intro i hi; first | (simp [idOf] at hi; done) | (simp [idOf] at hi; omega), by omega, by omega, by omega, by omega, by omega, by intro i hi; first | (simp [idOf] at hi; done) | (simp [idOf] at hi; omega)⟩ <;> simp [go_sem, f0, gb0, nb0_0, nb0_1, nb0_2, nb0_3, nb0_4]
 clear f0 hK hN gb0 ub0
 obtain ⟨l, l1, l2, l3, v, f0, hK, hN, gb0, ub0, gl, ul, gl1, ul1, gl2, ul2, gl3, ul3, av, evb0, wl, eb0l, evl, wl1, eb0l1, ell1, evl1, wl2, eb0l2, ell2, el1l2, evl2, wl3, eb0l3, ell3, el1l3, el2l3, evl3⟩ := hm
 obtain rfl := Option.some.inj h
 exact SW.ret ⟨AV.agg [AV.arr l3 0 4 4, v], by simp [go_sem, f0, gb0, gl, gl1, gl2, gl3], frz_aggL (frzL_c (frz_arrL wl3 gl3 (frzL_c (.lit _) (frzL_c (.lit _) (frzL_c (.lit _) (frzL_c (frz_arrL wl gl (frzL_c (.lit _) (frzL_c (.lit _) (frzL_c (.lit _) (frzL_c (.nils) (frzL_n)))))) (frzL_c (.lit _) (frzL_c (.lit _) (frzL_c (.lit _) (frzL_c (.nils) (frzL_c (.lit _) (frzL_c (.lit _) (frzL_c (.lit _) (frzL_c (frz_arrL wl2 gl2 (frzL_c (.lit _) (frzL_c (.lit _) (frzL_c (.lit _) (frzL_c (frz_arrL wl1 gl1 (frzL_c (.lit _) (frzL_c (.lit _) (frzL_n)))) (frzL_n)))))) (frzL_c (.lit _) (frzL_c (.lit _) (frzL_c (.lit _) (frzL_c (.nils) (frzL_n)))))))))))))))))) (frzL_c (av.frz (DataL.flatMap gd_edgeC (([(⟨([111, 119, 110, 115] : List UInt8), 3, 0, 0, -1, 1, 1⟩ : EdgeT), (⟨([112, 97, 121, 115] : List UInt8), 1, 1, 0, -1, 0, -1⟩ : EdgeT)] : List EdgeT)))) (frzL_n))), hK.keeps⟩
def O_law21_two (r : (GPattern)) (n : Nat) (x : AV) (τ : Mem) : Prop := ∃ v0_ v1_ v2_ v3_ : AV, x = AV.agg [v0_, v1_, v2_, AV.int (r.vars), v3_] ∧ ArrAt n τ v0_ 3 (r.graph.nodes.map AV.int) r.graph.nodes.length 1 ∧ ArrAt n τ v1_ 109 (r.graph.edges.flatMap e3C) r.graph.edges.length 3 ∧ ArrAt n τ v2_ 113 (r.slots.flatMap GSlotC) r.slots.length 4 ∧ ArrAt n τ v3_ 86 (r.tests.flatMap GTestC) r.tests.length 5 ∧ Apart v0_ v1_ ∧ Apart v0_ v2_ ∧ Apart v1_ v2_ ∧ Apart v0_ v3_ ∧ Apart v1_ v3_ ∧ Apart v2_ v3_
set_option maxHeartbeats 4000000 in
theorem o_law21_two (x : GTest) (r : (GPattern)) (h : s_law21_two x = some r) (σ0 : Mem) : CallA Tryz.prog 38 [AV.agg [AV.int (x.kind), AV.int (x.left.var), AV.int (x.left.add), AV.int (x.right.var), AV.int (x.right.add)]] σ0 (fun x τ => O_law21_two r σ0.next x τ ∧ Kept σ0 τ ∧ σ0.next ≤ τ.next) := by
 refine callA_of_SW (N := 13) Tryz.func38 (by kernel_rfl) rfl (by rw [Tryz.ntmps38]; rfl) ?_
 rw [Tryz.results38]
 obtain ⟨fr0, hfr⟩ : ∃ fr, fr = initFr [AV.agg [AV.int (x.kind), AV.int (x.left.var), AV.int (x.left.add), AV.int (x.right.var), AV.int (x.right.add)]] := ⟨_, rfl⟩
 rw [← hfr]
 have f0 : fr0 0 = AV.agg [AV.int (x.kind), AV.int (x.left.var), AV.int (x.left.add), AV.int (x.right.var), AV.int (x.right.add)] := by rw [hfr]; rfl
 clear hfr
 simp only [s_law21_two] at h
 refine SW.seq ?_
 refine SW.regX (fun f_ t_ => ∃ b1 : Nat, ∃ b2 : Nat, f_ 1 = AV.ptr b1 0 ∧ f_ 2 = AV.ptr b2 0 ∧ Kept σ0 t_ ∧ σ0.next ≤ t_.next ∧ t_.get b1 = some [AV.int (x.kind), AV.int (x.left.var), AV.int (x.left.add), AV.int (x.right.var), AV.int (x.right.add)] ∧ b1 < t_.next ∧ t_.get b2 = some [AV.nils, AV.nils, AV.nils, AV.int (0), AV.nils] ∧ b2 < t_.next ∧ σ0.next ≤ b1 ∧ σ0.next ≤ b2 ∧ ¬ b1 = b2) (fun M hM => ?_) (fun fr1 τ hm => ?_)
 ·simp [go_sem, f0]
  refine (hM _ _).2 ⟨σ0.next, (σ0.next + 1), ?_, ?_, by intro j hj; simp [go_sem, show ¬ j = σ0.next by omega, show ¬ j = σ0.next + 1 by omega], by first | omega | (simp [go_sem]; done) | (simp [go_sem]; omega), by simp (disch := omega) [get_alloc_ne, get_set_ne, get_kill_ne, go_sem, f0], by first | omega | (simp [go_sem]; done) | (simp [go_sem]; omega), by simp (disch := omega) [get_alloc_ne, get_set_ne, get_kill_ne, go_sem, f0], by first | omega | (simp [go_sem]; done) | (simp [go_sem]; omega), by omega, by omega, by omega⟩ <;> simp [go_sem, f0]
 clear f0
 obtain ⟨b1, b2, f1, f2, hK, hN, gb1, ub1, gb2, ub2, wb1, wb2, eb1b2⟩ := hm
 refine SW.seq ?_
 refine SW.regX (fun f_ t_ => ∃ v : AV, ∃ v1 : AV, ∃ v2 : AV, f_ 2 = AV.ptr b2 0 ∧ Kept σ0 t_ ∧ σ0.next ≤ t_.next ∧ t_.get b2 = some [v, AV.nils, v1, AV.int (2), v2] ∧ b2 < t_.next ∧ ArrAt σ0.next t_ v 3 ((([0, 0] : List Int)).map AV.int) (([0, 0] : List Int)).length 1 ∧ ArrAt σ0.next t_ v1 113 ((([(⟨0, 0, (⟨0, 0⟩ : GTerm)⟩ : GSlot), (⟨1, 0, (⟨1, 0⟩ : GTerm)⟩ : GSlot)] : List GSlot)).flatMap GSlotC) (([(⟨0, 0, (⟨0, 0⟩ : GTerm)⟩ : GSlot), (⟨1, 0, (⟨1, 0⟩ : GTerm)⟩ : GSlot)] : List GSlot)).length 4 ∧ ArrAt σ0.next t_ v2 86 ((([x] : List GTest)).flatMap GTestC) (([x] : List GTest)).length 5 ∧ (∀ i, idOf v = some i → ¬ i = b2) ∧ (∀ i, idOf v1 = some i → ¬ i = b2) ∧ (∀ i, idOf v2 = some i → ¬ i = b2) ∧ Apart v v1 ∧ Apart v v2 ∧ Apart v1 v2) (fun M hM => ?_) (fun fr2 τ1 hm => ?_)
 ·have nb1_0 : ¬ b1 = τ.next := by omega
  have nb1_1 : ¬ b1 = τ.next + 1 := by omega
  have nb1_2 : ¬ b1 = τ.next + 2 := by omega
  have nb2_0 : ¬ b2 = τ.next := by omega
  have nb2_1 : ¬ b2 = τ.next + 1 := by omega
  have nb2_2 : ¬ b2 = τ.next + 2 := by omega
  have nb1_b2 : ¬ b1 = b2 := by omega
  simp [go_sem, f1, f2, gb1, gb2, nb1_0, nb1_1, nb1_2, nb2_0, nb2_1, nb2_2, nb1_b2]
  refine (hM _ _).2 ⟨AV.arr τ.next 0 (([0, 0] : List Int)).length 1, AV.arr (τ.next + 1) 0 (([(⟨0, 0, (⟨0, 0⟩ : GTerm)⟩ : GSlot), (⟨1, 0, (⟨1, 0⟩ : GTerm)⟩ : GSlot)] : List GSlot)).length 4, AV.arr (τ.next + 2) 0 (([x] : List GTest)).length 5, ?_, by intro j hj; have hj_ := hK j hj; simp [go_sem, hj_.1, hj_.2, show ¬ j = τ.next by omega, show ¬ j = τ.next + 1 by omega, show ¬ j = τ.next + 2 by omega, show ¬ j = b2 by omega], by first | omega | (simp [go_sem]; done) | (simp [go_sem]; omega), by simp (disch := omega) [get_alloc_ne, get_set_ne, get_kill_ne, go_sem, f1, f2, gb1, gb2, nb1_0, nb1_1, nb1_2, nb2_0, nb2_1, nb2_2, nb1_b2], by first | omega | (simp [go_sem]; done) | (simp [go_sem]; omega), .inr ⟨τ.next, rfl, by simp (disch := omega) [get_alloc_ne, get_set_ne, get_kill_ne, go_sem, f1, f2, gb1, gb2, nb1_0, nb1_1, nb1_2, nb2_0, nb2_1, nb2_2, nb1_b2], by simp [go_sem, f1, f2, gb1, gb2, nb1_0, nb1_1, nb1_2, nb2_0, nb2_1, nb2_2, nb1_b2], by omega, by first | (simp [go_sem]; done) | (simp [go_sem]; omega)⟩, .inr ⟨(τ.next + 1), rfl, by simp (disch := omega) [get_alloc_ne, get_set_ne, get_kill_ne, go_sem, f1, f2, gb1, gb2, nb1_0, nb1_1, nb1_2, nb2_0, nb2_1, nb2_2, nb1_b2, GSlotC], by simp [go_sem, f1, f2, gb1, gb2, nb1_0, nb1_1, nb1_2, nb2_0, nb2_1, nb2_2, nb1_b2], by omega, by first | (simp [go_sem]; done) | (simp [go_sem]; omega)⟩, .inr ⟨(τ.next + 2), rfl, by simp (disch := omega) [get_alloc_ne, get_set_ne, get_kill_ne, go_sem, f1, f2, gb1, gb2, nb1_0, nb1_1, nb1_2, nb2_0, nb2_1, nb2_2, nb1_b2, GTestC], by simp [go_sem, f1, f2, gb1, gb2, nb1_0, nb1_1, nb1_2, nb2_0, nb2_1, nb2_2, nb1_b2], by omega, by first | (simp [go_sem]; done) | (simp [go_sem]; omega)⟩, by intro i hi; first | (simp [idOf] at hi; done) | (simp [idOf] at hi; omega), by intro i hi; first | (simp [idOf] at hi; done) | (simp [idOf] at hi; omega), by intro i hi; first | (simp [idOf] at hi; done) | (simp [idOf] at hi; omega), by first | exact evv1 | exact apart_symm ev1v | (intro i h1 h2; simp [idOf] at h1; done) | (intro i h1 h2; simp [idOf] at h2; done) | (intro i h1 h2; simp [idOf] at h1; simp [idOf] at h2; omega), by first | exact evv2 | exact apart_symm ev2v | (intro i h1 h2; simp [idOf] at h1; done) | (intro i h1 h2; simp [idOf] at h2; done) | (intro i h1 h2; simp [idOf] at h1; simp [idOf] at h2; omega), by first | exact ev1v2 | exact apart_symm ev2v1 | (intro i h1 h2; simp [idOf] at h1; done) | (intro i h1 h2; simp [idOf] at h2; done) | (intro i h1 h2; simp [idOf] at h1; simp [idOf] at h2; omega)⟩ <;> simp [go_sem, f1, f2, gb1, gb2, nb1_0, nb1_1, nb1_2, nb2_0, nb2_1, nb2_2, nb1_b2]
 clear f1 f2 hK hN gb1 ub1 gb2 ub2
 obtain ⟨v, v1, v2, f2, hK, hN, gb2, ub2, av, av1, av2, evb2, ev1b2, ev2b2, evv1, evv2, ev1v2⟩ := hm
 obtain rfl := Option.some.inj h
 exact SW.ret ⟨AV.agg [v, AV.nils, v1, AV.int (2), v2], by simp [go_sem, f2, gb2], ⟨v, AV.nils, v1, v2, rfl, av, .inl ⟨rfl, rfl, rfl⟩, av1, av2, (fun i h h' => by cases h'), (by first | exact evv1 | exact fun i h h' => ev1v i h' h), (fun i h => by cases h), (by first | exact evv2 | exact fun i h h' => ev2v i h' h), (fun i h => by cases h), (by first | exact ev1v2 | exact fun i h h' => ev2v1 i h' h)⟩, hK, hN⟩
theorem w_law21_two (x : GTest) (r : (GPattern)) (h : s_law21_two x = some r) : PureA Tryz.prog 38 [AV.agg [AV.int (x.kind), AV.int (x.left.var), AV.int (x.left.add), AV.int (x.right.var), AV.int (x.right.add)]] (AV.agg [intsA (r.graph.nodes), e3sA (r.graph.edges), sl_GSlot (r.slots), AV.int (r.vars), sl_GTest (r.tests)]) := pureA_of_own' (O := O_law21_two r) (fun σ0 => o_law21_two x r h σ0) (by rintro n x τ ⟨v0_, v1_, v2_, v3_, hx, av0_, av1_, av2_, av3_, ev0_v1_, ev0_v2_, ev1_v2_, ev0_v3_, ev1_v3_, ev2_v3_⟩; rw [hx]; exact frz_aggL (frzL_c (av0_.frz (DataL.map (fun _ => .lit _) r.graph.nodes)) (frzL_c (av1_.frz (DataL.flatMap gd_e3C r.graph.edges)) (frzL_c (av2_.frz (DataL.flatMap gd_GSlotC r.slots)) (frzL_c (.lit _) (frzL_c (av3_.frz (DataL.flatMap gd_GTestC r.tests)) (frzL_n)))))))
set_option maxHeartbeats 4000000 in
theorem w_law21_bank (r : (GHost)) (h : s_law21_bank = some r) : PureA Tryz.prog 39 [] (AV.agg [intsA (r.graph.nodes), e3sA (r.graph.edges), sl_List_Int (r.values)]) := by
 refine pureA_of_SW (N := 10) Tryz.func39 (by kernel_rfl) rfl (by rw [Tryz.ntmps39]; rfl) (fun σ0 => ?_)
 rw [Tryz.results39]
 obtain ⟨fr0, hfr⟩ : ∃ fr, fr = initFr [] := ⟨_, rfl⟩
 rw [← hfr]
 clear hfr
 simp only [s_law21_bank] at h
 refine SW.seq ?_
 refine SW.regX (fun f_ t_ => ∃ b0 : Nat, f_ 0 = AV.ptr b0 0 ∧ Kept σ0 t_ ∧ σ0.next ≤ t_.next ∧ t_.get b0 = some [AV.nils, AV.nils, AV.nils] ∧ b0 < t_.next ∧ σ0.next ≤ b0) (fun M hM => ?_) (fun fr1 τ hm => ?_)
 ·simp [go_sem]
  refine (hM _ _).2 ⟨σ0.next, ?_, by intro j hj; simp [go_sem, show ¬ j = σ0.next by omega], by first | omega | (simp [go_sem]; done) | (simp [go_sem]; omega), by simp (disch := omega) [get_alloc_ne, get_set_ne, get_kill_ne, go_sem], by first | omega | (simp [go_sem]; done) | (simp [go_sem]; omega), by omega⟩ <;> simp [go_sem]
 obtain ⟨b0, f0, hK, hN, gb0, ub0, wb0⟩ := hm
 refine SW.seq ?_
 refine SW.regX (fun f_ t_ => ∃ l : Nat, ∃ l1 : Nat, ∃ l2 : Nat, ∃ v : AV, ∃ v1 : AV, f_ 0 = AV.ptr b0 0 ∧ Kept σ0 t_ ∧ σ0.next ≤ t_.next ∧ t_.get b0 = some [v, v1, AV.arr l2 0 3 1] ∧ b0 < t_.next ∧ t_.get l = some [AV.int (10)] ∧ l < t_.next ∧ t_.get l1 = some [AV.int (5)] ∧ l1 < t_.next ∧ t_.get l2 = some [AV.nils, AV.arr l 0 1 1, AV.arr l1 0 1 1] ∧ l2 < t_.next ∧ ArrAt σ0.next t_ v 3 ((([3, 1, 1] : List Int)).map AV.int) (([3, 1, 1] : List Int)).length 1 ∧ ArrAt σ0.next t_ v1 109 ((([(⟨0, 0, 1⟩ : E3), (⟨0, 0, 2⟩ : E3)] : List E3)).flatMap e3C) (([(⟨0, 0, 1⟩ : E3), (⟨0, 0, 2⟩ : E3)] : List E3)).length 3 ∧ (∀ i, idOf v = some i → ¬ i = b0) ∧ (∀ i, idOf v1 = some i → ¬ i = b0) ∧ σ0.next ≤ l ∧ ¬ b0 = l ∧ (∀ i, idOf v = some i → ¬ i = l) ∧ (∀ i, idOf v1 = some i → ¬ i = l) ∧ σ0.next ≤ l1 ∧ ¬ b0 = l1 ∧ ¬ l = l1 ∧ (∀ i, idOf v = some i → ¬ i = l1) ∧ (∀ i, idOf v1 = some i → ¬ i = l1) ∧ σ0.next ≤ l2 ∧ ¬ b0 = l2 ∧ ¬ l = l2 ∧ ¬ l1 = l2 ∧ (∀ i, idOf v = some i → ¬ i = l2) ∧ (∀ i, idOf v1 = some i → ¬ i = l2) ∧ Apart v v1) (fun M hM => ?_) (fun fr2 τ1 hm => ?_)
 ·have nb0_0 : ¬ b0 = τ.next := by omega
  have nb0_1 : ¬ b0 = τ.next + 1 := by omega
  have nb0_2 : ¬ b0 = τ.next + 2 := by omega
  have nb0_3 : ¬ b0 = τ.next + 3 := by omega
  have nb0_4 : ¬ b0 = τ.next + 4 := by omega
  simp [go_sem, f0, gb0, nb0_0, nb0_1, nb0_2, nb0_3, nb0_4]
  refine (hM _ _).2 ⟨(τ.next + 2), (τ.next + 3), (τ.next + 4), AV.arr τ.next 0 (([3, 1, 1] : List Int)).length 1, AV.arr (τ.next + 1) 0 (([(⟨0, 0, 1⟩ : E3), (⟨0, 0, 2⟩ : E3)] : List E3)).length 3, ?_, by intro j hj; have hj_ := hK j hj; simp [go_sem, hj_.1, hj_.2, show ¬ j = τ.next by omega, show ¬ j = τ.next + 1 by omega, show ¬ j = τ.next + 2 by omega, show ¬ j = τ.next + 3 by omega, show ¬ j = τ.next + 4 by omega, show ¬ j = b0 by omega], by first | omega | (simp [go_sem]; done) | (simp [go_sem]; omega), by simp (disch := omega) [get_alloc_ne, get_set_ne, get_kill_ne, go_sem, f0, gb0, nb0_0, nb0_1, nb0_2, nb0_3, nb0_4], by first | omega | (simp [go_sem]; done) | (simp [go_sem]; omega), by simp (disch := omega) [get_alloc_ne, get_set_ne, get_kill_ne, go_sem, f0, gb0, nb0_0, nb0_1, nb0_2, nb0_3, nb0_4], by first | omega | (simp [go_sem]; done) | (simp [go_sem]; omega), by simp (disch := omega) [get_alloc_ne, get_set_ne, get_kill_ne, go_sem, f0, gb0, nb0_0, nb0_1, nb0_2, nb0_3, nb0_4], by first | omega | (simp [go_sem]; done) | (simp [go_sem]; omega), by simp (disch := omega) [get_alloc_ne, get_set_ne, get_kill_ne, go_sem, f0, gb0, nb0_0, nb0_1, nb0_2, nb0_3, nb0_4], by first | omega | (simp [go_sem]; done) | (simp [go_sem]; omega), .inr ⟨τ.next, rfl, by simp (disch := omega) [get_alloc_ne, get_set_ne, get_kill_ne, go_sem, f0, gb0, nb0_0, nb0_1, nb0_2, nb0_3, nb0_4], by simp [go_sem, f0, gb0, nb0_0, nb0_1, nb0_2, nb0_3, nb0_4], by omega, by first | (simp [go_sem]; done) | (simp [go_sem]; omega)⟩, .inr ⟨(τ.next + 1), rfl, by simp (disch := omega) [get_alloc_ne, get_set_ne, get_kill_ne, go_sem, f0, gb0, nb0_0, nb0_1, nb0_2, nb0_3, nb0_4, e3C], by simp [go_sem, f0, gb0, nb0_0, nb0_1, nb0_2, nb0_3, nb0_4], by omega, by first | (simp [go_sem]; done) | (simp [go_sem]; omega)⟩, by intro i hi; first | (simp [idOf] at hi; done) | (simp [idOf] at hi; omega), by intro i hi; first | (simp [idOf] at hi; done) | (simp [idOf] at hi; omega), by omega, by omega, by intro i hi; first | (simp [idOf] at hi; done) | (simp [idOf] at hi; omega), by intro i hi; first | (simp [idOf] at hi; done) | (simp [idOf] at hi; omega), by omega, by omega, by omega, by intro i hi; first | (simp [idOf] at hi; done) | (simp [idOf] at hi; omega), by intro i hi; first | (simp [idOf] at hi; done) | (simp [idOf] at hi; omega), by omega, by omega, by omega, by omega, by intro i hi; first | (simp [idOf] at hi; done) | (simp [idOf] at hi; omega), by intro i hi; first | (simp [idOf] at hi; done) | (simp [idOf] at hi; omega), by first | exact evv1 | exact apart_symm ev1v | (intro i h1 h2; simp [idOf] at h1; done) | (intro i h1 h2; simp [idOf] at h2; done) | (intro i h1 h2; simp [idOf] at h1; simp [idOf] at h2; omega)⟩ <;> simp [go_sem, f0, gb0, nb0_0, nb0_1, nb0_2, nb0_3, nb0_4]
 clear f0 hK hN gb0 ub0
 obtain ⟨l, l1, l2, v, v1, f0, hK, hN, gb0, ub0, gl, ul, gl1, ul1, gl2, ul2, av, av1, evb0, ev1b0, wl, eb0l, evl, ev1l, wl1, eb0l1, ell1, evl1, ev1l1, wl2, eb0l2, ell2, el1l2, evl2, ev1l2, evv1⟩ := hm
 obtain rfl := Option.some.inj h
 exact SW.ret ⟨AV.agg [v, v1, AV.arr l2 0 3 1], by simp [go_sem, f0, gb0, gl, gl1, gl2], frz_aggL (frzL_c (av.frz (DataL.map (fun _ => .lit _) (([3, 1, 1] : List Int)))) (frzL_c (av1.frz (DataL.flatMap gd_e3C (([(⟨0, 0, 1⟩ : E3), (⟨0, 0, 2⟩ : E3)] : List E3)))) (frzL_c (frz_arrL wl2 gl2 (frzL_c (.nils) (frzL_c (frz_arrL wl gl (frzL_c (.lit _) (frzL_n))) (frzL_c (frz_arrL wl1 gl1 (frzL_c (.lit _) (frzL_n))) (frzL_n))))) (frzL_n)))), hK.keeps⟩
set_option maxHeartbeats 4000000 in
theorem w_slices_IndexFunc_int (s : List Int) (f : Int → Option (Bool)) (fg : FuncId) (fc : List AV) (fev : ∀ (a0 : Int) (r : Bool), f a0 = some r → PureA Tryz.prog fg ([AV.int (a0)] ++ fc) (AV.bool (r))) (r : (Int)) (h : s_slices_IndexFunc_int s f = some r) : PureA Tryz.prog 107 [intsA (s), AV.fn fg fc] (AV.int (r)) := by
 refine pureA_of_SW (N := 19) Tryz.func107 (by kernel_rfl) rfl (by rw [Tryz.ntmps107]; rfl) (fun σ0 => ?_)
 rw [Tryz.results107]
 obtain ⟨fr0, hfr⟩ : ∃ fr, fr = initFr [intsA (s), AV.fn fg fc] := ⟨_, rfl⟩
 rw [← hfr]
 have f0 : fr0 0 = intsA (s) := by rw [hfr]; rfl
 have f1 : fr0 1 = AV.fn fg fc := by rw [hfr]; rfl
 clear hfr
 simp only [s_slices_IndexFunc_int] at h
 refine SW.seq ?_
 refine SW.regX (fun f_ t_ => σ0 = t_ ∧ f_ 0 = intsA (s) ∧ f_ 1 = AV.fn fg fc) (fun M hM => ?_) (fun fr1 τz hm => ?_)
 ·simp [go_sem, f0, f1]
  refine (hM _ _).2 ⟨rfl, ?_, ?_⟩ <;> simp [go_sem, f0, f1]
 clear f0 f1
 obtain ⟨rfl, f0, f1⟩ := hm
 refine SW.seq ?_
 refine SW.seq ?_
 refine SW.regX (fun f_ t_ => σ0 = t_ ∧ f_ 0 = intsA (s) ∧ f_ 1 = AV.fn fg fc ∧ f_ 7 = AV.int (((s.length : Nat) : Int)) ∧ f_ 8 = AV.int (0)) (fun M hM => ?_) (fun fr2 τz1 hm => ?_)
 ·simp [go_sem, f0, f1]
  refine (hM _ _).2 ⟨rfl, ?_, ?_, ?_, ?_⟩ <;> simp [go_sem, f0, f1]
 clear f0 f1
 obtain ⟨rfl, f0, f1, f7, f8⟩ := hm
 obtain ⟨oi, hruni, hoi⟩ := obind h
 refine SW.len 0 f0 (fun hbigi => ?_)
 obtain ⟨KLi, hKLi⟩ : ∃ KL : Fr → Mem → Prop, ∀ fr' τ', KL fr' τ' ↔ (oi = .done () ∧ σ0 = τ') := ⟨_, fun _ _ => Iff.rfl⟩
 refine SW.cut KLi ?_ ?_
 ·refine SW.block ?_
  obtain ⟨Ji, hJi⟩ : ∃ J : Nat → Fr → Mem → Prop, ∀ m_ fr' τ', J m_ fr' τ' ↔ (∃ k : Nat, m_ = s.length - k ∧ forN (b1_slices_IndexFunc_int s f) (s.length - k) k () = some oi ∧ σ0 = τ' ∧ fr' 0 = intsA (s) ∧ fr' 1 = AV.fn fg fc ∧ fr' 7 = AV.int (((s.length : Nat) : Int)) ∧ fr' 8 = AV.int (((k : Nat) : Int))) := ⟨_, fun _ _ _ => Iff.rfl⟩
  refine SW.loop Ji (s.length - 0) ((hJi _ _ _).2 ⟨0, rfl, hruni, rfl, f0, f1, f7, f8⟩) ?_
  clear hruni
  intro m_ fr3 τ hm
  rw [hJi] at hm
  clear f0 f1 f7 f8
  obtain ⟨k, rfl, hruni, rfl, f0, f1, f7, f8⟩ := hm
  refine SW.seq ?_
  refine SW.regX (fun f_ t_ => σ0 = t_ ∧ f_ 0 = intsA (s) ∧ f_ 1 = AV.fn fg fc ∧ f_ 7 = AV.int (((s.length : Nat) : Int)) ∧ f_ 8 = AV.int (((k : Nat) : Int)) ∧ f_ 9 = AV.bool ((decide (k < s.length)))) (fun M hM => ?_) (fun fr4 τz2 hm => ?_)
  ·simp [go_sem, f0, f1, f7, f8]
   refine (hM _ _).2 ⟨rfl, ?_, ?_, ?_, ?_, ?_⟩ <;> simp [go_sem, f0, f1, f7, f8]
  clear f0 f1 f7 f8
  obtain ⟨rfl, f0, f1, f7, f8, f9⟩ := hm
  refine SW.seq ?_
  refine SW.cond _ f9 (fun vh => ?_) (fun vh => ?_)
  rotate_left
  ·have hk : ¬ k < s.length := by have := of_decide_eq_false vh; omega
   refine SW.exit rfl ?_
   exact SW.goal ((hKLi _ _).2 ⟨forN_end hruni hk, rfl⟩)
  have hkk : k < s.length := by have := of_decide_eq_true vh; omega
  have hwk : IntKind.i64.wrap ((k : Int) + 1) = ((k + 1 : Nat) : Int) := by rw [wrap64_of _ (by omega) (by omega)]; rfl
  obtain ⟨ci, hbi, hci⟩ := forN_step hruni hkk
  simp only [b1_slices_IndexFunc_int] at hbi
  refine SW.skip ?_
  refine SW.seq ?_
  refine SW.block ?_
  refine SW.seq ?_
  refine SW.regX (fun f_ t_ => σ0 = t_ ∧ f_ 0 = intsA (s) ∧ f_ 1 = AV.fn fg fc ∧ f_ 5 = AV.int (((k : Nat) : Int)) ∧ f_ 7 = AV.int (((s.length : Nat) : Int)) ∧ f_ 8 = AV.int (((k : Nat) : Int))) (fun M hM => ?_) (fun fr5 τz3 hm => ?_)
  ·simp [go_sem, f0, f1, f7, f8, f9]
   refine (hM _ _).2 ⟨rfl, ?_, ?_, ?_, ?_, ?_⟩ <;> simp [go_sem, f0, f1, f7, f8, f9]
  clear f0 f1 f7 f8 f9
  obtain ⟨rfl, f0, f1, f5, f7, f8⟩ := hm
  refine SW.seq ?_
  obtain ⟨n, hn, hbi⟩ := obind hbi
  have xln := getN_lt hn
  have xdn := getN_map AV.int hn
  obtain ⟨rx, hrx, hbi⟩ := obind hbi
  refine SW.regX (fun f_ t_ => σ0 = t_ ∧ f_ 0 = intsA (s) ∧ f_ 1 = AV.fn fg fc ∧ f_ 5 = AV.int (((k : Nat) : Int)) ∧ f_ 7 = AV.int (((s.length : Nat) : Int)) ∧ f_ 8 = AV.int (((k : Nat) : Int)) ∧ f_ 16 = AV.bool (rx)) (fun M hM => ?_) (fun fr6 τz4 hm => ?_)
  ·simp [go_sem, f0, f1, f5, f7, f8, xln, xdn]
   refine EWcall_pure (fev n _ hrx) ?_
   simp [go_sem, f0, f1, f5, f7, f8, xln, xdn]
   refine (hM _ _).2 ⟨rfl, ?_, ?_, ?_, ?_, ?_, ?_⟩ <;> simp [go_sem, f0, f1, f5, f7, f8, xln, xdn]
  clear f0 f1 f5 f7 f8
  obtain ⟨rfl, f0, f1, f5, f7, f8, f16⟩ := hm
  refine SW.cond _ f16 (fun vh1 => ?_) (fun vh1 => ?_)
  ·have hbi := condT hbi vh1
   refine SW.seq ?_
   refine SW.regX (fun f_ t_ => σ0 = t_ ∧ f_ 4 = AV.int (((k : Nat) : Int))) (fun M hM => ?_) (fun fr7 τz5 hm => ?_)
   ·simp [go_sem, f0, f1, f16, f5, f7, f8]
    refine (hM _ _).2 ⟨rfl, ?_⟩ <;> simp [go_sem, f0, f1, f16, f5, f7, f8]
   clear f0 f1 f16 f5 f7 f8
   obtain ⟨rfl, f4⟩ := hm
   obtain rfl := Option.some.inj hbi
   obtain rfl := Option.some.inj hci
   obtain rfl := Option.some.inj hoi
   exact SW.ret ⟨AV.int (((k : Nat) : Int)), by simp [go_sem, f4], .lit _, Keeps.refl _⟩
  have hbi := condF hbi vh1
  refine SW.skip ?_
  refine SW.blk ?_
  refine SW.regX (fun f_ t_ => σ0 = t_ ∧ f_ 0 = intsA (s) ∧ f_ 1 = AV.fn fg fc ∧ f_ 7 = AV.int (((s.length : Nat) : Int)) ∧ f_ 8 = AV.int (((k + 1 : Nat) : Int))) (fun M hM => ?_) (fun fr8 τz6 hm => ?_)
  ·simp [go_sem, f0, f1, f16, f5, f7, f8, hwk]
   refine (hM _ _).2 ⟨rfl, ?_, ?_, ?_, ?_⟩ <;> simp [go_sem, f0, f1, f16, f5, f7, f8, hwk]
  clear f0 f1 f16 f5 f7 f8
  obtain ⟨rfl, f0, f1, f7, f8⟩ := hm
  obtain rfl := Option.some.inj hbi
  exact SW.goal ⟨s.length - (k + 1), by omega, (hJi _ _ _).2 ⟨k + 1, rfl, hci, rfl, f0, f1, f7, f8⟩⟩
 intro fr9 τ1 hm
 rw [hKLi] at hm
 clear hKLi hruni
 clear f0 f1 f7 f8
 obtain ⟨rfl, rfl⟩ := hm
 simp only [Out.on] at hoi
 refine SW.seq ?_
 refine SW.regX (fun f_ t_ => σ0 = t_ ∧ f_ 4 = AV.int (-1)) (fun M hM => ?_) (fun fr10 τz7 hm => ?_)
 ·simp [go_sem]
  refine (hM _ _).2 ⟨rfl, ?_⟩ <;> simp [go_sem]
 obtain ⟨rfl, f4⟩ := hm
 obtain rfl := Option.some.inj hoi
 exact SW.ret ⟨AV.int (-1), by simp [go_sem, f4], .lit _, Keeps.refl _⟩
set_option maxHeartbeats 4000000 in
theorem w_slices_ContainsFunc_int (s : List Int) (f : Int → Option (Bool)) (fg : FuncId) (fc : List AV) (fev : ∀ (a0 : Int) (r : Bool), f a0 = some r → PureA Tryz.prog fg ([AV.int (a0)] ++ fc) (AV.bool (r))) (r : (Bool)) (h : s_slices_ContainsFunc_int s f = some r) : PureA Tryz.prog 51 [intsA (s), AV.fn fg fc] (AV.bool (r)) := by
 refine pureA_of_SW (N := 9) Tryz.func51 (by kernel_rfl) rfl (by rw [Tryz.ntmps51]; rfl) (fun σ0 => ?_)
 rw [Tryz.results51]
 obtain ⟨fr0, hfr⟩ : ∃ fr, fr = initFr [intsA (s), AV.fn fg fc] := ⟨_, rfl⟩
 rw [← hfr]
 have f0 : fr0 0 = intsA (s) := by rw [hfr]; rfl
 have f1 : fr0 1 = AV.fn fg fc := by rw [hfr]; rfl
 clear hfr
 simp only [s_slices_ContainsFunc_int] at h
 refine SW.seq ?_
 refine SW.regX (fun f_ t_ => σ0 = t_ ∧ f_ 0 = intsA (s) ∧ f_ 1 = AV.fn fg fc) (fun M hM => ?_) (fun fr1 τz hm => ?_)
 ·simp [go_sem, f0, f1]
  refine (hM _ _).2 ⟨rfl, ?_, ?_⟩ <;> simp [go_sem, f0, f1]
 clear f0 f1
 obtain ⟨rfl, f0, f1⟩ := hm
 refine SW.seq ?_
 obtain ⟨n, hn, h⟩ := obind h
 refine SW.regX (fun f_ t_ => σ0 = t_ ∧ f_ 4 = AV.bool ((decide (0 ≤ n)))) (fun M hM => ?_) (fun fr2 τz1 hm => ?_)
 ·simp [go_sem, f0, f1]
  refine EWcall_pure (w_slices_IndexFunc_int s f fg fc fev _ hn) ?_
  simp [go_sem, f0, f1]
  refine (hM _ _).2 ⟨rfl, ?_⟩ <;> simp [go_sem, f0, f1]
 clear f0 f1
 obtain ⟨rfl, f4⟩ := hm
 obtain rfl := Option.some.inj h
 exact SW.ret ⟨AV.bool ((decide (0 ≤ n))), by simp [go_sem, f4], .lit _, Keeps.refl _⟩
end Go.Proofs.YtippinddoldhkaaGreat
