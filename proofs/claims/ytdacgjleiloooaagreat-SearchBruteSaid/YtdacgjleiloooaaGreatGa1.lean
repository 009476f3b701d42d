/-
  Plain functions and the walks that lead to them, by a program of ours (gen.py): scarfjoint/scarfjointref04.Example, scarfjoint/scarfjointlaw17.bank, slices.Index___string_string_, slices.Contains___string_string_, slices.IndexFunc___scarfjoint/api.NodeType_scarfjoint/api.NodeType_, slices.ContainsFunc___scarfjoint/api.NodeType_scarfjoint/api.NodeType_, slices.IndexFunc___scarfjoint/api.Attr_scarfjoint/api.Attr_, slices.ContainsFunc___scarfjoint/api.Attr_scarfjoint/api.Attr_, slices.IndexFunc___scarfjoint/api.EdgeType_scarfjoint/api.EdgeType_, slices.ContainsFunc___scarfjoint/api.EdgeType_scarfjoint/api.EdgeType_, slices.IndexFunc___int_int_, slices.ContainsFunc___int_int_.
-/
import Derived.Test.YtdacgjleiloooaaGreatGd
import Derived.Test.YtdacgjleiloooaaGreatGT
import Derived.Test.YtdacgjleiloooaaGreatB3
import Derived.Test.YtdacgjleiloooaaGreatGS
set_option linter.unusedSimpArgs false
set_option linter.unusedVariables false
namespace Go.Proofs.YtdacgjleiloooaaGreat
open Go Go.Ew Go.Proofs Go.RowKit
set_option maxRecDepth 100000
set_option maxHeartbeats 4000000 in
theorem w_ref04_Example (r : (Types)) (h : s_ref04_Example = some r) : PureA Tryz.prog 30 [] (AV.agg [nodesA (r.nodes), edgesA (r.edges)]) := by
 refine pureA_of_SW (N := 15) Tryz.func30 (by kernel_rfl) rfl (by rw [Tryz.ntmps30]; rfl) (fun σ0 => ?_)
 rw [Tryz.results30]
 obtain ⟨fr0, hfr⟩ : ∃ fr, fr = initFr [] := ⟨_, rfl⟩
 rw [← hfr]
 clear hfr
 simp only [s_ref04_Example] at h
 refine SW.seq ?_
 refine SW.regX (fun f_ t_ => ∃ b0 : Nat, f_ 0 = AV.ptr b0 0 ∧ Kept σ0 t_ ∧ σ0.next ≤ t_.next ∧ t_.get b0 = some [AV.nils, AV.nils] ∧ b0 < t_.next ∧ σ0.next ≤ b0) (fun M hM => ?_) (fun fr1 τ hm => ?_)
 ·simp [go_sem]
  refine (hM _ _).2 ⟨σ0.next, ?_, by intro j hj; simp [go_sem, show ¬ j = σ0.next by omega], by first | omega | (simp [go_sem]; done) | (simp [go_sem]; omega), by simp (disch := omega) [get_alloc_ne, get_set_ne, get_kill_ne, go_sem], by first | omega | (simp [go_sem]; done) | (simp [go_sem]; omega), by omega⟩ <;> simp [go_sem]
 obtain ⟨b0, f0, hK, hN, gb0, ub0, wb0⟩ := hm
 refine SW.seq ?_
 refine SW.regX (fun f_ t_ => ∃ l : Nat, ∃ l1 : Nat, ∃ l2 : Nat, ∃ l3 : Nat, ∃ v : AV, f_ 0 = AV.ptr b0 0 ∧ Kept σ0 t_ ∧ σ0.next ≤ t_.next ∧ t_.get b0 = some [AV.arr l3 0 4 4, v] ∧ b0 < t_.next ∧ t_.get l = some [AV.str (([98, 97, 108, 97, 110, 99, 101] : List UInt8)), AV.int (-1000), AV.int (1000), AV.nils] ∧ l < t_.next ∧ t_.get l1 = some [AV.str (([111, 112, 101, 110] : List UInt8)), AV.str (([99, 108, 111, 115, 101, 100] : List UInt8))] ∧ l1 < t_.next ∧ t_.get l2 = some [AV.str (([115, 116, 97, 116, 101] : List UInt8)), AV.int (0), AV.int (1), AV.arr l1 0 2 1] ∧ l2 < t_.next ∧ t_.get l3 = some [AV.str (([65, 99, 99, 111, 117, 110, 116] : List UInt8)), AV.int (-1), AV.bool (true), AV.arr l 0 1 4, AV.str (([67, 97, 115, 104] : List UInt8)), AV.int (0), AV.bool (false), AV.nils, AV.str (([76, 111, 97, 110] : List UInt8)), AV.int (0), AV.bool (false), AV.arr l2 0 1 4, AV.str (([80, 101, 114, 115, 111, 110] : List UInt8)), AV.int (-1), AV.bool (false), AV.nils] ∧ l3 < t_.next ∧ ArrAt σ0.next t_ v 96 ((([(⟨([111, 119, 110, 115] : List UInt8), 3, 0, 0, -1, 1, 1⟩ : EdgeT), (⟨([112, 97, 121, 115] : List UInt8), 1, 1, 0, -1, 0, -1⟩ : EdgeT)] : List EdgeT)).flatMap edgeC) (([(⟨([111, 119, 110, 115] : List UInt8), 3, 0, 0, -1, 1, 1⟩ : EdgeT), (⟨([112, 97, 121, 115] : List UInt8), 1, 1, 0, -1, 0, -1⟩ : EdgeT)] : List EdgeT)).length 7 ∧ (∀ i, idOf v = some i → ¬ i = b0) ∧ σ0.next ≤ l ∧ ¬ b0 = l ∧ (∀ i, idOf v = some i → ¬ i = l) ∧ σ0.next ≤ l1 ∧ ¬ b0 = l1 ∧ ¬ l = l1 ∧ (∀ i, idOf v = some i → ¬ i = l1) ∧ σ0.next ≤ l2 ∧ ¬ b0 = l2 ∧ ¬ l = l2 ∧ ¬ l1 = l2 ∧ (∀ i, idOf v = some i → ¬ i = l2) ∧ σ0.next ≤ l3 ∧ ¬ b0 = l3 ∧ ¬ l = l3 ∧ ¬ l1 = l3 ∧ ¬ l2 = l3 ∧ (∀ i, idOf v = some i → ¬ i = l3)) (fun M hM => ?_) (fun fr2 τ1 hm => ?_)
 ·have nb0_0 : ¬ b0 = τ.next := by omega
  have nb0_1 : ¬ b0 = τ.next + 1 := by omega
  have nb0_2 : ¬ b0 = τ.next + 2 := by omega
  have nb0_3 : ¬ b0 = τ.next + 3 := by omega
  have nb0_4 : ¬ b0 = τ.next + 4 := by omega
  simp [go_sem, f0, gb0, nb0_0, nb0_1, nb0_2, nb0_3, nb0_4]
  refine (hM _ _).2 ⟨τ.next, (τ.next + 1), (τ.next + 2), (τ.next + 3), AV.arr (τ.next + 4) 0 (([(⟨([111, 119, 110, 115] : List UInt8), 3, 0, 0, -1, 1, 1⟩ : EdgeT), (⟨([112, 97, 121, 115] : List UInt8), 1, 1, 0, -1, 0, -1⟩ : EdgeT)] : List EdgeT)).length 7, ?_, by intro j hj; have hj_ := hK j hj; simp [go_sem, hj_.1, hj_.2, show ¬ j = τ.next by omega, show ¬ j = τ.next + 1 by omega, show ¬ j = τ.next + 2 by omega, show ¬ j = τ.next + 3 by omega, show ¬ j = τ.next + 4 by omega, show ¬ j = b0 by omega], by first | omega | (simp [go_sem]; done) | (simp [go_sem]; omega), by simp (disch := omega) [get_alloc_ne, get_set_ne, get_kill_ne, go_sem, f0, gb0, nb0_0, nb0_1, nb0_2, nb0_3, nb0_4], by first | omega | (simp [go_sem]; done) | (simp [go_sem]; omega), by simp (disch := omega) [get_alloc_ne, get_set_ne, get_kill_ne, go_sem, f0, gb0, nb0_0, nb0_1, nb0_2, nb0_3, nb0_4], by first | omega | (simp [go_sem]; done) | (simp [go_sem]; omega), by simp (disch := omega) [get_alloc_ne, get_set_ne, get_kill_ne, go_sem, f0, gb0, nb0_0, nb0_1, nb0_2, nb0_3, nb0_4], by first | omega | (simp [go_sem]; done) | (simp [go_sem]; omega), by simp (disch := omega) [get_alloc_ne, get_set_ne, get_kill_ne, go_sem, f0, gb0, nb0_0, nb0_1, nb0_2, nb0_3, nb0_4], by first | omega | (simp [go_sem]; done) | (simp [go_sem]; omega), by simp (disch := omega) [get_alloc_ne, get_set_ne, get_kill_ne, go_sem, f0, gb0, nb0_0, nb0_1, nb0_2, nb0_3, nb0_4], by first | omega | (simp [go_sem]; done) | (simp [go_sem]; omega), .inr ⟨(τ.next + 4), rfl, by simp (disch := omega) [get_alloc_ne, get_set_ne, get_kill_ne, go_sem, f0, gb0, nb0_0, nb0_1, nb0_2, nb0_3, nb0_4, edgeC], by simp [go_sem, f0, gb0, nb0_0, nb0_1, nb0_2, nb0_3, nb0_4], by omega, by first | (simp [go_sem]; done) | (simp [go_sem]; omega)⟩, by intro i hi; first | (simp [idOf] at hi; done) | (simp [idOf] at hi; omega), by omega, by omega, by intro i hi; first | (simp [idOf] at hi; done) | (simp [idOf] at hi; omega), by omega, by omega, by omega, by intro i hi; first | (simp [idOf] at hi; done) | (simp [idOf] at hi; omega), by omega, by omega, by omega, by omega, by intro i hi; first | (simp [idOf] at hi; done) | (simp [idOf] at hi; omega), by omega, by omega, by omega, by omega, by omega, by intro i hi; first | (simp [idOf] at hi; done) | (simp [idOf] at hi; omega)⟩ <;> simp [go_sem, f0, gb0, nb0_0, nb0_1, nb0_2, nb0_3, nb0_4]
 clear f0 hK hN gb0 ub0
 obtain ⟨l, l1, l2, l3, v, f0, hK, hN, gb0, ub0, gl, ul, gl1, ul1, gl2, ul2, gl3, ul3, av, evb0, wl, eb0l, evl, wl1, eb0l1, ell1, evl1, wl2, eb0l2, ell2, el1l2, evl2, wl3, eb0l3, ell3, el1l3, el2l3, evl3⟩ := hm
 obtain rfl := Option.some.inj h
 exact SW.ret ⟨AV.agg [AV.arr l3 0 4 4, v], by simp [go_sem, f0, gb0, gl, gl1, gl2, gl3], frz_aggL (frzL_c (frz_arrL wl3 gl3 (frzL_c (.lit _) (frzL_c (.lit _) (frzL_c (.lit _) (frzL_c (frz_arrL wl gl (frzL_c (.lit _) (frzL_c (.lit _) (frzL_c (.lit _) (frzL_c (.nils) (frzL_n)))))) (frzL_c (.lit _) (frzL_c (.lit _) (frzL_c (.lit _) (frzL_c (.nils) (frzL_c (.lit _) (frzL_c (.lit _) (frzL_c (.lit _) (frzL_c (frz_arrL wl2 gl2 (frzL_c (.lit _) (frzL_c (.lit _) (frzL_c (.lit _) (frzL_c (frz_arrL wl1 gl1 (frzL_c (.lit _) (frzL_c (.lit _) (frzL_n)))) (frzL_n)))))) (frzL_c (.lit _) (frzL_c (.lit _) (frzL_c (.lit _) (frzL_c (.nils) (frzL_n)))))))))))))))))) (frzL_c (av.frz (DataL.flatMap gd_edgeC (([(⟨([111, 119, 110, 115] : List UInt8), 3, 0, 0, -1, 1, 1⟩ : EdgeT), (⟨([112, 97, 121, 115] : List UInt8), 1, 1, 0, -1, 0, -1⟩ : EdgeT)] : List EdgeT)))) (frzL_n))), hK.keeps⟩
def O_law17_bank (r : (Graph)) (n : Nat) (x : AV) (τ : Mem) : Prop := ∃ v0_ v1_ : AV, x = AV.agg [v0_, v1_] ∧ ArrAt n τ v0_ 3 (r.nodes.map AV.int) r.nodes.length 1 ∧ ArrAt n τ v1_ 77 (r.edges.flatMap e3C) r.edges.length 3 ∧ Apart v0_ v1_
set_option maxHeartbeats 4000000 in
theorem o_law17_bank (r : (Graph)) (h : s_law17_bank = some r) (σ0 : Mem) : CallA Tryz.prog 31 [] σ0 (fun x τ => O_law17_bank r σ0.next x τ ∧ Kept σ0 τ ∧ σ0.next ≤ τ.next) := by
 refine callA_of_SW (N := 6) Tryz.func31 (by kernel_rfl) rfl (by rw [Tryz.ntmps31]; rfl) ?_
 rw [Tryz.results31]
 obtain ⟨fr0, hfr⟩ : ∃ fr, fr = initFr [] := ⟨_, rfl⟩
 rw [← hfr]
 clear hfr
 simp only [s_law17_bank] at h
 refine SW.seq ?_
 refine SW.regX (fun f_ t_ => ∃ b0 : Nat, f_ 0 = AV.ptr b0 0 ∧ Kept σ0 t_ ∧ σ0.next ≤ t_.next ∧ t_.get b0 = some [AV.nils, AV.nils] ∧ b0 < t_.next ∧ σ0.next ≤ b0) (fun M hM => ?_) (fun fr1 τ hm => ?_)
 ·simp [go_sem]
  refine (hM _ _).2 ⟨σ0.next, ?_, by intro j hj; simp [go_sem, show ¬ j = σ0.next by omega], by first | omega | (simp [go_sem]; done) | (simp [go_sem]; omega), by simp (disch := omega) [get_alloc_ne, get_set_ne, get_kill_ne, go_sem], by first | omega | (simp [go_sem]; done) | (simp [go_sem]; omega), by omega⟩ <;> simp [go_sem]
 obtain ⟨b0, f0, hK, hN, gb0, ub0, wb0⟩ := hm
 refine SW.seq ?_
 refine SW.regX (fun f_ t_ => ∃ v : AV, ∃ v1 : AV, f_ 0 = AV.ptr b0 0 ∧ Kept σ0 t_ ∧ σ0.next ≤ t_.next ∧ t_.get b0 = some [v, v1] ∧ b0 < t_.next ∧ ArrAt σ0.next t_ v 3 ((([3, 1, 1] : List Int)).map AV.int) (([3, 1, 1] : List Int)).length 1 ∧ ArrAt σ0.next t_ v1 77 ((([(⟨0, 0, 1⟩ : E3), (⟨0, 0, 2⟩ : E3)] : List E3)).flatMap e3C) (([(⟨0, 0, 1⟩ : E3), (⟨0, 0, 2⟩ : E3)] : List E3)).length 3 ∧ (∀ i, idOf v = some i → ¬ i = b0) ∧ (∀ i, idOf v1 = some i → ¬ i = b0) ∧ Apart v v1) (fun M hM => ?_) (fun fr2 τ1 hm => ?_)
 ·have nb0_0 : ¬ b0 = τ.next := by omega
  have nb0_1 : ¬ b0 = τ.next + 1 := by omega
  simp [go_sem, f0, gb0, nb0_0, nb0_1]
  refine (hM _ _).2 ⟨AV.arr τ.next 0 (([3, 1, 1] : List Int)).length 1, AV.arr (τ.next + 1) 0 (([(⟨0, 0, 1⟩ : E3), (⟨0, 0, 2⟩ : E3)] : List E3)).length 3, ?_, by intro j hj; have hj_ := hK j hj; simp [go_sem, hj_.1, hj_.2, show ¬ j = τ.next by omega, show ¬ j = τ.next + 1 by omega, show ¬ j = b0 by omega], by first | omega | (simp [go_sem]; done) | (simp [go_sem]; omega), by simp (disch := omega) [get_alloc_ne, get_set_ne, get_kill_ne, go_sem, f0, gb0, nb0_0, nb0_1], by first | omega | (simp [go_sem]; done) | (simp [go_sem]; omega), .inr ⟨τ.next, rfl, by simp (disch := omega) [get_alloc_ne, get_set_ne, get_kill_ne, go_sem, f0, gb0, nb0_0, nb0_1], by simp [go_sem, f0, gb0, nb0_0, nb0_1], by omega, by first | (simp [go_sem]; done) | (simp [go_sem]; omega)⟩, .inr ⟨(τ.next + 1), rfl, by simp (disch := omega) [get_alloc_ne, get_set_ne, get_kill_ne, go_sem, f0, gb0, nb0_0, nb0_1, e3C], by simp [go_sem, f0, gb0, nb0_0, nb0_1], by omega, by first | (simp [go_sem]; done) | (simp [go_sem]; omega)⟩, by intro i hi; first | (simp [idOf] at hi; done) | (simp [idOf] at hi; omega), by intro i hi; first | (simp [idOf] at hi; done) | (simp [idOf] at hi; omega), by first | exact evv1 | exact apart_symm ev1v | (intro i h1 h2; simp [idOf] at h1; done) | (intro i h1 h2; simp [idOf] at h2; done) | (intro i h1 h2; simp [idOf] at h1; simp [idOf] at h2; omega)⟩ <;> simp [go_sem, f0, gb0, nb0_0, nb0_1]
 clear f0 hK hN gb0 ub0
 obtain ⟨v, v1, f0, hK, hN, gb0, ub0, av, av1, evb0, ev1b0, evv1⟩ := hm
 obtain rfl := Option.some.inj h
 exact SW.ret ⟨AV.agg [v, v1], by simp [go_sem, f0, gb0], ⟨v, v1, rfl, av, av1, (by first | exact evv1 | exact fun i h h' => ev1v i h' h)⟩, hK, hN⟩
theorem w_law17_bank (r : (Graph)) (h : s_law17_bank = some r) : PureA Tryz.prog 31 [] (AV.agg [intsA (r.nodes), e3sA (r.edges)]) := pureA_of_own' (O := O_law17_bank r) (fun σ0 => o_law17_bank r h σ0) (by rintro n x τ ⟨v0_, v1_, hx, av0_, av1_, ev0_v1_⟩; rw [hx]; exact frz_aggL (frzL_c (av0_.frz (DataL.map (fun _ => .lit _) r.nodes)) (frzL_c (av1_.frz (DataL.flatMap gd_e3C r.edges)) (frzL_n))))
end Go.Proofs.YtdacgjleiloooaaGreat
