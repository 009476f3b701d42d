/-
  Plain functions and the walks that lead to them, by a program of ours (gen.py): scarfjoint/types.Below, slices.Clone___int_int_, scarfjoint/search.All, scarfjoint/attribute.value, scarfjoint/difference.Holds$1, cmp.isNaN_int_.
-/
import Derived.Test.YtippinddoldhkaaGreatGd
import Derived.Test.YtippinddoldhkaaGreatGT
import Derived.Test.YtippinddoldhkaaGreatB3
import Derived.Test.YtippinddoldhkaaGreatB7
import Derived.Test.YtippinddoldhkaaGreatGS
import Derived.Test.YtippinddoldhkaaGreatLg
set_option linter.unusedSimpArgs false
set_option linter.unusedVariables false
namespace Go.Proofs.YtippinddoldhkaaGreat
open Go Go.Ew Go.Proofs Go.RowKit
set_option maxRecDepth 100000
theorem oc_slices_CloneO_int (l : List Int) (hl : l.length ≤ 1000000000) (σ0 : Mem) (R : AV → Mem → Prop) (hR : ∀ x τ, ArrAt σ0.next τ x 3 (l.map AV.int) l.length 1 → Kept σ0 τ → σ0.next ≤ τ.next → R x τ) : CallA Tryz.prog 11 [intsA (l)] σ0 R := by
 by_cases h0 : l.length = 0
 ·have : l = [] := List.eq_nil_of_length_eq_zero h0
  subst this
  refine callA_slice0 fun A c _ => ?_
  refine callA_of Tryz.func11 rfl (by kernel_rfl) ?_
  cases A with
  | none =>
   simp [go_sem, Tryz.results11, Tryz.ntmps11]
   exact hR _ _ (.inl ⟨rfl, rfl, rfl⟩) (Kept.refl _) (Nat.le_refl _)
  | some a =>
   simp [go_sem, Tryz.results11, Tryz.ntmps11, get_alloc, ty_alloc]
   exact hR _ _ (.inr ⟨_, rfl, by simp [get_alloc, get_kill, get_set, ty_alloc, ty_kill, ty_set, next_alloc, next_kill, next_set], by simp [get_alloc, get_kill, get_set, ty_alloc, ty_kill, ty_set, next_alloc, next_kill, next_set], by simp [get_alloc, get_kill, get_set, ty_alloc, ty_kill, ty_set, next_alloc, next_kill, next_set] <;> omega, by simp [get_alloc, get_kill, get_set, ty_alloc, ty_kill, ty_set, next_alloc, next_kill, next_set] <;> omega⟩) (fun i hi => ⟨by simp [get_alloc, get_kill, get_set, ty_alloc, ty_kill, ty_set, next_alloc, next_kill, next_set, show ¬ i = σ0.next by omega, show ¬ i = σ0.next + 1 by omega], by simp [get_alloc, get_kill, get_set, ty_alloc, ty_kill, ty_set, next_alloc, next_kill, next_set, show ¬ i = σ0.next by omega, show ¬ i = σ0.next + 1 by omega]⟩) (by simp [get_alloc, get_kill, get_set, ty_alloc, ty_kill, ty_set, next_alloc, next_kill, next_set] <;> omega)
 ·have hp : 0 < l.length := by omega
  refine callA_of Tryz.func11 rfl (by kernel_rfl) ?_
  simp [go_sem, Tryz.results11, Tryz.ntmps11, hp, get_alloc, ty_alloc, show l.length ≤ 9223372036854775807 by omega, show l.length * 8 ≤ 140737488355328 by omega]
  exact hR _ _ (.inr ⟨_, rfl, by simp [get_alloc, get_kill, get_set, ty_alloc, ty_kill, ty_set, next_alloc, next_kill, next_set], by simp [get_alloc, get_kill, get_set, ty_alloc, ty_kill, ty_set, next_alloc, next_kill, next_set], by simp [get_alloc, get_kill, get_set, ty_alloc, ty_kill, ty_set, next_alloc, next_kill, next_set] <;> omega, by simp [get_alloc, get_kill, get_set, ty_alloc, ty_kill, ty_set, next_alloc, next_kill, next_set] <;> omega⟩) (fun i hi => ⟨by simp [get_alloc, get_kill, get_set, ty_alloc, ty_kill, ty_set, next_alloc, next_kill, next_set, show ¬ i = σ0.next by omega, show ¬ i = σ0.next + 1 by omega], by simp [get_alloc, get_kill, get_set, ty_alloc, ty_kill, ty_set, next_alloc, next_kill, next_set, show ¬ i = σ0.next by omega, show ¬ i = σ0.next + 1 by omega]⟩) (by simp [get_alloc, get_kill, get_set, ty_alloc, ty_kill, ty_set, next_alloc, next_kill, next_set] <;> omega)
def O_slices_CloneO_int (r : List Int) (n : Nat) (x : AV) (τ : Mem) : Prop := ∃ v : AV, x = v ∧ ArrAt n τ v 3 (r.map AV.int) r.length 1
theorem o_slices_CloneO_int (l r : List Int) (h : s_slices_CloneO_int l = some r) (σ0 : Mem) : CallA Tryz.prog 11 [intsA (l)] σ0 (fun x τ => O_slices_CloneO_int r σ0.next x τ ∧ Kept σ0 τ ∧ σ0.next ≤ τ.next) := by
 obtain ⟨hl, rfl⟩ := some_of_if h
 exact oc_slices_CloneO_int l hl σ0 _ fun x τ h1 h2 h3 => ⟨⟨x, rfl, h1⟩, h2, h3⟩
theorem os_slices_CloneO_int (r : List Int) : ∀ n x τ, O_slices_CloneO_int r n x τ → Solid x ∧ ∀ τ', (∀ i cs, n ≤ i → τ.get i = some cs → cs.all flatA = true → τ'.get i = some cs ∧ τ'.ty i = τ.ty i) → τ'.next = τ.next → O_slices_CloneO_int r n x τ' := by rintro n x τ ⟨v, hx, av⟩; exact ⟨by rw [hx]; exact arrAt_solid av, fun τ' hg hn => ⟨v, hx, av.re (flat_map (fun _ => rfl) _) hg hn⟩⟩
set_option maxHeartbeats 4000000 in
theorem w_search_All (t : Types) (p : Graph) (g : Graph) (injective : Bool) (r : ((List Morph) × Int)) (h : s_search_All t p g injective = some r) : PureA Tryz.prog 78 [AV.agg [nodesA (t.nodes), edgesA (t.edges)], AV.agg [intsA (p.nodes), e3sA (p.edges)], AV.agg [intsA (g.nodes), e3sA (g.edges)], AV.bool (injective)] (AV.tup [morphsA (r.1), AV.int (r.2)]) := by
 refine pureA_of_SW (N := 26) Tryz.func78 (by kernel_rfl) rfl (by rw [Tryz.ntmps78]; rfl) (fun σ0 => ?_)
 rw [Tryz.results78]
 obtain ⟨fr0, hfr⟩ : ∃ fr, fr = initFr [AV.agg [nodesA (t.nodes), edgesA (t.edges)], AV.agg [intsA (p.nodes), e3sA (p.edges)], AV.agg [intsA (g.nodes), e3sA (g.edges)], AV.bool (injective)] := ⟨_, rfl⟩
 rw [← hfr]
 have f0 : fr0 0 = AV.agg [nodesA (t.nodes), edgesA (t.edges)] := by rw [hfr]; rfl
 have f1 : fr0 1 = AV.agg [intsA (p.nodes), e3sA (p.edges)] := by rw [hfr]; rfl
 have f2 : fr0 2 = AV.agg [intsA (g.nodes), e3sA (g.edges)] := by rw [hfr]; rfl
 have f3 : fr0 3 = AV.bool (injective) := by rw [hfr]; rfl
 clear hfr
 simp only [s_search_All] at h
 refine SW.seq ?_
 refine SW.regX (fun f_ t_ => ∃ b4 : Nat, ∃ b5 : Nat, ∃ b6 : Nat, f_ 3 = AV.bool (injective) ∧ f_ 4 = AV.ptr b4 0 ∧ f_ 5 = AV.ptr b5 0 ∧ f_ 6 = AV.ptr b6 0 ∧ Kept σ0 t_ ∧ σ0.next ≤ t_.next ∧ t_.get b4 = some [nodesA (t.nodes), edgesA (t.edges)] ∧ b4 < t_.next ∧ t_.get b5 = some [intsA (p.nodes), e3sA (p.edges)] ∧ b5 < t_.next ∧ t_.get b6 = some [intsA (g.nodes), e3sA (g.edges)] ∧ b6 < t_.next ∧ σ0.next ≤ b4 ∧ σ0.next ≤ b5 ∧ ¬ b4 = b5 ∧ σ0.next ≤ b6 ∧ ¬ b4 = b6 ∧ ¬ b5 = b6) (fun M hM => ?_) (fun fr1 τ hm => ?_)
 ·simp [go_sem, f0, f1, f2, f3]
  refine (hM _ _).2 ⟨σ0.next, (σ0.next + 1), (σ0.next + 2), ?_, ?_, ?_, ?_, by intro j hj; simp [go_sem, show ¬ j = σ0.next by omega, show ¬ j = σ0.next + 1 by omega, show ¬ j = σ0.next + 2 by omega], by first | omega | (simp [go_sem]; done) | (simp [go_sem]; omega), by simp (disch := omega) [get_alloc_ne, get_set_ne, get_kill_ne, go_sem, f0, f1, f2, f3], by first | omega | (simp [go_sem]; done) | (simp [go_sem]; omega), by simp (disch := omega) [get_alloc_ne, get_set_ne, get_kill_ne, go_sem, f0, f1, f2, f3], by first | omega | (simp [go_sem]; done) | (simp [go_sem]; omega), by simp (disch := omega) [get_alloc_ne, get_set_ne, get_kill_ne, go_sem, f0, f1, f2, f3], by first | omega | (simp [go_sem]; done) | (simp [go_sem]; omega), by omega, by omega, by omega, by omega, by omega, by omega⟩ <;> simp [go_sem, f0, f1, f2, f3]
 clear f0 f1 f2 f3
 obtain ⟨b4, b5, b6, f3, f4, f5, f6, hK, hN, gb4, ub4, gb5, ub5, gb6, ub6, wb4, wb5, eb4b5, wb6, eb4b6, eb5b6⟩ := hm
 refine SW.seq ?_
 refine SW.seq ?_
 obtain ⟨n, hn, h⟩ := obind h
 refine SW.regX (fun f_ t_ => τ = t_ ∧ f_ 3 = AV.bool (injective) ∧ f_ 4 = AV.ptr b4 0 ∧ f_ 5 = AV.ptr b5 0 ∧ f_ 6 = AV.ptr b6 0 ∧ f_ 10 = AV.int (n)) (fun M hM => ?_) (fun fr2 τz hm => ?_)
 ·simp [go_sem, f3, f4, f5, f6, gb4, gb5, gb6]
  refine EWcall_pure (w_search_valid t p g _ hn) ?_
  simp [go_sem, f3, f4, f5, f6, gb4, gb5, gb6]
  refine (hM _ _).2 ⟨rfl, ?_, ?_, ?_, ?_, ?_⟩ <;> simp [go_sem, f3, f4, f5, f6, gb4, gb5, gb6]
 clear f3 f4 f5 f6
 obtain ⟨rfl, f3, f4, f5, f6, f10⟩ := hm
 refine SW.seq ?_
 refine SW.regX (fun f_ t_ => τ = t_ ∧ f_ 3 = AV.bool (injective) ∧ f_ 4 = AV.ptr b4 0 ∧ f_ 5 = AV.ptr b5 0 ∧ f_ 6 = AV.ptr b6 0 ∧ f_ 10 = AV.int (n) ∧ f_ 16 = AV.bool ((!decide (n = 0)))) (fun M hM => ?_) (fun fr3 τz1 hm => ?_)
 ·simp [go_sem, f10, f3, f4, f5, f6, gb4, gb5, gb6]
  refine (hM _ _).2 ⟨rfl, ?_, ?_, ?_, ?_, ?_, ?_⟩ <;> simp [go_sem, f10, f3, f4, f5, f6, gb4, gb5, gb6]
 clear f10 f3 f4 f5 f6
 obtain ⟨rfl, f3, f4, f5, f6, f10, f16⟩ := hm
 refine SW.cond _ f16 (fun vh => ?_) (fun vh => ?_)
 ·have h := condT h vh
  refine SW.seq ?_
  refine SW.regX (fun f_ t_ => τ = t_ ∧ f_ 8 = AV.nils ∧ f_ 9 = AV.int (n)) (fun M hM => ?_) (fun fr4 τz2 hm => ?_)
  ·simp [go_sem, f10, f16, f3, f4, f5, f6, gb4, gb5, gb6]
   refine (hM _ _).2 ⟨rfl, ?_, ?_⟩ <;> simp [go_sem, f10, f16, f3, f4, f5, f6, gb4, gb5, gb6]
  clear f10 f16 f3 f4 f5 f6
  obtain ⟨rfl, f8, f9⟩ := hm
  obtain rfl := Option.some.inj h
  exact SW.ret ⟨AV.tup [AV.nils, AV.int (n)], by simp [go_sem, f8, f9], frz_tupL (frzL_c (.nils) (frzL_c (.lit _) (frzL_n))), hK.keeps⟩
 have h := condF h vh
 refine SW.skip ?_
 refine SW.seq ?_
 obtain ⟨rx, hrx, h⟩ := obind h
 refine SW.regX (fun f_ t_ => τ = t_ ∧ f_ 8 = morphsA (rx.1) ∧ f_ 9 = AV.int (rx.2)) (fun M hM => ?_) (fun fr5 τz3 hm => ?_)
 ·simp [go_sem, f10, f16, f3, f4, f5, f6, gb4, gb5, gb6]
  refine EWcall_pure (w_search_all t p g none injective _ hrx) ?_
  simp [go_sem, f10, f16, f3, f4, f5, f6, gb4, gb5, gb6]
  refine (hM _ _).2 ⟨rfl, ?_, ?_⟩ <;> simp [go_sem, f10, f16, f3, f4, f5, f6, gb4, gb5, gb6]
 clear f10 f16 f3 f4 f5 f6
 obtain ⟨rfl, f8, f9⟩ := hm
 obtain rfl := Option.some.inj h
 exact SW.ret ⟨AV.tup [morphsA (rx.1), AV.int (rx.2)], by simp [go_sem, f8, f9], frz_tupL (frzL_c ((DataA.imm (DataL.flatMap gd_morphC rx.1)) _ _) (frzL_c (.lit _) (frzL_n))), hK.keeps⟩
set_option maxHeartbeats 4000000 in
theorem w_attribute_value (x : GTerm) (values : List Int) (r : (Int)) (h : s_attribute_value x values = some r) : PureA Tryz.prog 41 [AV.agg [AV.int (x.var), AV.int (x.add)], intsA (values)] (AV.int (r)) := by
 refine pureA_of_SW (N := 18) Tryz.func41 (by kernel_rfl) rfl (by rw [Tryz.ntmps41]; rfl) (fun σ0 => ?_)
 rw [Tryz.results41]
 obtain ⟨fr0, hfr⟩ : ∃ fr, fr = initFr [AV.agg [AV.int (x.var), AV.int (x.add)], intsA (values)] := ⟨_, rfl⟩
 rw [← hfr]
 have f0 : fr0 0 = AV.agg [AV.int (x.var), AV.int (x.add)] := by rw [hfr]; rfl
 have f1 : fr0 1 = intsA (values) := by rw [hfr]; rfl
 clear hfr
 simp only [s_attribute_value] at h
 refine SW.seq ?_
 refine SW.regX (fun f_ t_ => ∃ b2 : Nat, f_ 1 = intsA (values) ∧ f_ 2 = AV.ptr b2 0 ∧ Kept σ0 t_ ∧ σ0.next ≤ t_.next ∧ t_.get b2 = some [AV.int (x.var), AV.int (x.add)] ∧ b2 < t_.next ∧ σ0.next ≤ b2) (fun M hM => ?_) (fun fr1 τ hm => ?_)
 ·simp [go_sem, f0, f1]
  refine (hM _ _).2 ⟨σ0.next, ?_, ?_, by intro j hj; simp [go_sem, show ¬ j = σ0.next by omega], by first | omega | (simp [go_sem]; done) | (simp [go_sem]; omega), by simp (disch := omega) [get_alloc_ne, get_set_ne, get_kill_ne, go_sem, f0, f1], by first | omega | (simp [go_sem]; done) | (simp [go_sem]; omega), by omega⟩ <;> simp [go_sem, f0, f1]
 clear f0 f1
 obtain ⟨b2, f1, f2, hK, hN, gb2, ub2, wb2⟩ := hm
 refine SW.seq ?_
 refine SW.seq ?_
 refine SW.regX (fun f_ t_ => τ = t_ ∧ f_ 1 = intsA (values) ∧ f_ 2 = AV.ptr b2 0 ∧ f_ 7 = AV.bool ((decide (x.var < 0)))) (fun M hM => ?_) (fun fr2 τz hm => ?_)
 ·simp [go_sem, f1, f2, gb2]
  refine (hM _ _).2 ⟨rfl, ?_, ?_, ?_⟩ <;> simp [go_sem, f1, f2, gb2]
 clear f1 f2
 obtain ⟨rfl, f1, f2, f7⟩ := hm
 refine SW.cond _ f7 (fun vh => ?_) (fun vh => ?_)
 ·have h := condT h vh
  refine SW.seq ?_
  refine SW.regX (fun f_ t_ => τ = t_ ∧ f_ 4 = AV.int (x.add)) (fun M hM => ?_) (fun fr3 τz1 hm => ?_)
  ·simp [go_sem, f1, f2, f7, gb2]
   refine (hM _ _).2 ⟨rfl, ?_⟩ <;> simp [go_sem, f1, f2, f7, gb2]
  clear f1 f2 f7
  obtain ⟨rfl, f4⟩ := hm
  obtain rfl := Option.some.inj h
  exact SW.ret ⟨AV.int (x.add), by simp [go_sem, f4], .lit _, hK.keeps⟩
 have h := condF h vh
 refine SW.skip ?_
 refine SW.seq ?_
 obtain ⟨n, hn, h⟩ := obind h
 have xpn := getI_pos hn
 have xln := getI_lt hn
 have xin := getI_N hn
 have xdn := getN_map AV.int xin
 refine SW.regX (fun f_ t_ => τ = t_ ∧ f_ 4 = AV.int ((IntKind.i64.wrap (n + x.add)))) (fun M hM => ?_) (fun fr4 τz2 hm => ?_)
 ·refine EW_regionD (by kernel_rfl) (by kernel_rfl) ?_
  simp [go_sem, f1, f2, f7, gb2, xpn, xln, xdn]
  refine (hM _ _).2 ⟨rfl, ?_⟩ <;> simp [go_sem, f1, f2, f7, gb2, xpn, xln, xdn]
 clear f1 f2 f7
 obtain ⟨rfl, f4⟩ := hm
 obtain rfl := Option.some.inj h
 exact SW.ret ⟨AV.int ((IntKind.i64.wrap (n + x.add))), by simp [go_sem, f4], .lit _, hK.keeps⟩
set_option maxHeartbeats 4000000 in
theorem w_difference_Holds_c1 (t : GTerm) (a : List Int) (r : (Int × Int × Bool)) (h : s_difference_Holds_c1 t a = some r) : PureA Tryz.prog 163 [AV.agg [AV.int (t.var), AV.int (t.add)], AV.iptr [intsA (a)]] (AV.tup [AV.int (r.1), AV.lit (.int .u64 (r.2.1)), AV.bool (r.2.2)]) := by
 refine pureA_of_SW (N := 46) Tryz.func163 (by kernel_rfl) rfl (by rw [Tryz.ntmps163]; rfl) (fun σ0 => ?_)
 rw [Tryz.results163]
 obtain ⟨fr0, hfr⟩ : ∃ fr, fr = initFr [AV.agg [AV.int (t.var), AV.int (t.add)], AV.iptr [intsA (a)]] := ⟨_, rfl⟩
 rw [← hfr]
 have f0 : fr0 0 = AV.agg [AV.int (t.var), AV.int (t.add)] := by rw [hfr]; rfl
 have f1 : fr0 1 = AV.iptr [intsA (a)] := by rw [hfr]; rfl
 clear hfr
 simp only [s_difference_Holds_c1] at h
 refine SW.seq ?_
 refine SW.regX (fun f_ t_ => ∃ b2 : Nat, f_ 1 = AV.iptr [intsA (a)] ∧ f_ 2 = AV.ptr b2 0 ∧ Kept σ0 t_ ∧ σ0.next ≤ t_.next ∧ t_.get b2 = some [AV.int (t.var), AV.int (t.add)] ∧ b2 < t_.next ∧ σ0.next ≤ b2) (fun M hM => ?_) (fun fr1 τ hm => ?_)
 ·simp [go_sem, f0, f1]
  refine (hM _ _).2 ⟨σ0.next, ?_, ?_, by intro j hj; simp [go_sem, show ¬ j = σ0.next by omega], by first | omega | (simp [go_sem]; done) | (simp [go_sem]; omega), by simp (disch := omega) [get_alloc_ne, get_set_ne, get_kill_ne, go_sem, f0, f1], by first | omega | (simp [go_sem]; done) | (simp [go_sem]; omega), by omega⟩ <;> simp [go_sem, f0, f1]
 clear f0 f1
 obtain ⟨b2, f1, f2, hK, hN, gb2, ub2, wb2⟩ := hm
 refine SW.seq ?_
 refine SW.block ?_
 refine SW.seq ?_
 refine SW.regX (fun f_ t_ => τ = t_ ∧ f_ 1 = AV.iptr [intsA (a)] ∧ f_ 2 = AV.ptr b2 0 ∧ f_ 10 = AV.bool ((decide (t.var = -1)))) (fun M hM => ?_) (fun fr2 τz hm => ?_)
 ·simp [go_sem, f1, f2, gb2]
  refine (hM _ _).2 ⟨rfl, ?_, ?_, ?_⟩ <;> simp [go_sem, f1, f2, gb2]
 clear f1 f2
 obtain ⟨rfl, f1, f2, f10⟩ := hm
 refine SW.cond _ f10 (fun vh => ?_) (fun vh => ?_)
 ·have h := condT h vh
  refine SW.seq ?_
  obtain ⟨rx, hrx, h⟩ := obind h
  refine SW.regX (fun f_ t_ => τ = t_ ∧ f_ 6 = AV.int (rx.1) ∧ f_ 7 = AV.lit (.int .u64 (rx.2))) (fun M hM => ?_) (fun fr3 τz1 hm => ?_)
  ·simp [go_sem, f1, f10, f2, gb2]
   refine EWcall_pure (w_difference_wide 0 t.add _ hrx) ?_
   simp [go_sem, f1, f10, f2, gb2]
   refine (hM _ _).2 ⟨rfl, ?_, ?_⟩ <;> simp [go_sem, f1, f10, f2, gb2]
  clear f1 f10 f2
  obtain ⟨rfl, f6, f7⟩ := hm
  refine SW.seq ?_
  refine SW.regX (fun f_ t_ => τ = t_ ∧ f_ 3 = AV.int (rx.1) ∧ f_ 4 = AV.lit (.int .u64 (rx.2)) ∧ f_ 5 = AV.bool (true)) (fun M hM => ?_) (fun fr4 τz2 hm => ?_)
  ·simp [go_sem, f6, f7]
   refine (hM _ _).2 ⟨rfl, ?_, ?_, ?_⟩ <;> simp [go_sem, f6, f7]
  clear f6 f7
  obtain ⟨rfl, f3, f4, f5⟩ := hm
  obtain rfl := Option.some.inj h
  exact SW.ret ⟨AV.tup [AV.int (rx.1), AV.lit (.int .u64 (rx.2)), AV.bool (true)], by simp [go_sem, f3, f4, f5], frz_tupL (frzL_c (.lit _) (frzL_c (.lit _) (frzL_c (.lit _) (frzL_n)))), hK.keeps⟩
 have h := condF h vh
 refine SW.seq ?_
 refine SW.regX (fun f_ t_ => τ = t_ ∧ f_ 1 = AV.iptr [intsA (a)] ∧ f_ 2 = AV.ptr b2 0 ∧ f_ 22 = AV.bool ((((decide (t.var < 0))) || ((decide (((a.length : Nat) : Int) ≤ t.var)))))) (fun M hM => ?_) (fun fr5 τz3 hm => ?_)
 ·rcases Bool.eq_false_or_eq_true ((decide (t.var < 0))) with y0 | y0
  ·have y0' := y0
   try simp at y0'
   simp [go_sem, f1, f10, f2, gb2, y0, y0']
   refine (hM _ _).2 ⟨rfl, ?_, ?_, ?_⟩ <;> simp [go_sem, f1, f10, f2, gb2, y0, y0']
  ·have y0' := y0
   try simp at y0'
   simp [go_sem, f1, f10, f2, gb2, y0, y0']
   refine (hM _ _).2 ⟨rfl, ?_, ?_, ?_⟩ <;> simp [go_sem, f1, f10, f2, gb2, y0, y0']
 clear f1 f10 f2
 obtain ⟨rfl, f1, f2, f22⟩ := hm
 refine SW.cond _ f22 (fun vh1 => ?_) (fun vh1 => ?_)
 ·have h := condT h vh1
  refine SW.seq ?_
  refine SW.regX (fun f_ t_ => τ = t_ ∧ f_ 3 = AV.int (0) ∧ f_ 4 = AV.lit (.int .u64 (0)) ∧ f_ 5 = AV.bool (false)) (fun M hM => ?_) (fun fr6 τz4 hm => ?_)
  ·simp [go_sem, f1, f2, f22, gb2]
   refine (hM _ _).2 ⟨rfl, ?_, ?_, ?_⟩ <;> simp [go_sem, f1, f2, f22, gb2]
  clear f1 f2 f22
  obtain ⟨rfl, f3, f4, f5⟩ := hm
  obtain rfl := Option.some.inj h
  exact SW.ret ⟨AV.tup [AV.int (0), AV.lit (.int .u64 (0)), AV.bool (false)], by simp [go_sem, f3, f4, f5], frz_tupL (frzL_c (.lit _) (frzL_c (.lit _) (frzL_c (.lit _) (frzL_n)))), hK.keeps⟩
 have h := condF h vh1
 refine SW.skip ?_
 refine SW.blk ?_
 refine SW.seq ?_
 obtain ⟨n, hn, h⟩ := obind h
 have xpn := getI_pos hn
 have xln := getI_lt hn
 have xin := getI_N hn
 have xdn := getN_map AV.int xin
 obtain ⟨rx1, hrx1, h⟩ := obind h
 refine SW.regX (fun f_ t_ => τ = t_ ∧ f_ 8 = AV.int (rx1.1) ∧ f_ 9 = AV.lit (.int .u64 (rx1.2))) (fun M hM => ?_) (fun fr7 τz5 hm => ?_)
 ·refine EW_regionD (by kernel_rfl) (by kernel_rfl) ?_
  simp [go_sem, f1, f2, f22, gb2, xpn, xln, xdn]
  refine EWqcall_pure (w_difference_wide n t.add _ hrx1) rfl ?_
  simp [go_sem, f1, f2, f22, gb2, xpn, xln, xdn]
  refine (hM _ _).2 ⟨rfl, ?_, ?_⟩ <;> simp [go_sem, f1, f2, f22, gb2, xpn, xln, xdn]
 clear f1 f2 f22
 obtain ⟨rfl, f8, f9⟩ := hm
 refine SW.seq ?_
 refine SW.regX (fun f_ t_ => τ = t_ ∧ f_ 3 = AV.int (rx1.1) ∧ f_ 4 = AV.lit (.int .u64 (rx1.2)) ∧ f_ 5 = AV.bool (true)) (fun M hM => ?_) (fun fr8 τz6 hm => ?_)
 ·simp [go_sem, f8, f9]
  refine (hM _ _).2 ⟨rfl, ?_, ?_, ?_⟩ <;> simp [go_sem, f8, f9]
 clear f8 f9
 obtain ⟨rfl, f3, f4, f5⟩ := hm
 obtain rfl := Option.some.inj h
 exact SW.ret ⟨AV.tup [AV.int (rx1.1), AV.lit (.int .u64 (rx1.2)), AV.bool (true)], by simp [go_sem, f3, f4, f5], frz_tupL (frzL_c (.lit _) (frzL_c (.lit _) (frzL_c (.lit _) (frzL_n)))), hK.keeps⟩
set_option maxHeartbeats 4000000 in
theorem w_cmp_isNaN_int (x : Int) (r : (Bool)) (h : s_cmp_isNaN_int x = some r) : PureA Tryz.prog 189 [AV.int (x)] (AV.bool (r)) := by
 refine pureA_of_SW (N := 6) Tryz.func189 (by kernel_rfl) rfl (by rw [Tryz.ntmps189]; rfl) (fun σ0 => ?_)
 rw [Tryz.results189]
 obtain ⟨fr0, hfr⟩ : ∃ fr, fr = initFr [AV.int (x)] := ⟨_, rfl⟩
 rw [← hfr]
 have f0 : fr0 0 = AV.int (x) := by rw [hfr]; rfl
 clear hfr
 simp only [s_cmp_isNaN_int] at h
 refine SW.seq ?_
 refine SW.regX (fun f_ t_ => σ0 = t_ ∧ f_ 0 = AV.int (x)) (fun M hM => ?_) (fun fr1 τz hm => ?_)
 ·simp [go_sem, f0]
  refine (hM _ _).2 ⟨rfl, ?_⟩ <;> simp [go_sem, f0]
 clear f0
 obtain ⟨rfl, f0⟩ := hm
 refine SW.seq ?_
 refine SW.regX (fun f_ t_ => σ0 = t_ ∧ f_ 2 = AV.bool (false)) (fun M hM => ?_) (fun fr2 τz1 hm => ?_)
 ·simp [go_sem, f0]
  refine (hM _ _).2 ⟨rfl, ?_⟩ <;> simp [go_sem, f0]
 clear f0
 obtain ⟨rfl, f2⟩ := hm
 obtain rfl := Option.some.inj h
 exact SW.ret ⟨AV.bool (false), by simp [go_sem, f2], .lit _, Keeps.refl _⟩
end Go.Proofs.YtippinddoldhkaaGreat
