/-
  Plain functions and the walks that lead to them, by a program of ours (gen.py): slices.IndexFunc___scarfjoint/api.Edge_scarfjoint/api.Edge_, slices.ContainsFunc___scarfjoint/api.Edge_scarfjoint/api.Edge_, scarfjoint/attribute.Valid$1, scarfjoint/attribute.Valid$2, scarfjoint/attribute.within, slices.Clone___string_string_, scarfjoint/attribute.attr, scarfjoint/difference.term, scarfjoint/difference.one.
-/
import Derived.Test.YtippinddoldhkaaGreatGd
import Derived.Test.YtippinddoldhkaaGreatGT
import Derived.Test.YtippinddoldhkaaGreatB3
import Derived.Test.YtippinddoldhkaaGreatB7
import Derived.Test.YtippinddoldhkaaGreatGS
import Derived.Test.YtippinddoldhkaaGreatLg
set_option linter.unusedSimpArgs false
set_option linter.unusedVariables false
namespace Go.Proofs.YtippinddoldhkaaGreat
open Go Go.Ew Go.Proofs Go.RowKit
set_option maxRecDepth 100000
set_option maxHeartbeats 4000000 in
theorem w_slices_IndexFunc_Edge (s : List E3) (f : E3 → Option (Bool)) (fg : FuncId) (fc : List AV) (fev : ∀ (a0 : E3) (r : Bool), f a0 = some r → PureA Tryz.prog fg ([AV.agg [AV.int (a0.kind), AV.int (a0.src), AV.int (a0.tgt)]] ++ fc) (AV.bool (r))) (r : (Int)) (h : s_slices_IndexFunc_Edge s f = some r) : PureA Tryz.prog 108 [e3sA (s), AV.fn fg fc] (AV.int (r)) := by
 refine pureA_of_SW (N := 19) Tryz.func108 (by kernel_rfl) rfl (by rw [Tryz.ntmps108]; rfl) (fun σ0 => ?_)
 rw [Tryz.results108]
 obtain ⟨fr0, hfr⟩ : ∃ fr, fr = initFr [e3sA (s), AV.fn fg fc] := ⟨_, rfl⟩
 rw [← hfr]
 have f0 : fr0 0 = e3sA (s) := by rw [hfr]; rfl
 have f1 : fr0 1 = AV.fn fg fc := by rw [hfr]; rfl
 clear hfr
 simp only [s_slices_IndexFunc_Edge] at h
 refine SW.seq ?_
 refine SW.regX (fun f_ t_ => σ0 = t_ ∧ f_ 0 = e3sA (s) ∧ f_ 1 = AV.fn fg fc) (fun M hM => ?_) (fun fr1 τz hm => ?_)
 ·simp [go_sem, f0, f1]
  refine (hM _ _).2 ⟨rfl, ?_, ?_⟩ <;> simp [go_sem, f0, f1]
 clear f0 f1
 obtain ⟨rfl, f0, f1⟩ := hm
 refine SW.seq ?_
 refine SW.seq ?_
 refine SW.regX (fun f_ t_ => σ0 = t_ ∧ f_ 0 = e3sA (s) ∧ f_ 1 = AV.fn fg fc ∧ f_ 7 = AV.int (((s.length : Nat) : Int)) ∧ f_ 8 = AV.int (0)) (fun M hM => ?_) (fun fr2 τz1 hm => ?_)
 ·simp [go_sem, f0, f1]
  refine (hM _ _).2 ⟨rfl, ?_, ?_, ?_, ?_⟩ <;> simp [go_sem, f0, f1]
 clear f0 f1
 obtain ⟨rfl, f0, f1, f7, f8⟩ := hm
 obtain ⟨oi, hruni, hoi⟩ := obind h
 refine SW.len 0 f0 (fun hbigi => ?_)
 obtain ⟨KLi, hKLi⟩ : ∃ KL : Fr → Mem → Prop, ∀ fr' τ', KL fr' τ' ↔ (oi = .done () ∧ σ0 = τ') := ⟨_, fun _ _ => Iff.rfl⟩
 refine SW.cut KLi ?_ ?_
 ·refine SW.block ?_
  obtain ⟨Ji, hJi⟩ : ∃ J : Nat → Fr → Mem → Prop, ∀ m_ fr' τ', J m_ fr' τ' ↔ (∃ k : Nat, m_ = s.length - k ∧ forN (b1_slices_IndexFunc_Edge s f) (s.length - k) k () = some oi ∧ σ0 = τ' ∧ fr' 0 = e3sA (s) ∧ fr' 1 = AV.fn fg fc ∧ fr' 7 = AV.int (((s.length : Nat) : Int)) ∧ fr' 8 = AV.int (((k : Nat) : Int))) := ⟨_, fun _ _ _ => Iff.rfl⟩
  refine SW.loop Ji (s.length - 0) ((hJi _ _ _).2 ⟨0, rfl, hruni, rfl, f0, f1, f7, f8⟩) ?_
  clear hruni
  intro m_ fr3 τ hm
  rw [hJi] at hm
  clear f0 f1 f7 f8
  obtain ⟨k, rfl, hruni, rfl, f0, f1, f7, f8⟩ := hm
  refine SW.seq ?_
  refine SW.regX (fun f_ t_ => σ0 = t_ ∧ f_ 0 = e3sA (s) ∧ f_ 1 = AV.fn fg fc ∧ f_ 7 = AV.int (((s.length : Nat) : Int)) ∧ f_ 8 = AV.int (((k : Nat) : Int)) ∧ f_ 9 = AV.bool ((decide (k < s.length)))) (fun M hM => ?_) (fun fr4 τz2 hm => ?_)
  ·simp [go_sem, f0, f1, f7, f8]
   refine (hM _ _).2 ⟨rfl, ?_, ?_, ?_, ?_, ?_⟩ <;> simp [go_sem, f0, f1, f7, f8]
  clear f0 f1 f7 f8
  obtain ⟨rfl, f0, f1, f7, f8, f9⟩ := hm
  refine SW.seq ?_
  refine SW.cond _ f9 (fun vh => ?_) (fun vh => ?_)
  rotate_left
  ·have hk : ¬ k < s.length := by have := of_decide_eq_false vh; omega
   refine SW.exit rfl ?_
   exact SW.goal ((hKLi _ _).2 ⟨forN_end hruni hk, rfl⟩)
  have hkk : k < s.length := by have := of_decide_eq_true vh; omega
  have hwk : IntKind.i64.wrap ((k : Int) + 1) = ((k + 1 : Nat) : Int) := by rw [wrap64_of _ (by omega) (by omega)]; rfl
  obtain ⟨ci, hbi, hci⟩ := forN_step hruni hkk
  simp only [b1_slices_IndexFunc_Edge] at hbi
  refine SW.skip ?_
  refine SW.seq ?_
  refine SW.block ?_
  refine SW.seq ?_
  refine SW.regX (fun f_ t_ => σ0 = t_ ∧ f_ 0 = e3sA (s) ∧ f_ 1 = AV.fn fg fc ∧ f_ 5 = AV.int (((k : Nat) : Int)) ∧ f_ 7 = AV.int (((s.length : Nat) : Int)) ∧ f_ 8 = AV.int (((k : Nat) : Int))) (fun M hM => ?_) (fun fr5 τz3 hm => ?_)
  ·simp [go_sem, f0, f1, f7, f8, f9]
   refine (hM _ _).2 ⟨rfl, ?_, ?_, ?_, ?_, ?_⟩ <;> simp [go_sem, f0, f1, f7, f8, f9]
  clear f0 f1 f7 f8 f9
  obtain ⟨rfl, f0, f1, f5, f7, f8⟩ := hm
  refine SW.seq ?_
  obtain ⟨x, hx, hbi⟩ := obind hbi
  have xlx := getN_lt hx
  have xdx := getN_flat e3C 3 (fun _ => rfl) hx
  obtain ⟨rx, hrx, hbi⟩ := obind hbi
  refine SW.regX (fun f_ t_ => σ0 = t_ ∧ f_ 0 = e3sA (s) ∧ f_ 1 = AV.fn fg fc ∧ f_ 5 = AV.int (((k : Nat) : Int)) ∧ f_ 7 = AV.int (((s.length : Nat) : Int)) ∧ f_ 8 = AV.int (((k : Nat) : Int)) ∧ f_ 16 = AV.bool (rx)) (fun M hM => ?_) (fun fr6 τz4 hm => ?_)
  ·simp [go_sem, f0, f1, f5, f7, f8, xlx, xdx, e3C]
   refine EWcall_pure (fev x _ hrx) ?_
   simp [go_sem, f0, f1, f5, f7, f8, xlx, xdx, e3C]
   refine (hM _ _).2 ⟨rfl, ?_, ?_, ?_, ?_, ?_, ?_⟩ <;> simp [go_sem, f0, f1, f5, f7, f8, xlx, xdx, e3C]
  clear f0 f1 f5 f7 f8
  obtain ⟨rfl, f0, f1, f5, f7, f8, f16⟩ := hm
  refine SW.cond _ f16 (fun vh1 => ?_) (fun vh1 => ?_)
  ·have hbi := condT hbi vh1
   refine SW.seq ?_
   refine SW.regX (fun f_ t_ => σ0 = t_ ∧ f_ 4 = AV.int (((k : Nat) : Int))) (fun M hM => ?_) (fun fr7 τz5 hm => ?_)
   ·simp [go_sem, f0, f1, f16, f5, f7, f8]
    refine (hM _ _).2 ⟨rfl, ?_⟩ <;> simp [go_sem, f0, f1, f16, f5, f7, f8]
   clear f0 f1 f16 f5 f7 f8
   obtain ⟨rfl, f4⟩ := hm
   obtain rfl := Option.some.inj hbi
   obtain rfl := Option.some.inj hci
   obtain rfl := Option.some.inj hoi
   exact SW.ret ⟨AV.int (((k : Nat) : Int)), by simp [go_sem, f4], .lit _, Keeps.refl _⟩
  have hbi := condF hbi vh1
  refine SW.skip ?_
  refine SW.blk ?_
  refine SW.regX (fun f_ t_ => σ0 = t_ ∧ f_ 0 = e3sA (s) ∧ f_ 1 = AV.fn fg fc ∧ f_ 7 = AV.int (((s.length : Nat) : Int)) ∧ f_ 8 = AV.int (((k + 1 : Nat) : Int))) (fun M hM => ?_) (fun fr8 τz6 hm => ?_)
  ·simp [go_sem, f0, f1, f16, f5, f7, f8, hwk]
   refine (hM _ _).2 ⟨rfl, ?_, ?_, ?_, ?_⟩ <;> simp [go_sem, f0, f1, f16, f5, f7, f8, hwk]
  clear f0 f1 f16 f5 f7 f8
  obtain ⟨rfl, f0, f1, f7, f8⟩ := hm
  obtain rfl := Option.some.inj hbi
  exact SW.goal ⟨s.length - (k + 1), by omega, (hJi _ _ _).2 ⟨k + 1, rfl, hci, rfl, f0, f1, f7, f8⟩⟩
 intro fr9 τ1 hm
 rw [hKLi] at hm
 clear hKLi hruni
 clear f0 f1 f7 f8
 obtain ⟨rfl, rfl⟩ := hm
 simp only [Out.on] at hoi
 refine SW.seq ?_
 refine SW.regX (fun f_ t_ => σ0 = t_ ∧ f_ 4 = AV.int (-1)) (fun M hM => ?_) (fun fr10 τz7 hm => ?_)
 ·simp [go_sem]
  refine (hM _ _).2 ⟨rfl, ?_⟩ <;> simp [go_sem]
 obtain ⟨rfl, f4⟩ := hm
 obtain rfl := Option.some.inj hoi
 exact SW.ret ⟨AV.int (-1), by simp [go_sem, f4], .lit _, Keeps.refl _⟩
set_option maxHeartbeats 4000000 in
theorem w_slices_ContainsFunc_Edge (s : List E3) (f : E3 → Option (Bool)) (fg : FuncId) (fc : List AV) (fev : ∀ (a0 : E3) (r : Bool), f a0 = some r → PureA Tryz.prog fg ([AV.agg [AV.int (a0.kind), AV.int (a0.src), AV.int (a0.tgt)]] ++ fc) (AV.bool (r))) (r : (Bool)) (h : s_slices_ContainsFunc_Edge s f = some r) : PureA Tryz.prog 53 [e3sA (s), AV.fn fg fc] (AV.bool (r)) := by
 refine pureA_of_SW (N := 9) Tryz.func53 (by kernel_rfl) rfl (by rw [Tryz.ntmps53]; rfl) (fun σ0 => ?_)
 rw [Tryz.results53]
 obtain ⟨fr0, hfr⟩ : ∃ fr, fr = initFr [e3sA (s), AV.fn fg fc] := ⟨_, rfl⟩
 rw [← hfr]
 have f0 : fr0 0 = e3sA (s) := by rw [hfr]; rfl
 have f1 : fr0 1 = AV.fn fg fc := by rw [hfr]; rfl
 clear hfr
 simp only [s_slices_ContainsFunc_Edge] at h
 refine SW.seq ?_
 refine SW.regX (fun f_ t_ => σ0 = t_ ∧ f_ 0 = e3sA (s) ∧ f_ 1 = AV.fn fg fc) (fun M hM => ?_) (fun fr1 τz hm => ?_)
 ·simp [go_sem, f0, f1]
  refine (hM _ _).2 ⟨rfl, ?_, ?_⟩ <;> simp [go_sem, f0, f1]
 clear f0 f1
 obtain ⟨rfl, f0, f1⟩ := hm
 refine SW.seq ?_
 obtain ⟨n, hn, h⟩ := obind h
 refine SW.regX (fun f_ t_ => σ0 = t_ ∧ f_ 4 = AV.bool ((decide (0 ≤ n)))) (fun M hM => ?_) (fun fr2 τz1 hm => ?_)
 ·simp [go_sem, f0, f1]
  refine EWcall_pure (w_slices_IndexFunc_Edge s f fg fc fev _ hn) ?_
  simp [go_sem, f0, f1]
  refine (hM _ _).2 ⟨rfl, ?_⟩ <;> simp [go_sem, f0, f1]
 clear f0 f1
 obtain ⟨rfl, f4⟩ := hm
 obtain rfl := Option.some.inj h
 exact SW.ret ⟨AV.bool ((decide (0 ≤ n))), by simp [go_sem, f4], .lit _, Keeps.refl _⟩
set_option maxHeartbeats 4000000 in
theorem w_attribute_Valid_c1 (n : Int) (a : Types) (r : (Bool)) (h : s_attribute_Valid_c1 n a = some r) : PureA Tryz.prog 52 [AV.int (n), AV.iptr [nodesA (a.nodes), edgesA (a.edges)]] (AV.bool (r)) := by
 refine pureA_of_SW (N := 9) Tryz.func52 (by kernel_rfl) rfl (by rw [Tryz.ntmps52]; rfl) (fun σ0 => ?_)
 rw [Tryz.results52]
 obtain ⟨fr0, hfr⟩ : ∃ fr, fr = initFr [AV.int (n), AV.iptr [nodesA (a.nodes), edgesA (a.edges)]] := ⟨_, rfl⟩
 rw [← hfr]
 have f0 : fr0 0 = AV.int (n) := by rw [hfr]; rfl
 have f1 : fr0 1 = AV.iptr [nodesA (a.nodes), edgesA (a.edges)] := by rw [hfr]; rfl
 clear hfr
 simp only [s_attribute_Valid_c1] at h
 refine SW.seq ?_
 refine SW.regX (fun f_ t_ => σ0 = t_ ∧ f_ 0 = AV.int (n) ∧ f_ 1 = AV.iptr [nodesA (a.nodes), edgesA (a.edges)]) (fun M hM => ?_) (fun fr1 τz hm => ?_)
 ·simp [go_sem, f0, f1]
  refine (hM _ _).2 ⟨rfl, ?_, ?_⟩ <;> simp [go_sem, f0, f1]
 clear f0 f1
 obtain ⟨rfl, f0, f1⟩ := hm
 refine SW.seq ?_
 refine SW.regX (fun f_ t_ => σ0 = t_ ∧ f_ 3 = AV.bool ((decide (((a.nodes.length : Nat) : Int) ≤ n)))) (fun M hM => ?_) (fun fr2 τz1 hm => ?_)
 ·simp [go_sem, f0, f1]
  refine (hM _ _).2 ⟨rfl, ?_⟩ <;> simp [go_sem, f0, f1]
 clear f0 f1
 obtain ⟨rfl, f3⟩ := hm
 obtain rfl := Option.some.inj h
 exact SW.ret ⟨AV.bool ((decide (((a.nodes.length : Nat) : Int) ≤ n))), by simp [go_sem, f3], .lit _, Keeps.refl _⟩
set_option maxHeartbeats 4000000 in
theorem w_attribute_Valid_c2 (x : E3) (a : Types) (r : (Bool)) (h : s_attribute_Valid_c2 x a = some r) : PureA Tryz.prog 54 [AV.agg [AV.int (x.kind), AV.int (x.src), AV.int (x.tgt)], AV.iptr [nodesA (a.nodes), edgesA (a.edges)]] (AV.bool (r)) := by
 refine pureA_of_SW (N := 10) Tryz.func54 (by kernel_rfl) rfl (by rw [Tryz.ntmps54]; rfl) (fun σ0 => ?_)
 rw [Tryz.results54]
 obtain ⟨fr0, hfr⟩ : ∃ fr, fr = initFr [AV.agg [AV.int (x.kind), AV.int (x.src), AV.int (x.tgt)], AV.iptr [nodesA (a.nodes), edgesA (a.edges)]] := ⟨_, rfl⟩
 rw [← hfr]
 have f0 : fr0 0 = AV.agg [AV.int (x.kind), AV.int (x.src), AV.int (x.tgt)] := by rw [hfr]; rfl
 have f1 : fr0 1 = AV.iptr [nodesA (a.nodes), edgesA (a.edges)] := by rw [hfr]; rfl
 clear hfr
 simp only [s_attribute_Valid_c2] at h
 refine SW.seq ?_
 refine SW.regX (fun f_ t_ => ∃ b2 : Nat, f_ 1 = AV.iptr [nodesA (a.nodes), edgesA (a.edges)] ∧ f_ 2 = AV.ptr b2 0 ∧ Kept σ0 t_ ∧ σ0.next ≤ t_.next ∧ t_.get b2 = some [AV.int (x.kind), AV.int (x.src), AV.int (x.tgt)] ∧ b2 < t_.next ∧ σ0.next ≤ b2) (fun M hM => ?_) (fun fr1 τ hm => ?_)
 ·simp [go_sem, f0, f1]
  refine (hM _ _).2 ⟨σ0.next, ?_, ?_, by intro j hj; simp [go_sem, show ¬ j = σ0.next by omega], by first | omega | (simp [go_sem]; done) | (simp [go_sem]; omega), by simp (disch := omega) [get_alloc_ne, get_set_ne, get_kill_ne, go_sem, f0, f1], by first | omega | (simp [go_sem]; done) | (simp [go_sem]; omega), by omega⟩ <;> simp [go_sem, f0, f1]
 clear f0 f1
 obtain ⟨b2, f1, f2, hK, hN, gb2, ub2, wb2⟩ := hm
 refine SW.seq ?_
 refine SW.regX (fun f_ t_ => τ = t_ ∧ f_ 3 = AV.bool ((decide (((a.edges.length : Nat) : Int) ≤ x.kind)))) (fun M hM => ?_) (fun fr2 τz hm => ?_)
 ·simp [go_sem, f1, f2, gb2]
  refine (hM _ _).2 ⟨rfl, ?_⟩ <;> simp [go_sem, f1, f2, gb2]
 clear f1 f2
 obtain ⟨rfl, f3⟩ := hm
 obtain rfl := Option.some.inj h
 exact SW.ret ⟨AV.bool ((decide (((a.edges.length : Nat) : Int) ≤ x.kind))), by simp [go_sem, f3], .lit _, hK.keeps⟩
set_option maxHeartbeats 4000000 in
theorem w_attribute_within (n : Int) (low : Int) (vhigh : Int) (r : (Bool)) (h : s_attribute_within n low vhigh = some r) : PureA Tryz.prog 40 [AV.int (n), AV.int (low), AV.int (vhigh)] (AV.bool (r)) := by
 refine pureA_of_SW (N := 15) Tryz.func40 (by kernel_rfl) rfl (by rw [Tryz.ntmps40]; rfl) (fun σ0 => ?_)
 rw [Tryz.results40]
 obtain ⟨fr0, hfr⟩ : ∃ fr, fr = initFr [AV.int (n), AV.int (low), AV.int (vhigh)] := ⟨_, rfl⟩
 rw [← hfr]
 have f0 : fr0 0 = AV.int (n) := by rw [hfr]; rfl
 have f1 : fr0 1 = AV.int (low) := by rw [hfr]; rfl
 have f2 : fr0 2 = AV.int (vhigh) := by rw [hfr]; rfl
 clear hfr
 simp only [s_attribute_within] at h
 refine SW.seq ?_
 refine SW.regX (fun f_ t_ => σ0 = t_ ∧ f_ 0 = AV.int (n) ∧ f_ 1 = AV.int (low) ∧ f_ 2 = AV.int (vhigh)) (fun M hM => ?_) (fun fr1 τz hm => ?_)
 ·simp [go_sem, f0, f1, f2]
  refine (hM _ _).2 ⟨rfl, ?_, ?_, ?_⟩ <;> simp [go_sem, f0, f1, f2]
 clear f0 f1 f2
 obtain ⟨rfl, f0, f1, f2⟩ := hm
 refine SW.seq ?_
 refine SW.regX (fun f_ t_ => σ0 = t_ ∧ f_ 6 = AV.bool ((((decide (low ≤ n))) && ((decide (n ≤ vhigh)))))) (fun M hM => ?_) (fun fr2 τz1 hm => ?_)
 ·rcases Bool.eq_false_or_eq_true ((decide (low ≤ n))) with y0 | y0
  ·have y0' := y0
   try simp at y0'
   simp [go_sem, f0, f1, f2, y0, y0']
   refine (hM _ _).2 ⟨rfl, ?_⟩ <;> simp [go_sem, f0, f1, f2, y0, y0']
  ·have y0' := y0
   try simp at y0'
   simp [go_sem, f0, f1, f2, y0, y0']
   refine (hM _ _).2 ⟨rfl, ?_⟩ <;> simp [go_sem, f0, f1, f2, y0, y0']
 clear f0 f1 f2
 obtain ⟨rfl, f6⟩ := hm
 obtain rfl := Option.some.inj h
 exact SW.ret ⟨AV.bool ((((decide (low ≤ n))) && ((decide (n ≤ vhigh))))), by simp [go_sem, f6], .lit _, Keeps.refl _⟩
set_option maxHeartbeats 4000000 in
theorem w_attribute_attr (t : Types) (p : GPattern) (s : GSlot) (r : (Attr × Bool)) (h : s_attribute_attr t p s = some r) : PureA Tryz.prog 55 [AV.agg [nodesA (t.nodes), edgesA (t.edges)], AV.agg [intsA (p.graph.nodes), e3sA (p.graph.edges), sl_GSlot (p.slots), AV.int (p.vars), sl_GTest (p.tests)], AV.agg [AV.int (s.node), AV.int (s.attr), AV.int (s.term.var), AV.int (s.term.add)]] (AV.tup [AV.agg [AV.str (r.1.name), AV.int (r.1.low), AV.int (r.1.high), strsA (r.1.names)], AV.bool (r.2)]) := by
 refine pureA_of_SW (N := 45) Tryz.func55 (by kernel_rfl) rfl (by rw [Tryz.ntmps55]; rfl) (fun σ0 => ?_)
 rw [Tryz.results55]
 obtain ⟨fr0, hfr⟩ : ∃ fr, fr = initFr [AV.agg [nodesA (t.nodes), edgesA (t.edges)], AV.agg [intsA (p.graph.nodes), e3sA (p.graph.edges), sl_GSlot (p.slots), AV.int (p.vars), sl_GTest (p.tests)], AV.agg [AV.int (s.node), AV.int (s.attr), AV.int (s.term.var), AV.int (s.term.add)]] := ⟨_, rfl⟩
 rw [← hfr]
 have f0 : fr0 0 = AV.agg [nodesA (t.nodes), edgesA (t.edges)] := by rw [hfr]; rfl
 have f1 : fr0 1 = AV.agg [intsA (p.graph.nodes), e3sA (p.graph.edges), sl_GSlot (p.slots), AV.int (p.vars), sl_GTest (p.tests)] := by rw [hfr]; rfl
 have f2 : fr0 2 = AV.agg [AV.int (s.node), AV.int (s.attr), AV.int (s.term.var), AV.int (s.term.add)] := by rw [hfr]; rfl
 clear hfr
 simp only [s_attribute_attr] at h
 refine SW.seq ?_
 refine SW.regX (fun f_ t_ => ∃ b3 : Nat, ∃ b4 : Nat, ∃ b5 : Nat, ∃ b6 : Nat, f_ 3 = AV.ptr b3 0 ∧ f_ 4 = AV.ptr b4 0 ∧ f_ 5 = AV.ptr b5 0 ∧ f_ 6 = AV.ptr b6 0 ∧ Kept σ0 t_ ∧ σ0.next ≤ t_.next ∧ t_.get b3 = some [nodesA (t.nodes), edgesA (t.edges)] ∧ b3 < t_.next ∧ t_.get b4 = some [intsA (p.graph.nodes), e3sA (p.graph.edges), sl_GSlot (p.slots), AV.int (p.vars), sl_GTest (p.tests)] ∧ b4 < t_.next ∧ t_.get b5 = some [AV.int (s.node), AV.int (s.attr), AV.int (s.term.var), AV.int (s.term.add)] ∧ b5 < t_.next ∧ t_.get b6 = some [AV.str ([]), AV.int (0), AV.int (0), AV.nils] ∧ b6 < t_.next ∧ σ0.next ≤ b3 ∧ σ0.next ≤ b4 ∧ ¬ b3 = b4 ∧ σ0.next ≤ b5 ∧ ¬ b3 = b5 ∧ ¬ b4 = b5 ∧ σ0.next ≤ b6 ∧ ¬ b3 = b6 ∧ ¬ b4 = b6 ∧ ¬ b5 = b6) (fun M hM => ?_) (fun fr1 τ hm => ?_)
 ·simp [go_sem, f0, f1, f2]
  refine (hM _ _).2 ⟨σ0.next, (σ0.next + 1), (σ0.next + 2), (σ0.next + 3), ?_, ?_, ?_, ?_, by intro j hj; simp [go_sem, show ¬ j = σ0.next by omega, show ¬ j = σ0.next + 1 by omega, show ¬ j = σ0.next + 2 by omega, show ¬ j = σ0.next + 3 by omega], by first | omega | (simp [go_sem]; done) | (simp [go_sem]; omega), by simp (disch := omega) [get_alloc_ne, get_set_ne, get_kill_ne, go_sem, f0, f1, f2], by first | omega | (simp [go_sem]; done) | (simp [go_sem]; omega), by simp (disch := omega) [get_alloc_ne, get_set_ne, get_kill_ne, go_sem, f0, f1, f2], by first | omega | (simp [go_sem]; done) | (simp [go_sem]; omega), by simp (disch := omega) [get_alloc_ne, get_set_ne, get_kill_ne, go_sem, f0, f1, f2], by first | omega | (simp [go_sem]; done) | (simp [go_sem]; omega), by simp (disch := omega) [get_alloc_ne, get_set_ne, get_kill_ne, go_sem, f0, f1, f2], by first | omega | (simp [go_sem]; done) | (simp [go_sem]; omega), by omega, by omega, by omega, by omega, by omega, by omega, by omega, by omega, by omega, by omega⟩ <;> simp [go_sem, f0, f1, f2]
 clear f0 f1 f2
 obtain ⟨b3, b4, b5, b6, f3, f4, f5, f6, hK, hN, gb3, ub3, gb4, ub4, gb5, ub5, gb6, ub6, wb3, wb4, eb3b4, wb5, eb3b5, eb4b5, wb6, eb3b6, eb4b6, eb5b6⟩ := hm
 refine SW.seq ?_
 refine SW.seq ?_
 obtain ⟨q, hq, h⟩ := obind h
 refine SW.regX (fun f_ t_ => τ = t_ ∧ f_ 3 = AV.ptr b3 0 ∧ f_ 4 = AV.ptr b4 0 ∧ f_ 5 = AV.ptr b5 0 ∧ f_ 6 = AV.ptr b6 0 ∧ f_ 18 = AV.bool ((!q))) (fun M hM => ?_) (fun fr2 τz hm => ?_)
 ·simp [go_sem, f3, f4, f5, f6, gb3, gb4, gb5, gb6]
  refine EWcall_pure (w_attribute_within s.node 0 (IntKind.i64.wrap (((p.graph.nodes.length : Nat) : Int) - 1)) _ hq) ?_
  simp [go_sem, f3, f4, f5, f6, gb3, gb4, gb5, gb6]
  refine (hM _ _).2 ⟨rfl, ?_, ?_, ?_, ?_, ?_⟩ <;> simp [go_sem, f3, f4, f5, f6, gb3, gb4, gb5, gb6]
 clear f3 f4 f5 f6
 obtain ⟨rfl, f3, f4, f5, f6, f18⟩ := hm
 refine SW.cond _ f18 (fun vh => ?_) (fun vh => ?_)
 ·have h := condT h vh
  refine SW.seq ?_
  refine SW.regX (fun f_ t_ => f_ 6 = AV.ptr b6 0 ∧ f_ 7 = AV.bool (false) ∧ Kept σ0 t_ ∧ σ0.next ≤ t_.next ∧ t_.get b6 = some [AV.str ([]), AV.int (0), AV.int (0), AV.nils] ∧ b6 < t_.next) (fun M hM => ?_) (fun fr3 τ1 hm => ?_)
  ·have nb3_b6 : ¬ b3 = b6 := by omega
   have nb4_b6 : ¬ b4 = b6 := by omega
   have nb5_b6 : ¬ b5 = b6 := by omega
   simp [go_sem, f18, f3, f4, f5, f6, gb3, gb4, gb5, gb6, nb3_b6, nb4_b6, nb5_b6]
   refine (hM _ _).2 ⟨?_, ?_, by intro j hj; have hj_ := hK j hj; simp [go_sem, hj_.1, hj_.2, show ¬ j = b6 by omega], by first | omega | (simp [go_sem]; done) | (simp [go_sem]; omega), by simp (disch := omega) [get_alloc_ne, get_set_ne, get_kill_ne, go_sem, f18, f3, f4, f5, f6, gb3, gb4, gb5, gb6, nb3_b6, nb4_b6, nb5_b6], by first | omega | (simp [go_sem]; done) | (simp [go_sem]; omega)⟩ <;> simp [go_sem, f18, f3, f4, f5, f6, gb3, gb4, gb5, gb6, nb3_b6, nb4_b6, nb5_b6]
  clear f18 f3 f4 f5 f6 hK hN gb3 ub3 gb4 ub4 gb5 ub5 gb6 ub6
  obtain ⟨f6, f7, hK, hN, gb6, ub6⟩ := hm
  obtain rfl := Option.some.inj h
  exact SW.ret ⟨AV.tup [AV.agg [AV.str ([]), AV.int (0), AV.int (0), AV.nils], AV.bool (false)], by simp [go_sem, f6, f7, gb6], frz_tupL (frzL_c (frz_aggL (frzL_c (.lit _) (frzL_c (.lit _) (frzL_c (.lit _) (frzL_c (.nils) (frzL_n)))))) (frzL_c (.lit _) (frzL_n))), hK.keeps⟩
 have h := condF h vh
 refine SW.skip ?_
 refine SW.seq ?_
 obtain ⟨n, hn, h⟩ := obind h
 have xpn := getI_pos hn
 have xln := getI_lt hn
 have xin := getI_N hn
 have xdn := getN_map AV.int xin
 obtain ⟨rx, hrx, h⟩ := obind h
 refine SW.regX (fun f_ t_ => τ = t_ ∧ f_ 5 = AV.ptr b5 0 ∧ f_ 6 = AV.ptr b6 0 ∧ f_ 8 = attrsA (rx.1)) (fun M hM => ?_) (fun fr4 τz1 hm => ?_)
 ·refine EW_regionY τ 14 (.q false 0 (.q false 1 (.q false 2 (.q false 3 (.q false 4 (.q false 5 (.q false 6 (.q false 7 (.q true 8 (.q false 9 (.q false 10 (.q false 11 (.q false 12 (.q false 13 .done)))))))))))))) (by kernel_rfl) (by kernel_rfl) (fun _ _ h => h) (fun hfin => ?_)
  have hsub : Sub τ τ := (fun _ _ h => h)
  simp (maxDischargeDepth := 12) [go_sem, f18, f3, f4, f5, f6, gb3, gb4, gb5, gb6, xpn, xln, xdn, sub_set, sub_killAll, hsub]
  refine EWzp_pure (w_types_Attrs t n _ hrx) ?_
  simp (maxDischargeDepth := 12) [go_sem, f18, f3, f4, f5, f6, gb3, gb4, gb5, gb6, xpn, xln, xdn, sub_set, sub_killAll, hsub]
  refine (hM _ _).2 ⟨rfl, ?_, ?_, ?_⟩ <;> simp [go_sem, f18, f3, f4, f5, f6, gb3, gb4, gb5, gb6, xpn, xln, xdn, sub_set, sub_killAll, hsub]
 clear f18 f3 f4 f5 f6
 obtain ⟨rfl, f5, f6, f8⟩ := hm
 refine SW.seq ?_
 refine SW.seq ?_
 obtain ⟨q1, hq1, h⟩ := obind h
 refine SW.regX (fun f_ t_ => τ = t_ ∧ f_ 5 = AV.ptr b5 0 ∧ f_ 6 = AV.ptr b6 0 ∧ f_ 8 = attrsA (rx.1) ∧ f_ 38 = AV.bool ((!q1))) (fun M hM => ?_) (fun fr5 τz2 hm => ?_)
 ·simp [go_sem, f5, f6, f8, gb5, gb6]
  refine EWcall_pure (w_attribute_within s.attr 0 (IntKind.i64.wrap (((rx.1.length : Nat) : Int) - 1)) _ hq1) ?_
  simp [go_sem, f5, f6, f8, gb5, gb6]
  refine (hM _ _).2 ⟨rfl, ?_, ?_, ?_, ?_⟩ <;> simp [go_sem, f5, f6, f8, gb5, gb6]
 clear f5 f6 f8
 obtain ⟨rfl, f5, f6, f8, f38⟩ := hm
 refine SW.cond _ f38 (fun vh1 => ?_) (fun vh1 => ?_)
 ·have h := condT h vh1
  refine SW.seq ?_
  refine SW.regX (fun f_ t_ => f_ 6 = AV.ptr b6 0 ∧ f_ 7 = AV.bool (false) ∧ Kept σ0 t_ ∧ σ0.next ≤ t_.next ∧ t_.get b6 = some [AV.str ([]), AV.int (0), AV.int (0), AV.nils] ∧ b6 < t_.next) (fun M hM => ?_) (fun fr6 τ2 hm => ?_)
  ·have nb5_b6 : ¬ b5 = b6 := by omega
   simp [go_sem, f38, f5, f6, f8, gb5, gb6, nb5_b6]
   refine (hM _ _).2 ⟨?_, ?_, by intro j hj; have hj_ := hK j hj; simp [go_sem, hj_.1, hj_.2, show ¬ j = b6 by omega], by first | omega | (simp [go_sem]; done) | (simp [go_sem]; omega), by simp (disch := omega) [get_alloc_ne, get_set_ne, get_kill_ne, go_sem, f38, f5, f6, f8, gb5, gb6, nb5_b6], by first | omega | (simp [go_sem]; done) | (simp [go_sem]; omega)⟩ <;> simp [go_sem, f38, f5, f6, f8, gb5, gb6, nb5_b6]
  clear f38 f5 f6 f8 hK hN gb5 ub5 gb6 ub6
  obtain ⟨f6, f7, hK, hN, gb6, ub6⟩ := hm
  obtain rfl := Option.some.inj h
  exact SW.ret ⟨AV.tup [AV.agg [AV.str ([]), AV.int (0), AV.int (0), AV.nils], AV.bool (false)], by simp [go_sem, f6, f7, gb6], frz_tupL (frzL_c (frz_aggL (frzL_c (.lit _) (frzL_c (.lit _) (frzL_c (.lit _) (frzL_c (.nils) (frzL_n)))))) (frzL_c (.lit _) (frzL_n))), hK.keeps⟩
 have h := condF h vh1
 refine SW.skip ?_
 refine SW.seq ?_
 obtain ⟨x, hx, h⟩ := obind h
 have xpx := getI_pos hx
 have xlx := getI_lt hx
 have xix := getI_N hx
 have xdx := getN_flat attrC 4 (fun _ => rfl) xix
 refine SW.regX (fun f_ t_ => f_ 6 = AV.ptr b6 0 ∧ f_ 7 = AV.bool (true) ∧ Kept σ0 t_ ∧ σ0.next ≤ t_.next ∧ t_.get b6 = some [AV.str (x.name), AV.int (x.low), AV.int (x.high), strsA (x.names)] ∧ b6 < t_.next) (fun M hM => ?_) (fun fr7 τ3 hm => ?_)
 ·have nb5_b6 : ¬ b5 = b6 := by omega
  simp [go_sem, f38, f5, f6, f8, gb5, gb6, xpx, xlx, xdx, attrC, nb5_b6]
  refine (hM _ _).2 ⟨?_, ?_, by intro j hj; have hj_ := hK j hj; simp [go_sem, hj_.1, hj_.2, show ¬ j = b6 by omega], by first | omega | (simp [go_sem]; done) | (simp [go_sem]; omega), by simp (disch := omega) [get_alloc_ne, get_set_ne, get_kill_ne, go_sem, f38, f5, f6, f8, gb5, gb6, xpx, xlx, xdx, attrC, nb5_b6], by first | omega | (simp [go_sem]; done) | (simp [go_sem]; omega)⟩ <;> simp [go_sem, f38, f5, f6, f8, gb5, gb6, xpx, xlx, xdx, attrC, nb5_b6]
 clear f38 f5 f6 f8 hK hN gb5 ub5 gb6 ub6
 obtain ⟨f6, f7, hK, hN, gb6, ub6⟩ := hm
 obtain rfl := Option.some.inj h
 exact SW.ret ⟨AV.tup [AV.agg [AV.str (x.name), AV.int (x.low), AV.int (x.high), strsA (x.names)], AV.bool (true)], by simp [go_sem, f6, f7, gb6], frz_tupL (frzL_c (frz_aggL (frzL_c (.lit _) (frzL_c (.lit _) (frzL_c (.lit _) (frzL_c ((DataA.imm (DataL.map (fun _ => .lit _) x.names)) _ _) (frzL_n)))))) (frzL_c (.lit _) (frzL_n))), hK.keeps⟩
set_option maxHeartbeats 4000000 in
theorem w_difference_term (n : Int) (t : GTerm) (r : (Bool)) (h : s_difference_term n t = some r) : PureA Tryz.prog 151 [AV.int (n), AV.agg [AV.int (t.var), AV.int (t.add)]] (AV.bool (r)) := by
 refine pureA_of_SW (N := 24) Tryz.func151 (by kernel_rfl) rfl (by rw [Tryz.ntmps151]; rfl) (fun σ0 => ?_)
 rw [Tryz.results151]
 obtain ⟨fr0, hfr⟩ : ∃ fr, fr = initFr [AV.int (n), AV.agg [AV.int (t.var), AV.int (t.add)]] := ⟨_, rfl⟩
 rw [← hfr]
 have f0 : fr0 0 = AV.int (n) := by rw [hfr]; rfl
 have f1 : fr0 1 = AV.agg [AV.int (t.var), AV.int (t.add)] := by rw [hfr]; rfl
 clear hfr
 simp only [s_difference_term] at h
 refine SW.seq ?_
 refine SW.regX (fun f_ t_ => ∃ b3 : Nat, f_ 0 = AV.int (n) ∧ f_ 3 = AV.ptr b3 0 ∧ Kept σ0 t_ ∧ σ0.next ≤ t_.next ∧ t_.get b3 = some [AV.int (t.var), AV.int (t.add)] ∧ b3 < t_.next ∧ σ0.next ≤ b3) (fun M hM => ?_) (fun fr1 τ hm => ?_)
 ·simp [go_sem, f0, f1]
  refine (hM _ _).2 ⟨σ0.next, ?_, ?_, by intro j hj; simp [go_sem, show ¬ j = σ0.next by omega], by first | omega | (simp [go_sem]; done) | (simp [go_sem]; omega), by simp (disch := omega) [get_alloc_ne, get_set_ne, get_kill_ne, go_sem, f0, f1], by first | omega | (simp [go_sem]; done) | (simp [go_sem]; omega), by omega⟩ <;> simp [go_sem, f0, f1]
 clear f0 f1
 obtain ⟨b3, f0, f3, hK, hN, gb3, ub3, wb3⟩ := hm
 refine SW.seq ?_
 refine SW.regX (fun f_ t_ => τ = t_ ∧ f_ 4 = AV.bool ((((decide (-1 ≤ t.var))) && ((((decide (t.var < n))) && ((((decide (-1000000 ≤ t.add))) && ((decide (t.add ≤ 1000000)))))))))) (fun M hM => ?_) (fun fr2 τz hm => ?_)
 ·rcases Bool.eq_false_or_eq_true ((decide (-1 ≤ t.var))) with y0 | y0
  ·have y0' := y0
   try simp at y0'
   rcases Bool.eq_false_or_eq_true ((decide (t.var < n))) with y2 | y2
   ·have y2' := y2
    try simp [y0'] at y2'
    all_goals
     rcases Bool.eq_false_or_eq_true ((decide (-1000000 ≤ t.add))) with y4 | y4
     ·have y4' := y4
      try simp [y0', y2'] at y4'
      all_goals
       simp [go_sem, f0, f3, gb3, y0, y0', y2, y2', y4, y4']
       refine (hM _ _).2 ⟨rfl, ?_⟩ <;> simp [go_sem, f0, f3, gb3, y0, y0', y2, y2', y4, y4']
     ·have y4' := y4
      try simp [y0', y2'] at y4'
      all_goals
       simp [go_sem, f0, f3, gb3, y0, y0', y2, y2', y4, y4']
       refine (hM _ _).2 ⟨rfl, ?_⟩ <;> simp [go_sem, f0, f3, gb3, y0, y0', y2, y2', y4, y4']
   ·have y2' := y2
    try simp [y0'] at y2'
    all_goals
     simp [go_sem, f0, f3, gb3, y0, y0', y2, y2']
     refine (hM _ _).2 ⟨rfl, ?_⟩ <;> simp [go_sem, f0, f3, gb3, y0, y0', y2, y2']
  ·have y0' := y0
   try simp at y0'
   simp [go_sem, f0, f3, gb3, y0, y0']
   refine (hM _ _).2 ⟨rfl, ?_⟩ <;> simp [go_sem, f0, f3, gb3, y0, y0']
 clear f0 f3
 obtain ⟨rfl, f4⟩ := hm
 obtain rfl := Option.some.inj h
 exact SW.ret ⟨AV.bool ((((decide (-1 ≤ t.var))) && ((((decide (t.var < n))) && ((((decide (-1000000 ≤ t.add))) && ((decide (t.add ≤ 1000000))))))))), by simp [go_sem, f4], .lit _, hK.keeps⟩
set_option maxHeartbeats 4000000 in
theorem w_difference_one (n : Int) (x : GTest) (r : (Int)) (h : s_difference_one n x = some r) : PureA Tryz.prog 109 [AV.int (n), AV.agg [AV.int (x.kind), AV.int (x.left.var), AV.int (x.left.add), AV.int (x.right.var), AV.int (x.right.add)]] (AV.int (r)) := by
 refine pureA_of_SW (N := 27) Tryz.func109 (by kernel_rfl) rfl (by rw [Tryz.ntmps109]; rfl) (fun σ0 => ?_)
 rw [Tryz.results109]
 obtain ⟨fr0, hfr⟩ : ∃ fr, fr = initFr [AV.int (n), AV.agg [AV.int (x.kind), AV.int (x.left.var), AV.int (x.left.add), AV.int (x.right.var), AV.int (x.right.add)]] := ⟨_, rfl⟩
 rw [← hfr]
 have f0 : fr0 0 = AV.int (n) := by rw [hfr]; rfl
 have f1 : fr0 1 = AV.agg [AV.int (x.kind), AV.int (x.left.var), AV.int (x.left.add), AV.int (x.right.var), AV.int (x.right.add)] := by rw [hfr]; rfl
 clear hfr
 simp only [s_difference_one] at h
 refine SW.seq ?_
 refine SW.regX (fun f_ t_ => ∃ b3 : Nat, f_ 0 = AV.int (n) ∧ f_ 3 = AV.ptr b3 0 ∧ Kept σ0 t_ ∧ σ0.next ≤ t_.next ∧ t_.get b3 = some [AV.int (x.kind), AV.int (x.left.var), AV.int (x.left.add), AV.int (x.right.var), AV.int (x.right.add)] ∧ b3 < t_.next ∧ σ0.next ≤ b3) (fun M hM => ?_) (fun fr1 τ hm => ?_)
 ·simp [go_sem, f0, f1]
  refine (hM _ _).2 ⟨σ0.next, ?_, ?_, by intro j hj; simp [go_sem, show ¬ j = σ0.next by omega], by first | omega | (simp [go_sem]; done) | (simp [go_sem]; omega), by simp (disch := omega) [get_alloc_ne, get_set_ne, get_kill_ne, go_sem, f0, f1], by first | omega | (simp [go_sem]; done) | (simp [go_sem]; omega), by omega⟩ <;> simp [go_sem, f0, f1]
 clear f0 f1
 obtain ⟨b3, f0, f3, hK, hN, gb3, ub3, wb3⟩ := hm
 refine SW.seq ?_
 refine SW.block ?_
 refine SW.seq ?_
 refine SW.regX (fun f_ t_ => τ = t_ ∧ f_ 0 = AV.int (n) ∧ f_ 3 = AV.ptr b3 0 ∧ f_ 5 = AV.bool ((((!decide (x.kind = 1))) && ((!decide (x.kind = 2)))))) (fun M hM => ?_) (fun fr2 τz hm => ?_)
 ·rcases Bool.eq_false_or_eq_true ((!decide (x.kind = 1))) with y0 | y0
  ·have y0' := y0
   try simp at y0'
   simp [go_sem, f0, f3, gb3, y0, y0']
   refine (hM _ _).2 ⟨rfl, ?_, ?_, ?_⟩ <;> simp [go_sem, f0, f3, gb3, y0, y0']
  ·have y0' := y0
   try simp at y0'
   simp [go_sem, f0, f3, gb3, y0, y0']
   refine (hM _ _).2 ⟨rfl, ?_, ?_, ?_⟩ <;> simp [go_sem, f0, f3, gb3, y0, y0']
 clear f0 f3
 obtain ⟨rfl, f0, f3, f5⟩ := hm
 refine SW.cond _ f5 (fun vh => ?_) (fun vh => ?_)
 ·have h := condT h vh
  refine SW.seq ?_
  refine SW.regX (fun f_ t_ => τ = t_ ∧ f_ 4 = AV.int (1)) (fun M hM => ?_) (fun fr3 τz1 hm => ?_)
  ·simp [go_sem, f0, f3, f5, gb3]
   refine (hM _ _).2 ⟨rfl, ?_⟩ <;> simp [go_sem, f0, f3, f5, gb3]
  clear f0 f3 f5
  obtain ⟨rfl, f4⟩ := hm
  obtain rfl := Option.some.inj h
  exact SW.ret ⟨AV.int (1), by simp [go_sem, f4], .lit _, hK.keeps⟩
 have h := condF h vh
 refine SW.seq ?_
 obtain ⟨q, hq, h⟩ := obind h
 obtain ⟨c, hc, h⟩ := obind h
 refine SW.regX (fun f_ t_ => τ = t_ ∧ f_ 14 = AV.bool (c)) (fun M hM => ?_) (fun fr4 τz2 hm => ?_)
 ·rcases Bool.eq_false_or_eq_true ((!q)) with y0 | y0
  ·have y0' := y0
   try simp at y0'
   have ky0 := condT hc y0
   have ec := Option.some.inj ky0
   simp [go_sem, f0, f3, f5, gb3, y0, y0']
   refine EWcall_pure (w_difference_term n x.left _ hq) ?_
   simp [go_sem, f0, f3, f5, gb3, y0, y0']
   refine (hM _ _).2 ⟨rfl, ?_⟩ <;> simp [go_sem, f0, f3, f5, gb3, y0, y0', ← ec]
  ·have y0' := y0
   try simp at y0'
   have ky0 := condF hc y0
   obtain ⟨q1, hq1, ky0⟩ := obind ky0
   have ec := Option.some.inj ky0
   simp [go_sem, f0, f3, f5, gb3, y0, y0']
   refine EWcall_pure (w_difference_term n x.left _ hq) ?_
   simp [go_sem, f0, f3, f5, gb3, y0, y0']
   refine EWcall_pure (w_difference_term n x.right _ hq1) ?_
   simp [go_sem, f0, f3, f5, gb3, y0, y0']
   refine (hM _ _).2 ⟨rfl, ?_⟩ <;> simp [go_sem, f0, f3, f5, gb3, y0, y0', ← ec]
 clear f0 f3 f5
 obtain ⟨rfl, f14⟩ := hm
 refine SW.cond _ f14 (fun vh1 => ?_) (fun vh1 => ?_)
 ·have h := condT h vh1
  refine SW.seq ?_
  refine SW.regX (fun f_ t_ => τ = t_ ∧ f_ 4 = AV.int (6)) (fun M hM => ?_) (fun fr5 τz3 hm => ?_)
  ·simp [go_sem, f14]
   refine (hM _ _).2 ⟨rfl, ?_⟩ <;> simp [go_sem, f14]
  clear f14
  obtain ⟨rfl, f4⟩ := hm
  obtain rfl := Option.some.inj h
  exact SW.ret ⟨AV.int (6), by simp [go_sem, f4], .lit _, hK.keeps⟩
 have h := condF h vh1
 refine SW.skip ?_
 refine SW.blk ?_
 refine SW.seq ?_
 refine SW.regX (fun f_ t_ => τ = t_ ∧ f_ 4 = AV.int (0)) (fun M hM => ?_) (fun fr6 τz4 hm => ?_)
 ·simp [go_sem, f14]
  refine (hM _ _).2 ⟨rfl, ?_⟩ <;> simp [go_sem, f14]
 clear f14
 obtain ⟨rfl, f4⟩ := hm
 obtain rfl := Option.some.inj h
 exact SW.ret ⟨AV.int (0), by simp [go_sem, f4], .lit _, hK.keeps⟩
end Go.Proofs.YtippinddoldhkaaGreat
