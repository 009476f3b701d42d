/-
  Plain functions and the walks that lead to them, by a program of ours (gen.py): scarfjoint/scarfjointref17.match.
-/
import Derived.Test.YtdacgjleiloooaaGreatGd
import Derived.Test.YtdacgjleiloooaaGreatGT
import Derived.Test.YtdacgjleiloooaaGreatB3
import Derived.Test.YtdacgjleiloooaaGreatGS
import Derived.Test.YtdacgjleiloooaaGreatGa5
import Derived.Test.YtdacgjleiloooaaGreatGa19
set_option linter.unusedSimpArgs false
set_option linter.unusedVariables false
namespace Go.Proofs.YtdacgjleiloooaaGreat
open Go Go.Ew Go.Proofs Go.RowKit
set_option maxRecDepth 100000
set_option maxHeartbeats 4000000 in
theorem w_ref17_match (F : Nat) (t : Types) (o : Graph) (A : Graph) (rx : Morph) (rx1 : Bool) (r : (Int)) (h : s_ref17_match F t o A rx rx1 = some r) : PureA Tryz.prog 50 [AV.agg [nodesA (t.nodes), edgesA (t.edges)], AV.agg [intsA (o.nodes), e3sA (o.edges)], AV.agg [intsA (A.nodes), e3sA (A.edges)], AV.agg [intsA (rx.nodes), intsA (rx.edges)], AV.bool (rx1)] (AV.int (r)) := by
  refine pureA_of_SW (N := 148) Tryz.func50 (by kernel_rfl) rfl (by rw [Tryz.ntmps50]; rfl) (fun σ0 => ?_)
  rw [Tryz.results50]
  obtain ⟨fr0, hfr⟩ : ∃ fr, fr = initFr [AV.agg [nodesA (t.nodes), edgesA (t.edges)], AV.agg [intsA (o.nodes), e3sA (o.edges)], AV.agg [intsA (A.nodes), e3sA (A.edges)], AV.agg [intsA (rx.nodes), intsA (rx.edges)], AV.bool (rx1)] := ⟨_, rfl⟩
  rw [← hfr]
  have f0 : fr0 0 = AV.agg [nodesA (t.nodes), edgesA (t.edges)] := by rw [hfr]; rfl
  have f1 : fr0 1 = AV.agg [intsA (o.nodes), e3sA (o.edges)] := by rw [hfr]; rfl
  have f2 : fr0 2 = AV.agg [intsA (A.nodes), e3sA (A.edges)] := by rw [hfr]; rfl
  have f3 : fr0 3 = AV.agg [intsA (rx.nodes), intsA (rx.edges)] := by rw [hfr]; rfl
  have f4 : fr0 4 = AV.bool (rx1) := by rw [hfr]; rfl
  clear hfr
  simp only [s_ref17_match] at h
  refine SW.seq ?_
  -- region 0
  refine SW.regX (fun f_ t_ => ∃ b5 : Nat, ∃ b6 : Nat, ∃ b7 : Nat, ∃ b8 : Nat, f_ 4 = AV.bool (rx1) ∧ f_ 5 = AV.ptr b5 0 ∧ f_ 6 = AV.ptr b6 0 ∧ f_ 7 = AV.ptr b7 0 ∧ f_ 8 = AV.ptr b8 0 ∧ Kept σ0 t_ ∧ σ0.next ≤ t_.next ∧ t_.get b5 = some [nodesA (t.nodes), edgesA (t.edges)] ∧ b5 < t_.next ∧ t_.get b6 = some [intsA (o.nodes), e3sA (o.edges)] ∧ b6 < t_.next ∧ t_.get b7 = some [intsA (A.nodes), e3sA (A.edges)] ∧ b7 < t_.next ∧ t_.get b8 = some [intsA (rx.nodes), intsA (rx.edges)] ∧ b8 < t_.next ∧ σ0.next ≤ b5 ∧ σ0.next ≤ b6 ∧ ¬ b5 = b6 ∧ σ0.next ≤ b7 ∧ ¬ b5 = b7 ∧ ¬ b6 = b7 ∧ σ0.next ≤ b8 ∧ ¬ b5 = b8 ∧ ¬ b6 = b8 ∧ ¬ b7 = b8) (fun M hM => ?_) (fun fr1 τ hm => ?_)
  · simp [go_sem, f0, f1, f2, f3, f4]
    refine (hM _ _).2 ⟨σ0.next, (σ0.next + 1), (σ0.next + 2), (σ0.next + 3), ?_, ?_, ?_, ?_, ?_, by intro j hj; simp [go_sem, show ¬ j = σ0.next by omega, show ¬ j = σ0.next + 1 by omega, show ¬ j = σ0.next + 2 by omega, show ¬ j = σ0.next + 3 by omega], by first | omega | (simp [go_sem]; done) | (simp [go_sem]; omega), by simp (disch := omega) [get_alloc_ne, get_set_ne, get_kill_ne, go_sem, f0, f1, f2, f3, f4], by first | omega | (simp [go_sem]; done) | (simp [go_sem]; omega), by simp (disch := omega) [get_alloc_ne, get_set_ne, get_kill_ne, go_sem, f0, f1, f2, f3, f4], by first | omega | (simp [go_sem]; done) | (simp [go_sem]; omega), by simp (disch := omega) [get_alloc_ne, get_set_ne, get_kill_ne, go_sem, f0, f1, f2, f3, f4], by first | omega | (simp [go_sem]; done) | (simp [go_sem]; omega), by simp (disch := omega) [get_alloc_ne, get_set_ne, get_kill_ne, go_sem, f0, f1, f2, f3, f4], by first | omega | (simp [go_sem]; done) | (simp [go_sem]; omega), by omega, by omega, by omega, by omega, by omega, by omega, by omega, by omega, by omega, by omega⟩ <;> simp [go_sem, f0, f1, f2, f3, f4]
  clear f0 f1 f2 f3 f4
  obtain ⟨b5, b6, b7, b8, f4, f5, f6, f7, f8, hK, hN, gb5, ub5, gb6, ub6, gb7, ub7, gb8, ub8, wb5, wb6, eb5b6, wb7, eb5b7, eb6b7, wb8, eb5b8, eb6b8, eb7b8⟩ := hm
  refine SW.seq ?_
  refine SW.seq ?_
  -- region 1
  refine SW.regX (fun f_ t_ => τ = t_ ∧ f_ 4 = AV.bool (rx1) ∧ f_ 5 = AV.ptr b5 0 ∧ f_ 6 = AV.ptr b6 0 ∧ f_ 7 = AV.ptr b7 0 ∧ f_ 8 = AV.ptr b8 0 ∧ f_ 30 = AV.bool ((((!decide (rx.nodes.length = o.nodes.length))) || ((!decide (rx.edges.length = o.edges.length)))))) (fun M hM => ?_) (fun fr2 τz hm => ?_)
  · rcases Bool.eq_false_or_eq_true ((!decide (rx.nodes.length = o.nodes.length))) with y0 | y0
    · have y0' := y0
      try simp at y0'
      simp [go_sem, f4, f5, f6, f7, f8, gb5, gb6, gb7, gb8, y0, y0']
      refine (hM _ _).2 ⟨rfl, ?_, ?_, ?_, ?_, ?_, ?_⟩ <;> simp [go_sem, f4, f5, f6, f7, f8, gb5, gb6, gb7, gb8, y0, y0']
    · have y0' := y0
      try simp at y0'
      simp [go_sem, f4, f5, f6, f7, f8, gb5, gb6, gb7, gb8, y0, y0']
      refine (hM _ _).2 ⟨rfl, ?_, ?_, ?_, ?_, ?_, ?_⟩ <;> simp [go_sem, f4, f5, f6, f7, f8, gb5, gb6, gb7, gb8, y0, y0']
  clear f4 f5 f6 f7 f8
  obtain ⟨rfl, f4, f5, f6, f7, f8, f30⟩ := hm
  refine SW.cond _ f30 (fun hx => ?_) (fun hx => ?_)
  · have h := condT h hx
    refine SW.seq ?_
    -- region 2
    refine SW.regX (fun f_ t_ => τ = t_ ∧ f_ 10 = AV.int (20)) (fun M hM => ?_) (fun fr3 τz1 hm => ?_)
    · simp [go_sem, f30, f4, f5, f6, f7, f8, gb5, gb6, gb7, gb8]
      refine (hM _ _).2 ⟨rfl, ?_⟩ <;> simp [go_sem, f30, f4, f5, f6, f7, f8, gb5, gb6, gb7, gb8]
    clear f30 f4 f5 f6 f7 f8
    obtain ⟨rfl, f10⟩ := hm
    obtain rfl := Option.some.inj h
    exact SW.ret ⟨AV.int (20), by simp [go_sem, f10], .lit _, hK.keeps⟩
  have h := condF h hx
  refine SW.skip ?_
  refine SW.seq ?_
  refine SW.seq ?_
  -- region 3
  refine SW.regX (fun f_ t_ => τ = t_ ∧ f_ 4 = AV.bool (rx1) ∧ f_ 5 = AV.ptr b5 0 ∧ f_ 6 = AV.ptr b6 0 ∧ f_ 7 = AV.ptr b7 0 ∧ f_ 8 = AV.ptr b8 0 ∧ f_ 11 = AV.int (0)) (fun M hM => ?_) (fun fr4 τz2 hm => ?_)
  · simp [go_sem, f30, f4, f5, f6, f7, f8, gb5, gb6, gb7, gb8]
    refine (hM _ _).2 ⟨rfl, ?_, ?_, ?_, ?_, ?_, ?_⟩ <;> simp [go_sem, f30, f4, f5, f6, f7, f8, gb5, gb6, gb7, gb8]
  clear f30 f4 f5 f6 f7 f8
  obtain ⟨rfl, f4, f5, f6, f7, f8, f11⟩ := hm
  obtain ⟨oi, hruni, hoi⟩ := obind h
  refine SW.lenB b8 0 gb8 rfl (fun hbigi => ?_)
  obtain ⟨KL, hKL⟩ : ∃ KL : Fr → Mem → Prop, ∀ fr' τ', KL fr' τ' ↔ (oi = .done () ∧ τ = τ' ∧ fr' 4 = AV.bool (rx1) ∧ fr' 6 = AV.ptr b6 0 ∧ fr' 7 = AV.ptr b7 0 ∧ fr' 8 = AV.ptr b8 0) := ⟨_, fun _ _ => Iff.rfl⟩
  refine SW.cut KL ?_ ?_
  · refine SW.block ?_
    obtain ⟨J, hJ⟩ : ∃ J : Nat → Fr → Mem → Prop, ∀ m_ fr' τ', J m_ fr' τ' ↔ (∃ k : Nat, m_ = rx.nodes.length - k ∧ forN (b1_ref17_match F t o A rx) (rx.nodes.length - k) k () = some oi ∧ τ = τ' ∧ fr' 4 = AV.bool (rx1) ∧ fr' 5 = AV.ptr b5 0 ∧ fr' 6 = AV.ptr b6 0 ∧ fr' 7 = AV.ptr b7 0 ∧ fr' 8 = AV.ptr b8 0 ∧ fr' 11 = AV.int (((k : Nat) : Int))) := ⟨_, fun _ _ _ => Iff.rfl⟩
    refine SW.loop J (rx.nodes.length - 0) ((hJ _ _ _).2 ⟨0, rfl, hruni, rfl, f4, f5, f6, f7, f8, f11⟩) ?_
    clear hruni
    intro m_ fr5 τ1 hm
    rw [hJ] at hm
    clear f11 f4 f5 f6 f7 f8
    obtain ⟨k, rfl, hruni, rfl, f4, f5, f6, f7, f8, f11⟩ := hm
    refine SW.seq ?_
    refine SW.seq ?_
    -- region 4
    refine SW.regX (fun f_ t_ => τ = t_ ∧ f_ 4 = AV.bool (rx1) ∧ f_ 5 = AV.ptr b5 0 ∧ f_ 6 = AV.ptr b6 0 ∧ f_ 7 = AV.ptr b7 0 ∧ f_ 8 = AV.ptr b8 0 ∧ f_ 11 = AV.int (((k : Nat) : Int)) ∧ f_ 35 = AV.bool ((decide (k < rx.nodes.length)))) (fun M hM => ?_) (fun fr6 τz3 hm => ?_)
    · simp [go_sem, f11, f4, f5, f6, f7, f8, gb5, gb6, gb7, gb8]
      refine (hM _ _).2 ⟨rfl, ?_, ?_, ?_, ?_, ?_, ?_, ?_⟩ <;> simp [go_sem, f11, f4, f5, f6, f7, f8, gb5, gb6, gb7, gb8]
    clear f11 f4 f5 f6 f7 f8
    obtain ⟨rfl, f4, f5, f6, f7, f8, f11, f35⟩ := hm
    refine SW.cond _ f35 (fun hx1 => ?_) (fun hx1 => ?_)
    rotate_left
    · have hk : ¬ k < rx.nodes.length := by have := of_decide_eq_false hx1; omega
      refine SW.exit rfl ?_
      exact SW.goal ((hKL _ _).2 ⟨forN_end hruni hk, rfl, f4, f6, f7, f8⟩)
    have hkk : k < rx.nodes.length := by have := of_decide_eq_true hx1; omega
    have hwk : IntKind.i64.wrap ((k : Int) + 1) = ((k + 1 : Nat) : Int) := by rw [wrap64_of _ (by omega) (by omega)]; rfl
    obtain ⟨ci, hbi, hci⟩ := forN_step hruni hkk
    simp only [b1_ref17_match] at hbi
    refine SW.skip ?_
    refine SW.seq ?_
    refine SW.block ?_
    refine SW.seq ?_
    refine SW.seq ?_
    -- region 6
    obtain ⟨n, hn, hbi⟩ := obind hbi
    have xln := getN_lt hn
    have xdn := getN_map AV.int hn
    refine SW.regX (fun f_ t_ => τ = t_ ∧ f_ 4 = AV.bool (rx1) ∧ f_ 5 = AV.ptr b5 0 ∧ f_ 6 = AV.ptr b6 0 ∧ f_ 7 = AV.ptr b7 0 ∧ f_ 8 = AV.ptr b8 0 ∧ f_ 11 = AV.int (((k : Nat) : Int)) ∧ f_ 54 = AV.bool ((((decide (n < 0))) || ((decide (((A.nodes.length : Nat) : Int) ≤ n)))))) (fun M hM => ?_) (fun fr7 τz4 hm => ?_)
    · refine EW_regionD (by kernel_rfl) (by kernel_rfl) ?_
      rcases Bool.eq_false_or_eq_true ((decide (n < 0))) with y0 | y0
      · have y0' := y0
        try simp at y0'
        simp [go_sem, f11, f35, f4, f5, f6, f7, f8, gb5, gb6, gb7, gb8, xln, xdn, y0, y0']
        refine (hM _ _).2 ⟨rfl, ?_, ?_, ?_, ?_, ?_, ?_, ?_⟩ <;> simp [go_sem, f11, f35, f4, f5, f6, f7, f8, gb5, gb6, gb7, gb8, xln, xdn, y0, y0']
      · have y0' := y0
        try simp at y0'
        simp [go_sem, f11, f35, f4, f5, f6, f7, f8, gb5, gb6, gb7, gb8, xln, xdn, y0, y0', xln, xdn]
        refine (hM _ _).2 ⟨rfl, ?_, ?_, ?_, ?_, ?_, ?_, ?_⟩ <;> simp [go_sem, f11, f35, f4, f5, f6, f7, f8, gb5, gb6, gb7, gb8, xln, xdn, y0, y0', xln, xdn]
    clear f11 f35 f4 f5 f6 f7 f8
    obtain ⟨rfl, f4, f5, f6, f7, f8, f11, f54⟩ := hm
    refine SW.cond _ f54 (fun hx2 => ?_) (fun hx2 => ?_)
    · have hbi := condT hbi hx2
      refine SW.seq ?_
      -- region 7
      refine SW.regX (fun f_ t_ => τ = t_ ∧ f_ 10 = AV.int (6)) (fun M hM => ?_) (fun fr8 τz5 hm => ?_)
      · simp [go_sem, f11, f4, f5, f54, f6, f7, f8, gb5, gb6, gb7, gb8]
        refine (hM _ _).2 ⟨rfl, ?_⟩ <;> simp [go_sem, f11, f4, f5, f54, f6, f7, f8, gb5, gb6, gb7, gb8]
      clear f11 f4 f5 f54 f6 f7 f8
      obtain ⟨rfl, f10⟩ := hm
      obtain rfl := Option.some.inj hbi
      obtain rfl := Option.some.inj hci
      obtain rfl := Option.some.inj hoi
      exact SW.ret ⟨AV.int (6), by simp [go_sem, f10], .lit _, hK.keeps⟩
    have hbi := condF hbi hx2
    refine SW.skip ?_
    refine SW.seq ?_
    -- region 8
    obtain ⟨n3, hn3, hbi⟩ := obind hbi
    have xpn3 := getI_pos hn3
    have xln3 := getI_lt hn3
    have xin3 := getI_N hn3
    have xdn3 := getN_map AV.int xin3
    obtain ⟨n4, hn4, hbi⟩ := obind hbi
    have xln4 := getN_lt hn4
    have xdn4 := getN_map AV.int hn4
    obtain ⟨q, hq, hbi⟩ := obind hbi
    refine SW.regX (fun f_ t_ => τ = t_ ∧ f_ 4 = AV.bool (rx1) ∧ f_ 5 = AV.ptr b5 0 ∧ f_ 6 = AV.ptr b6 0 ∧ f_ 7 = AV.ptr b7 0 ∧ f_ 8 = AV.ptr b8 0 ∧ f_ 11 = AV.int (((k : Nat) : Int)) ∧ f_ 71 = AV.bool ((!q))) (fun M hM => ?_) (fun fr9 τz6 hm => ?_)
    · refine EW_regionD (by kernel_rfl) (by kernel_rfl) ?_
      simp [go_sem, f11, f4, f5, f54, f6, f7, f8, gb5, gb6, gb7, gb8, xln, xdn, xpn3, xln3, xdn3, xln4, xdn4]
      refine EWqcall_pure (w_ref04_Below1 F t n3 n4 _ hq) rfl ?_
      simp [go_sem, f11, f4, f5, f54, f6, f7, f8, gb5, gb6, gb7, gb8, xln, xdn, xpn3, xln3, xdn3, xln4, xdn4]
      refine (hM _ _).2 ⟨rfl, ?_, ?_, ?_, ?_, ?_, ?_, ?_⟩ <;> simp [go_sem, f11, f4, f5, f54, f6, f7, f8, gb5, gb6, gb7, gb8, xln, xdn, xpn3, xln3, xdn3, xln4, xdn4]
    clear f11 f4 f5 f54 f6 f7 f8
    obtain ⟨rfl, f4, f5, f6, f7, f8, f11, f71⟩ := hm
    refine SW.cond _ f71 (fun hx3 => ?_) (fun hx3 => ?_)
    · have hbi := condT hbi hx3
      refine SW.seq ?_
      -- region 9
      refine SW.regX (fun f_ t_ => τ = t_ ∧ f_ 10 = AV.int (13)) (fun M hM => ?_) (fun fr10 τz7 hm => ?_)
      · simp [go_sem, f11, f4, f5, f6, f7, f71, f8, gb5, gb6, gb7, gb8]
        refine (hM _ _).2 ⟨rfl, ?_⟩ <;> simp [go_sem, f11, f4, f5, f6, f7, f71, f8, gb5, gb6, gb7, gb8]
      clear f11 f4 f5 f6 f7 f71 f8
      obtain ⟨rfl, f10⟩ := hm
      obtain rfl := Option.some.inj hbi
      obtain rfl := Option.some.inj hci
      obtain rfl := Option.some.inj hoi
      exact SW.ret ⟨AV.int (13), by simp [go_sem, f10], .lit _, hK.keeps⟩
    have hbi := condF hbi hx3
    refine SW.skip ?_
    refine SW.blk ?_
    -- region 5
    refine SW.regX (fun f_ t_ => τ = t_ ∧ f_ 4 = AV.bool (rx1) ∧ f_ 5 = AV.ptr b5 0 ∧ f_ 6 = AV.ptr b6 0 ∧ f_ 7 = AV.ptr b7 0 ∧ f_ 8 = AV.ptr b8 0 ∧ f_ 11 = AV.int (((k + 1 : Nat) : Int))) (fun M hM => ?_) (fun fr11 τz8 hm => ?_)
    · simp [go_sem, f11, f4, f5, f6, f7, f71, f8, gb5, gb6, gb7, gb8, hwk]
      refine (hM _ _).2 ⟨rfl, ?_, ?_, ?_, ?_, ?_, ?_⟩ <;> simp [go_sem, f11, f4, f5, f6, f7, f71, f8, gb5, gb6, gb7, gb8, hwk]
    clear f11 f4 f5 f6 f7 f71 f8
    obtain ⟨rfl, f4, f5, f6, f7, f8, f11⟩ := hm
    obtain rfl := Option.some.inj hbi
    exact SW.goal ⟨rx.nodes.length - (k + 1), by omega, (hJ _ _ _).2 ⟨k + 1, rfl, hci, rfl, f4, f5, f6, f7, f8, f11⟩⟩
  intro fr12 τ2 hm
  rw [hKL] at hm
  clear hKL hruni
  clear f11 f4 f5 f6 f7 f8
  obtain ⟨rfl, rfl, f4, f6, f7, f8⟩ := hm
  simp only [Out.on] at hoi
  refine SW.seq ?_
  refine SW.seq ?_
  -- region 10
  refine SW.regX (fun f_ t_ => τ = t_ ∧ f_ 4 = AV.bool (rx1) ∧ f_ 6 = AV.ptr b6 0 ∧ f_ 7 = AV.ptr b7 0 ∧ f_ 8 = AV.ptr b8 0 ∧ f_ 12 = AV.int (0)) (fun M hM => ?_) (fun fr13 τz9 hm => ?_)
  · simp [go_sem, f4, f6, f7, f8, gb6, gb7, gb8]
    refine (hM _ _).2 ⟨rfl, ?_, ?_, ?_, ?_, ?_⟩ <;> simp [go_sem, f4, f6, f7, f8, gb6, gb7, gb8]
  clear f4 f6 f7 f8
  obtain ⟨rfl, f4, f6, f7, f8, f12⟩ := hm
  obtain ⟨oi1, hruni1, hoi1⟩ := obind hoi
  refine SW.lenB b8 1 gb8 rfl (fun hbigi1 => ?_)
  obtain ⟨KL, hKL⟩ : ∃ KL : Fr → Mem → Prop, ∀ fr' τ', KL fr' τ' ↔ (oi1 = .done () ∧ fr' 4 = AV.bool (rx1) ∧ fr' 8 = AV.ptr b8 0 ∧ Kept σ0 τ' ∧ σ0.next ≤ τ'.next ∧ τ'.get b8 = some [intsA (rx.nodes), intsA (rx.edges)] ∧ b8 < τ'.next) := ⟨_, fun _ _ => Iff.rfl⟩
  refine SW.cut KL ?_ ?_
  · refine SW.block ?_
    obtain ⟨J, hJ⟩ : ∃ J : Nat → Fr → Mem → Prop, ∀ m_ fr' τ', J m_ fr' τ' ↔ (∃ k1 : Nat, m_ = rx.edges.length - k1 ∧ forN (b3_ref17_match o A rx) (rx.edges.length - k1) k1 () = some oi1 ∧ fr' 4 = AV.bool (rx1) ∧ fr' 6 = AV.ptr b6 0 ∧ fr' 7 = AV.ptr b7 0 ∧ fr' 8 = AV.ptr b8 0 ∧ fr' 12 = AV.int (((k1 : Nat) : Int)) ∧ Kept σ0 τ' ∧ σ0.next ≤ τ'.next ∧ τ'.get b6 = some [intsA (o.nodes), e3sA (o.edges)] ∧ b6 < τ'.next ∧ τ'.get b7 = some [intsA (A.nodes), e3sA (A.edges)] ∧ b7 < τ'.next ∧ τ'.get b8 = some [intsA (rx.nodes), intsA (rx.edges)] ∧ b8 < τ'.next) := ⟨_, fun _ _ _ => Iff.rfl⟩
    refine SW.loop J (rx.edges.length - 0) ((hJ _ _ _).2 ⟨0, rfl, hruni1, f4, f6, f7, f8, f12, hK, hN, gb6, ub6, gb7, ub7, gb8, ub8⟩) ?_
    clear hruni1
    intro m_ fr14 τ3 hm
    rw [hJ] at hm
    clear f12 f4 f6 f7 f8 hK hN gb6 ub6 gb7 ub7 gb8 ub8
    obtain ⟨k1, rfl, hruni1, f4, f6, f7, f8, f12, hK, hN, gb6, ub6, gb7, ub7, gb8, ub8⟩ := hm
    refine SW.seq ?_
    refine SW.seq ?_
    -- region 11
    refine SW.regX (fun f_ t_ => τ3 = t_ ∧ f_ 4 = AV.bool (rx1) ∧ f_ 6 = AV.ptr b6 0 ∧ f_ 7 = AV.ptr b7 0 ∧ f_ 8 = AV.ptr b8 0 ∧ f_ 12 = AV.int (((k1 : Nat) : Int)) ∧ f_ 76 = AV.bool ((decide (k1 < rx.edges.length)))) (fun M hM => ?_) (fun fr15 τz10 hm => ?_)
    · simp [go_sem, f12, f4, f6, f7, f8, gb6, gb7, gb8]
      refine (hM _ _).2 ⟨rfl, ?_, ?_, ?_, ?_, ?_, ?_⟩ <;> simp [go_sem, f12, f4, f6, f7, f8, gb6, gb7, gb8]
    clear f12 f4 f6 f7 f8
    obtain ⟨rfl, f4, f6, f7, f8, f12, f76⟩ := hm
    refine SW.cond _ f76 (fun hx4 => ?_) (fun hx4 => ?_)
    rotate_left
    · have hk : ¬ k1 < rx.edges.length := by have := of_decide_eq_false hx4; omega
      refine SW.exit rfl ?_
      exact SW.goal ((hKL _ _).2 ⟨forN_end hruni1 hk, f4, f8, hK, hN, gb8, ub8⟩)
    have hkk1 : k1 < rx.edges.length := by have := of_decide_eq_true hx4; omega
    have hwk1 : IntKind.i64.wrap ((k1 : Int) + 1) = ((k1 + 1 : Nat) : Int) := by rw [wrap64_of _ (by omega) (by omega)]; rfl
    obtain ⟨ci1, hbi1, hci1⟩ := forN_step hruni1 hkk1
    simp only [b3_ref17_match] at hbi1
    refine SW.skip ?_
    refine SW.seq ?_
    refine SW.block ?_
    refine SW.seq ?_
    refine SW.seq ?_
    -- region 13
    obtain ⟨n5, hn5, hbi1⟩ := obind hbi1
    have xln5 := getN_lt hn5
    have xdn5 := getN_map AV.int hn5
    refine SW.regX (fun f_ t_ => τ3 = t_ ∧ f_ 4 = AV.bool (rx1) ∧ f_ 6 = AV.ptr b6 0 ∧ f_ 7 = AV.ptr b7 0 ∧ f_ 8 = AV.ptr b8 0 ∧ f_ 12 = AV.int (((k1 : Nat) : Int)) ∧ f_ 95 = AV.bool ((((decide (n5 < 0))) || ((decide (((A.edges.length : Nat) : Int) ≤ n5)))))) (fun M hM => ?_) (fun fr16 τz11 hm => ?_)
    · refine EW_regionD (by kernel_rfl) (by kernel_rfl) ?_
      rcases Bool.eq_false_or_eq_true ((decide (n5 < 0))) with y0 | y0
      · have y0' := y0
        try simp at y0'
        simp [go_sem, f12, f4, f6, f7, f76, f8, gb6, gb7, gb8, xln5, xdn5, y0, y0']
        refine (hM _ _).2 ⟨rfl, ?_, ?_, ?_, ?_, ?_, ?_⟩ <;> simp [go_sem, f12, f4, f6, f7, f76, f8, gb6, gb7, gb8, xln5, xdn5, y0, y0']
      · have y0' := y0
        try simp at y0'
        simp [go_sem, f12, f4, f6, f7, f76, f8, gb6, gb7, gb8, xln5, xdn5, y0, y0', xln5, xdn5]
        refine (hM _ _).2 ⟨rfl, ?_, ?_, ?_, ?_, ?_, ?_⟩ <;> simp [go_sem, f12, f4, f6, f7, f76, f8, gb6, gb7, gb8, xln5, xdn5, y0, y0', xln5, xdn5]
    clear f12 f4 f6 f7 f76 f8
    obtain ⟨rfl, f4, f6, f7, f8, f12, f95⟩ := hm
    refine SW.cond _ f95 (fun hx5 => ?_) (fun hx5 => ?_)
    · have hbi1 := condT hbi1 hx5
      refine SW.seq ?_
      -- region 14
      refine SW.regX (fun f_ t_ => τ3 = t_ ∧ f_ 10 = AV.int (6)) (fun M hM => ?_) (fun fr17 τz12 hm => ?_)
      · simp [go_sem, f12, f4, f6, f7, f8, f95, gb6, gb7, gb8]
        refine (hM _ _).2 ⟨rfl, ?_⟩ <;> simp [go_sem, f12, f4, f6, f7, f8, f95, gb6, gb7, gb8]
      clear f12 f4 f6 f7 f8 f95
      obtain ⟨rfl, f10⟩ := hm
      obtain rfl := Option.some.inj hbi1
      obtain rfl := Option.some.inj hci1
      obtain rfl := Option.some.inj hoi1
      exact SW.ret ⟨AV.int (6), by simp [go_sem, f10], .lit _, hK.keeps⟩
    have hbi1 := condF hbi1 hx5
    refine SW.skip ?_
    refine SW.seq ?_
    -- region 15
    obtain ⟨x, hx, hbi1⟩ := obind hbi1
    have xlx := getN_lt hx
    have xdx := getN_flat e3C 3 (fun _ => rfl) hx
    obtain ⟨x1, hx1, hbi1⟩ := obind hbi1
    have xpx1 := getI_pos hx1
    have xlx1 := getI_lt hx1
    have xix1 := getI_N hx1
    have xdx1 := getN_flat e3C 3 (fun _ => rfl) xix1
    refine SW.regX (fun f_ t_ => ∃ b13 : Nat, ∃ b14 : Nat, f_ 4 = AV.bool (rx1) ∧ f_ 6 = AV.ptr b6 0 ∧ f_ 7 = AV.ptr b7 0 ∧ f_ 8 = AV.ptr b8 0 ∧ f_ 12 = AV.int (((k1 : Nat) : Int)) ∧ f_ 13 = AV.ptr b13 0 ∧ f_ 14 = AV.ptr b14 0 ∧ Kept σ0 t_ ∧ σ0.next ≤ t_.next ∧ t_.get b6 = some [intsA (o.nodes), e3sA (o.edges)] ∧ b6 < t_.next ∧ t_.get b7 = some [intsA (A.nodes), e3sA (A.edges)] ∧ b7 < t_.next ∧ t_.get b8 = some [intsA (rx.nodes), intsA (rx.edges)] ∧ b8 < t_.next ∧ t_.get b13 = some [AV.int (x.kind), AV.int (x.src), AV.int (x.tgt)] ∧ b13 < t_.next ∧ t_.get b14 = some [AV.int (x1.kind), AV.int (x1.src), AV.int (x1.tgt)] ∧ b14 < t_.next ∧ σ0.next ≤ b13 ∧ ¬ b6 = b13 ∧ ¬ b7 = b13 ∧ ¬ b8 = b13 ∧ σ0.next ≤ b14 ∧ ¬ b6 = b14 ∧ ¬ b7 = b14 ∧ ¬ b8 = b14 ∧ ¬ b13 = b14) (fun M hM => ?_) (fun fr18 τ4 hm => ?_)
    · have nb6_0 : ¬ b6 = τ3.next := by omega
      have nb6_1 : ¬ b6 = τ3.next + 1 := by omega
      have nb7_0 : ¬ b7 = τ3.next := by omega
      have nb7_1 : ¬ b7 = τ3.next + 1 := by omega
      have nb8_0 : ¬ b8 = τ3.next := by omega
      have nb8_1 : ¬ b8 = τ3.next + 1 := by omega
      have nb6_b7 : ¬ b6 = b7 := by omega
      have nb6_b8 : ¬ b6 = b8 := by omega
      have nb7_b6 : ¬ b7 = b6 := by omega
      have nb7_b8 : ¬ b7 = b8 := by omega
      have nb8_b6 : ¬ b8 = b6 := by omega
      have nb8_b7 : ¬ b8 = b7 := by omega
      refine EW_regionY τ3 18 (.q false 0 (.q false 1 (.q false 2 (.q false 3 (.q false 4 (.q false 5 (.q false 6 (.q false 7 (.q false 8 (.q false 9 (.q false 10 (.q false 11 (.q false 12 (.q false 13 (.both (.s 14 (.s 15 (.s 16 (.s 17 .done)))) (.s 15 (.s 14 (.s 16 (.s 17 .done))))))))))))))))))) (by kernel_rfl) (by kernel_rfl) (fun _ _ h => h) (fun hfin => ?_)
      have m0_ : τ3.get (τ3.next) = none := hfin _ (by omega)
      have m1_ : τ3.get (τ3.next + 1) = none := hfin _ (by omega)
      have hsub : Sub τ3 τ3 := (fun _ _ h => h)
      simp (maxDischargeDepth := 12) [go_sem, f12, f4, f6, f7, f8, f95, gb6, gb7, gb8, xlx, xdx, e3C, xln5, xdn5, xpx1, xlx1, xdx1, e3C, nb6_0, nb6_1, nb7_0, nb7_1, nb8_0, nb8_1, nb6_b7, nb6_b8, nb7_b6, nb7_b8, nb8_b6, nb8_b7, m0_, m1_, sub_set, sub_killAll, hsub]
      refine ⟨?_, ?_⟩
      · refine (hM _ _).2 ⟨τ3.next, (τ3.next + 1), ?_, ?_, ?_, ?_, ?_, ?_, ?_, by intro j hj; have hj_ := hK j hj; simp [go_sem, hj_.1, hj_.2, show ¬ j = τ3.next by omega, show ¬ j = τ3.next + 1 by omega], by first | omega | (simp [go_sem]; done) | (simp [go_sem]; omega), by simp (disch := omega) [get_alloc_ne, get_set_ne, get_kill_ne, go_sem, f12, f4, f6, f7, f8, f95, gb6, gb7, gb8, xlx, xdx, e3C, xln5, xdn5, xpx1, xlx1, xdx1, e3C, nb6_0, nb6_1, nb7_0, nb7_1, nb8_0, nb8_1, nb6_b7, nb6_b8, nb7_b6, nb7_b8, nb8_b6, nb8_b7, m0_, m1_, sub_set, sub_killAll, hsub], by first | omega | (simp [go_sem]; done) | (simp [go_sem]; omega), by simp (disch := omega) [get_alloc_ne, get_set_ne, get_kill_ne, go_sem, f12, f4, f6, f7, f8, f95, gb6, gb7, gb8, xlx, xdx, e3C, xln5, xdn5, xpx1, xlx1, xdx1, e3C, nb6_0, nb6_1, nb7_0, nb7_1, nb8_0, nb8_1, nb6_b7, nb6_b8, nb7_b6, nb7_b8, nb8_b6, nb8_b7, m0_, m1_, sub_set, sub_killAll, hsub], by first | omega | (simp [go_sem]; done) | (simp [go_sem]; omega), by simp (disch := omega) [get_alloc_ne, get_set_ne, get_kill_ne, go_sem, f12, f4, f6, f7, f8, f95, gb6, gb7, gb8, xlx, xdx, e3C, xln5, xdn5, xpx1, xlx1, xdx1, e3C, nb6_0, nb6_1, nb7_0, nb7_1, nb8_0, nb8_1, nb6_b7, nb6_b8, nb7_b6, nb7_b8, nb8_b6, nb8_b7, m0_, m1_, sub_set, sub_killAll, hsub], by first | omega | (simp [go_sem]; done) | (simp [go_sem]; omega), by simp (disch := omega) [get_alloc_ne, get_set_ne, get_kill_ne, go_sem, f12, f4, f6, f7, f8, f95, gb6, gb7, gb8, xlx, xdx, e3C, xln5, xdn5, xpx1, xlx1, xdx1, e3C, nb6_0, nb6_1, nb7_0, nb7_1, nb8_0, nb8_1, nb6_b7, nb6_b8, nb7_b6, nb7_b8, nb8_b6, nb8_b7, m0_, m1_, sub_set, sub_killAll, hsub], by first | omega | (simp [go_sem]; done) | (simp [go_sem]; omega), by simp (disch := omega) [get_alloc_ne, get_set_ne, get_kill_ne, go_sem, f12, f4, f6, f7, f8, f95, gb6, gb7, gb8, xlx, xdx, e3C, xln5, xdn5, xpx1, xlx1, xdx1, e3C, nb6_0, nb6_1, nb7_0, nb7_1, nb8_0, nb8_1, nb6_b7, nb6_b8, nb7_b6, nb7_b8, nb8_b6, nb8_b7, m0_, m1_, sub_set, sub_killAll, hsub], by first | omega | (simp [go_sem]; done) | (simp [go_sem]; omega), by omega, by omega, by omega, by omega, by omega, by omega, by omega, by omega, by omega⟩ <;> simp [go_sem, f12, f4, f6, f7, f8, f95, gb6, gb7, gb8, xlx, xdx, e3C, xln5, xdn5, xpx1, xlx1, xdx1, e3C, nb6_0, nb6_1, nb7_0, nb7_1, nb8_0, nb8_1, nb6_b7, nb6_b8, nb7_b6, nb7_b8, nb8_b6, nb8_b7, m0_, m1_, sub_set, sub_killAll, hsub]
      · refine (hM _ _).2 ⟨(τ3.next + 1), τ3.next, ?_, ?_, ?_, ?_, ?_, ?_, ?_, by intro j hj; have hj_ := hK j hj; simp [go_sem, hj_.1, hj_.2, show ¬ j = τ3.next by omega, show ¬ j = τ3.next + 1 by omega], by first | omega | (simp [go_sem]; done) | (simp [go_sem]; omega), by simp (disch := omega) [get_alloc_ne, get_set_ne, get_kill_ne, go_sem, f12, f4, f6, f7, f8, f95, gb6, gb7, gb8, xlx, xdx, e3C, xln5, xdn5, xpx1, xlx1, xdx1, e3C, nb6_0, nb6_1, nb7_0, nb7_1, nb8_0, nb8_1, nb6_b7, nb6_b8, nb7_b6, nb7_b8, nb8_b6, nb8_b7, m0_, m1_, sub_set, sub_killAll, hsub], by first | omega | (simp [go_sem]; done) | (simp [go_sem]; omega), by simp (disch := omega) [get_alloc_ne, get_set_ne, get_kill_ne, go_sem, f12, f4, f6, f7, f8, f95, gb6, gb7, gb8, xlx, xdx, e3C, xln5, xdn5, xpx1, xlx1, xdx1, e3C, nb6_0, nb6_1, nb7_0, nb7_1, nb8_0, nb8_1, nb6_b7, nb6_b8, nb7_b6, nb7_b8, nb8_b6, nb8_b7, m0_, m1_, sub_set, sub_killAll, hsub], by first | omega | (simp [go_sem]; done) | (simp [go_sem]; omega), by simp (disch := omega) [get_alloc_ne, get_set_ne, get_kill_ne, go_sem, f12, f4, f6, f7, f8, f95, gb6, gb7, gb8, xlx, xdx, e3C, xln5, xdn5, xpx1, xlx1, xdx1, e3C, nb6_0, nb6_1, nb7_0, nb7_1, nb8_0, nb8_1, nb6_b7, nb6_b8, nb7_b6, nb7_b8, nb8_b6, nb8_b7, m0_, m1_, sub_set, sub_killAll, hsub], by first | omega | (simp [go_sem]; done) | (simp [go_sem]; omega), by simp (disch := omega) [get_alloc_ne, get_set_ne, get_kill_ne, go_sem, f12, f4, f6, f7, f8, f95, gb6, gb7, gb8, xlx, xdx, e3C, xln5, xdn5, xpx1, xlx1, xdx1, e3C, nb6_0, nb6_1, nb7_0, nb7_1, nb8_0, nb8_1, nb6_b7, nb6_b8, nb7_b6, nb7_b8, nb8_b6, nb8_b7, m0_, m1_, sub_set, sub_killAll, hsub], by first | omega | (simp [go_sem]; done) | (simp [go_sem]; omega), by simp (disch := omega) [get_alloc_ne, get_set_ne, get_kill_ne, go_sem, f12, f4, f6, f7, f8, f95, gb6, gb7, gb8, xlx, xdx, e3C, xln5, xdn5, xpx1, xlx1, xdx1, e3C, nb6_0, nb6_1, nb7_0, nb7_1, nb8_0, nb8_1, nb6_b7, nb6_b8, nb7_b6, nb7_b8, nb8_b6, nb8_b7, m0_, m1_, sub_set, sub_killAll, hsub], by first | omega | (simp [go_sem]; done) | (simp [go_sem]; omega), by omega, by omega, by omega, by omega, by omega, by omega, by omega, by omega, by omega⟩ <;> simp [go_sem, f12, f4, f6, f7, f8, f95, gb6, gb7, gb8, xlx, xdx, e3C, xln5, xdn5, xpx1, xlx1, xdx1, e3C, nb6_0, nb6_1, nb7_0, nb7_1, nb8_0, nb8_1, nb6_b7, nb6_b8, nb7_b6, nb7_b8, nb8_b6, nb8_b7, m0_, m1_, sub_set, sub_killAll, hsub]
    clear f12 f4 f6 f7 f8 f95 hK hN gb6 ub6 gb7 ub7 gb8 ub8
    obtain ⟨b13, b14, f4, f6, f7, f8, f12, f13, f14, hK, hN, gb6, ub6, gb7, ub7, gb8, ub8, gb13, ub13, gb14, ub14, wb13, eb6b13, eb7b13, eb8b13, wb14, eb6b14, eb7b14, eb8b14, eb13b14⟩ := hm
    refine SW.seq ?_
    refine SW.seq ?_
    -- region 16
    refine SW.regX (fun f_ t_ => τ4 = t_ ∧ f_ 4 = AV.bool (rx1) ∧ f_ 6 = AV.ptr b6 0 ∧ f_ 7 = AV.ptr b7 0 ∧ f_ 8 = AV.ptr b8 0 ∧ f_ 12 = AV.int (((k1 : Nat) : Int)) ∧ f_ 13 = AV.ptr b13 0 ∧ f_ 14 = AV.ptr b14 0 ∧ f_ 114 = AV.bool ((!decide (x.kind = x1.kind)))) (fun M hM => ?_) (fun fr19 τz13 hm => ?_)
    · simp [go_sem, f12, f13, f14, f4, f6, f7, f8, gb6, gb7, gb8, gb13, gb14]
      refine (hM _ _).2 ⟨rfl, ?_, ?_, ?_, ?_, ?_, ?_, ?_, ?_⟩ <;> simp [go_sem, f12, f13, f14, f4, f6, f7, f8, gb6, gb7, gb8, gb13, gb14]
    clear f12 f13 f14 f4 f6 f7 f8
    obtain ⟨rfl, f4, f6, f7, f8, f12, f13, f14, f114⟩ := hm
    refine SW.cond _ f114 (fun hx6 => ?_) (fun hx6 => ?_)
    · have hbi1 := condT hbi1 hx6
      refine SW.seq ?_
      -- region 17
      refine SW.regX (fun f_ t_ => τ4 = t_ ∧ f_ 10 = AV.int (13)) (fun M hM => ?_) (fun fr20 τz14 hm => ?_)
      · simp [go_sem, f114, f12, f13, f14, f4, f6, f7, f8, gb6, gb7, gb8, gb13, gb14]
        refine (hM _ _).2 ⟨rfl, ?_⟩ <;> simp [go_sem, f114, f12, f13, f14, f4, f6, f7, f8, gb6, gb7, gb8, gb13, gb14]
      clear f114 f12 f13 f14 f4 f6 f7 f8
      obtain ⟨rfl, f10⟩ := hm
      obtain rfl := Option.some.inj hbi1
      obtain rfl := Option.some.inj hci1
      obtain rfl := Option.some.inj hoi1
      exact SW.ret ⟨AV.int (13), by simp [go_sem, f10], .lit _, hK.keeps⟩
    have hbi1 := condF hbi1 hx6
    refine SW.skip ?_
    refine SW.seq ?_
    -- region 18
    obtain ⟨n8, hn8, hbi1⟩ := obind hbi1
    have xpn8 := getI_pos hn8
    have xln8 := getI_lt hn8
    have xin8 := getI_N hn8
    have xdn8 := getN_map AV.int xin8
    obtain ⟨c, hc, hbi1⟩ := obind hbi1
    refine SW.regX (fun f_ t_ => τ4 = t_ ∧ f_ 4 = AV.bool (rx1) ∧ f_ 6 = AV.ptr b6 0 ∧ f_ 7 = AV.ptr b7 0 ∧ f_ 8 = AV.ptr b8 0 ∧ f_ 12 = AV.int (((k1 : Nat) : Int)) ∧ f_ 134 = AV.bool (c)) (fun M hM => ?_) (fun fr21 τz15 hm => ?_)
    · refine EW_regionD (by kernel_rfl) (by kernel_rfl) ?_
      rcases Bool.eq_false_or_eq_true ((!decide (n8 = x1.src))) with y0 | y0
      · have y0' := y0
        try simp at y0'
        have ky0 := condT hc y0
        have ec := Option.some.inj ky0
        simp [go_sem, f114, f12, f13, f14, f4, f6, f7, f8, gb6, gb7, gb8, gb13, gb14, xpn8, xln8, xdn8, y0, y0']
        refine (hM _ _).2 ⟨rfl, ?_, ?_, ?_, ?_, ?_, ?_⟩ <;> simp [go_sem, f114, f12, f13, f14, f4, f6, f7, f8, gb6, gb7, gb8, gb13, gb14, xpn8, xln8, xdn8, y0, y0', ← ec]
      · have y0' := y0
        try simp at y0'
        have ky0 := condF hc y0
        obtain ⟨n9, hn9, ky0⟩ := obind ky0
        have xpn9 := getI_pos hn9
        have xln9 := getI_lt hn9
        have xin9 := getI_N hn9
        have xdn9 := getN_map AV.int xin9
        have ec := Option.some.inj ky0
        simp [go_sem, f114, f12, f13, f14, f4, f6, f7, f8, gb6, gb7, gb8, gb13, gb14, xpn8, xln8, xdn8, y0, y0', xpn9, xln9, xdn9]
        refine (hM _ _).2 ⟨rfl, ?_, ?_, ?_, ?_, ?_, ?_⟩ <;> simp [go_sem, f114, f12, f13, f14, f4, f6, f7, f8, gb6, gb7, gb8, gb13, gb14, xpn8, xln8, xdn8, y0, y0', xpn9, xln9, xdn9, ← ec]
    clear f114 f12 f13 f14 f4 f6 f7 f8
    obtain ⟨rfl, f4, f6, f7, f8, f12, f134⟩ := hm
    refine SW.cond _ f134 (fun hx7 => ?_) (fun hx7 => ?_)
    · have hbi1 := condT hbi1 hx7
      refine SW.seq ?_
      -- region 19
      refine SW.regX (fun f_ t_ => τ4 = t_ ∧ f_ 10 = AV.int (11)) (fun M hM => ?_) (fun fr22 τz16 hm => ?_)
      · simp [go_sem, f12, f134, f4, f6, f7, f8, gb6, gb7, gb8]
        refine (hM _ _).2 ⟨rfl, ?_⟩ <;> simp [go_sem, f12, f134, f4, f6, f7, f8, gb6, gb7, gb8]
      clear f12 f134 f4 f6 f7 f8
      obtain ⟨rfl, f10⟩ := hm
      obtain rfl := Option.some.inj hbi1
      obtain rfl := Option.some.inj hci1
      obtain rfl := Option.some.inj hoi1
      exact SW.ret ⟨AV.int (11), by simp [go_sem, f10], .lit _, hK.keeps⟩
    have hbi1 := condF hbi1 hx7
    refine SW.skip ?_
    refine SW.blk ?_
    -- region 12
    refine SW.regX (fun f_ t_ => τ4 = t_ ∧ f_ 4 = AV.bool (rx1) ∧ f_ 6 = AV.ptr b6 0 ∧ f_ 7 = AV.ptr b7 0 ∧ f_ 8 = AV.ptr b8 0 ∧ f_ 12 = AV.int (((k1 + 1 : Nat) : Int))) (fun M hM => ?_) (fun fr23 τz17 hm => ?_)
    · simp [go_sem, f12, f134, f4, f6, f7, f8, gb6, gb7, gb8, hwk1]
      refine (hM _ _).2 ⟨rfl, ?_, ?_, ?_, ?_, ?_⟩ <;> simp [go_sem, f12, f134, f4, f6, f7, f8, gb6, gb7, gb8, hwk1]
    clear f12 f134 f4 f6 f7 f8
    obtain ⟨rfl, f4, f6, f7, f8, f12⟩ := hm
    obtain rfl := Option.some.inj hbi1
    exact SW.goal ⟨rx.edges.length - (k1 + 1), by omega, (hJ _ _ _).2 ⟨k1 + 1, rfl, hci1, f4, f6, f7, f8, f12, hK, hN, gb6, ub6, gb7, ub7, gb8, ub8⟩⟩
  intro fr24 τ5 hm
  rw [hKL] at hm
  clear hKL hruni1
  clear f12 f4 f6 f7 f8 hK hN gb6 ub6 gb7 ub7 gb8 ub8
  obtain ⟨rfl, f4, f8, hK, hN, gb8, ub8⟩ := hm
  simp only [Out.on] at hoi1
  refine SW.seq ?_
  refine SW.seq ?_
  -- region 20
  obtain ⟨c1, hc1, hoi1⟩ := obind hoi1
  refine SW.regX (fun f_ t_ => τ5 = t_ ∧ f_ 147 = AV.bool (c1)) (fun M hM => ?_) (fun fr25 τz18 hm => ?_)
  · rcases Bool.eq_false_or_eq_true rx1 with y0 | y0
    · have y0' := y0
      try simp at y0'
      have ky0 := condT hc1 y0
      obtain ⟨q1, hq1, ky0⟩ := obind ky0
      rcases Bool.eq_false_or_eq_true ((!q1)) with y2 | y2
      · have y2' := y2
        try simp [y0'] at y2'
        have ky2 := condT ky0 y2
        have ec1 := Option.some.inj ky2
        simp [go_sem, f4, f8, gb8, y0, y0', y2, y2']
        refine EWcall_pure (w_ref17_distinct rx.nodes _ hq1) ?_
        simp [go_sem, f4, f8, gb8, y0, y0', y2, y2']
        refine (hM _ _).2 ⟨rfl, ?_⟩ <;> simp [go_sem, f4, f8, gb8, y0, y0', y2, y2', ← ec1]
      · have y2' := y2
        try simp [y0'] at y2'
        have ky2 := condF ky0 y2
        obtain ⟨q2, hq2, ky2⟩ := obind ky2
        have ec1 := Option.some.inj ky2
        simp [go_sem, f4, f8, gb8, y0, y0', y2, y2']
        refine EWcall_pure (w_ref17_distinct rx.nodes _ hq1) ?_
        simp [go_sem, f4, f8, gb8, y0, y0', y2, y2']
        refine EWcall_pure (w_ref17_distinct rx.edges _ hq2) ?_
        simp [go_sem, f4, f8, gb8, y0, y0', y2, y2']
        refine (hM _ _).2 ⟨rfl, ?_⟩ <;> simp [go_sem, f4, f8, gb8, y0, y0', y2, y2', ← ec1]
    · have y0' := y0
      try simp at y0'
      have ky0 := condF hc1 y0
      have ec1 := Option.some.inj ky0
      simp [go_sem, f4, f8, gb8, y0, y0']
      refine (hM _ _).2 ⟨rfl, ?_⟩ <;> simp [go_sem, f4, f8, gb8, y0, y0', ← ec1]
  clear f4 f8
  obtain ⟨rfl, f147⟩ := hm
  refine SW.cond _ f147 (fun hx8 => ?_) (fun hx8 => ?_)
  · have hoi1 := condT hoi1 hx8
    refine SW.seq ?_
    -- region 21
    refine SW.regX (fun f_ t_ => τ5 = t_ ∧ f_ 10 = AV.int (5)) (fun M hM => ?_) (fun fr26 τz19 hm => ?_)
    · simp [go_sem, f147]
      refine (hM _ _).2 ⟨rfl, ?_⟩ <;> simp [go_sem, f147]
    clear f147
    obtain ⟨rfl, f10⟩ := hm
    obtain rfl := Option.some.inj hoi1
    exact SW.ret ⟨AV.int (5), by simp [go_sem, f10], .lit _, hK.keeps⟩
  have hoi1 := condF hoi1 hx8
  refine SW.skip ?_
  refine SW.seq ?_
  -- region 22
  refine SW.regX (fun f_ t_ => τ5 = t_ ∧ f_ 10 = AV.int (0)) (fun M hM => ?_) (fun fr27 τz20 hm => ?_)
  · simp [go_sem, f147]
    refine (hM _ _).2 ⟨rfl, ?_⟩ <;> simp [go_sem, f147]
  clear f147
  obtain ⟨rfl, f10⟩ := hm
  obtain rfl := Option.some.inj hoi1
  exact SW.ret ⟨AV.int (0), by simp [go_sem, f10], .lit _, hK.keeps⟩
end Go.Proofs.YtdacgjleiloooaaGreat
