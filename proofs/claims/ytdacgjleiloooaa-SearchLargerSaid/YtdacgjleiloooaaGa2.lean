/-
  Plain functions and the walks that lead to them, by a program of ours (gen.py): scarfjoint/scarfjointref17.among.
-/
import Derived.Test.YtdacgjleiloooaaGd
import Derived.Test.YtdacgjleiloooaaGT
import Derived.Test.YtdacgjleiloooaaB3
import Derived.Test.YtdacgjleiloooaaGa1
set_option linter.unusedSimpArgs false
set_option linter.unusedVariables false
namespace Go.Proofs.Ytdacgjleiloooaa
open Go Go.Ew Go.Proofs Go.RowKit
set_option maxRecDepth 100000
def O_ref17_among (r : ((List Int))) (n : Nat) (x : AV) (τ : Mem) : Prop := ∃ v0_ : AV, x = v0_ ∧ ArrAt n τ v0_ 3 (r.map AV.int) r.length 1
set_option maxHeartbeats 4000000 in
theorem o_ref17_among (F : Nat) (t : Types) (g : Graph) (kind : Int) (r : ((List Int))) (h : s_ref17_among F t g kind = some r) (σ0 : Mem) : CallA Try.prog 22 [AV.agg [nodesA (t.nodes), edgesA (t.edges)], AV.agg [intsA (g.nodes), e3sA (g.edges)], AV.int (kind)] σ0 (fun x τ => O_ref17_among r σ0.next x τ ∧ Kept σ0 τ ∧ σ0.next ≤ τ.next) := by
  refine callA_of_SW (N := 29) Try.func22 (by kernel_rfl) rfl (by rw [Try.ntmps22]; rfl) ?_
  rw [Try.results22]
  obtain ⟨fr0, hfr⟩ : ∃ fr, fr = initFr [AV.agg [nodesA (t.nodes), edgesA (t.edges)], AV.agg [intsA (g.nodes), e3sA (g.edges)], AV.int (kind)] := ⟨_, rfl⟩
  rw [← hfr]
  have f0 : fr0 0 = AV.agg [nodesA (t.nodes), edgesA (t.edges)] := by rw [hfr]; rfl
  have f1 : fr0 1 = AV.agg [intsA (g.nodes), e3sA (g.edges)] := by rw [hfr]; rfl
  have f2 : fr0 2 = AV.int (kind) := by rw [hfr]; rfl
  clear hfr
  simp only [s_ref17_among] at h
  refine SW.seq ?_
  -- region 0
  refine SW.regX (fun f_ t_ => ∃ b3 : Nat, ∃ b4 : Nat, f_ 2 = AV.int (kind) ∧ f_ 3 = AV.ptr b3 0 ∧ f_ 4 = AV.ptr b4 0 ∧ Kept σ0 t_ ∧ σ0.next ≤ t_.next ∧ t_.get b3 = some [nodesA (t.nodes), edgesA (t.edges)] ∧ b3 < t_.next ∧ t_.get b4 = some [intsA (g.nodes), e3sA (g.edges)] ∧ b4 < t_.next ∧ σ0.next ≤ b3 ∧ σ0.next ≤ b4 ∧ ¬ b3 = b4) (fun M hM => ?_) (fun fr1 τ hm => ?_)
  · simp [go_sem, f0, f1, f2]
    refine (hM _ _).2 ⟨σ0.next, (σ0.next + 1), ?_, ?_, ?_, by intro j hj; simp [go_sem, show ¬ j = σ0.next by omega, show ¬ j = σ0.next + 1 by omega], by first | omega | (simp [go_sem]; done) | (simp [go_sem]; omega), by simp (disch := omega) [get_alloc_ne, get_set_ne, get_kill_ne, go_sem, f0, f1, f2], by first | omega | (simp [go_sem]; done) | (simp [go_sem]; omega), by simp (disch := omega) [get_alloc_ne, get_set_ne, get_kill_ne, go_sem, f0, f1, f2], by first | omega | (simp [go_sem]; done) | (simp [go_sem]; omega), by omega, by omega, by omega⟩ <;> simp [go_sem, f0, f1, f2]
  clear f0 f1 f2
  obtain ⟨b3, b4, f2, f3, f4, hK, hN, gb3, ub3, gb4, ub4, wb3, wb4, eb3b4⟩ := hm
  refine SW.seq ?_
  -- region 1
  refine SW.regX (fun f_ t_ => τ = t_ ∧ f_ 2 = AV.int (kind) ∧ f_ 3 = AV.ptr b3 0 ∧ f_ 4 = AV.ptr b4 0 ∧ f_ 7 = AV.nils) (fun M hM => ?_) (fun fr2 τz hm => ?_)
  · simp [go_sem, f2, f3, f4, gb3, gb4]
    refine (hM _ _).2 ⟨rfl, ?_, ?_, ?_, ?_⟩ <;> simp [go_sem, f2, f3, f4, gb3, gb4]
  clear f2 f3 f4
  obtain ⟨rfl, f2, f3, f4, f7⟩ := hm
  refine SW.seq ?_
  refine SW.seq ?_
  -- region 2
  refine SW.regX (fun f_ t_ => τ = t_ ∧ f_ 2 = AV.int (kind) ∧ f_ 3 = AV.ptr b3 0 ∧ f_ 4 = AV.ptr b4 0 ∧ f_ 7 = AV.nils ∧ f_ 8 = AV.int (0)) (fun M hM => ?_) (fun fr3 τz1 hm => ?_)
  · simp [go_sem, f2, f3, f4, f7, gb3, gb4]
    refine (hM _ _).2 ⟨rfl, ?_, ?_, ?_, ?_, ?_⟩ <;> simp [go_sem, f2, f3, f4, f7, gb3, gb4]
  clear f2 f3 f4 f7
  obtain ⟨rfl, f2, f3, f4, f7, f8⟩ := hm
  obtain ⟨oi1, hruni1, hoi1⟩ := obind h
  refine SW.lenB b4 0 gb4 rfl (fun hbigi1 => ?_)
  obtain ⟨KL, hKL⟩ : ∃ KL : Fr → Mem → Prop, ∀ fr' τ', KL fr' τ' ↔ (∃ out : List Int, ∃ v : AV, oi1 = .done out ∧ fr' 7 = v ∧ Kept σ0 τ' ∧ σ0.next ≤ τ'.next ∧ ArrAt σ0.next τ' v 3 (out.map AV.int) out.length 1) := ⟨_, fun _ _ => Iff.rfl⟩
  refine SW.cut KL ?_ ?_
  · refine SW.block ?_
    obtain ⟨J, hJ⟩ : ∃ J : Nat → Fr → Mem → Prop, ∀ m_ fr' τ', J m_ fr' τ' ↔ (∃ i : Nat, ∃ out : List Int, ∃ v : AV, m_ = g.nodes.length - i ∧ forN (b1_ref17_among F t g kind) (g.nodes.length - i) i out = some oi1 ∧ fr' 2 = AV.int (kind) ∧ fr' 3 = AV.ptr b3 0 ∧ fr' 4 = AV.ptr b4 0 ∧ fr' 7 = v ∧ fr' 8 = AV.int (((i : Nat) : Int)) ∧ Kept σ0 τ' ∧ σ0.next ≤ τ'.next ∧ τ'.get b3 = some [nodesA (t.nodes), edgesA (t.edges)] ∧ b3 < τ'.next ∧ τ'.get b4 = some [intsA (g.nodes), e3sA (g.edges)] ∧ b4 < τ'.next ∧ ArrAt σ0.next τ' v 3 (out.map AV.int) out.length 1 ∧ (∀ i, idOf v = some i → ¬ i = b3) ∧ (∀ i, idOf v = some i → ¬ i = b4)) := ⟨_, fun _ _ _ => Iff.rfl⟩
    refine SW.loop J (g.nodes.length - 0) ((hJ _ _ _).2 ⟨0, ([] : List Int), AV.nils, rfl, hruni1, f2, f3, f4, f7, f8, hK, hN, gb3, ub3, gb4, ub4, .inl ⟨rfl, rfl, rfl⟩, (fun i h => by cases h), (fun i h => by cases h)⟩) ?_
    clear hruni1
    intro m_ fr4 τ1 hm
    rw [hJ] at hm
    clear f2 f3 f4 f7 f8 hK hN gb3 ub3 gb4 ub4
    obtain ⟨i, out, v, rfl, hruni1, f2, f3, f4, f7, f8, hK, hN, gb3, ub3, gb4, ub4, av, evb3, evb4⟩ := hm
    refine SW.seq ?_
    refine SW.seq ?_
    -- region 3
    refine SW.regX (fun f_ t_ => τ1 = t_ ∧ f_ 2 = AV.int (kind) ∧ f_ 3 = AV.ptr b3 0 ∧ f_ 4 = AV.ptr b4 0 ∧ f_ 7 = v ∧ f_ 8 = AV.int (((i : Nat) : Int)) ∧ f_ 13 = AV.bool ((decide (i < g.nodes.length)))) (fun M hM => ?_) (fun fr5 τz2 hm => ?_)
    · simp [go_sem, f2, f3, f4, f7, f8, gb3, gb4]
      refine (hM _ _).2 ⟨rfl, ?_, ?_, ?_, ?_, ?_, ?_⟩ <;> simp [go_sem, f2, f3, f4, f7, f8, gb3, gb4]
    clear f2 f3 f4 f7 f8
    obtain ⟨rfl, f2, f3, f4, f7, f8, f13⟩ := hm
    refine SW.cond _ f13 (fun hx => ?_) (fun hx => ?_)
    rotate_left
    · have hk : ¬ i < g.nodes.length := by have := of_decide_eq_false hx; omega
      refine SW.exit rfl ?_
      exact SW.goal ((hKL _ _).2 ⟨out, v, forN_end hruni1 hk, f7, hK, hN, av⟩)
    have hki : i < g.nodes.length := by have := of_decide_eq_true hx; omega
    have hwi : IntKind.i64.wrap ((i : Int) + 1) = ((i + 1 : Nat) : Int) := by rw [wrap64_of _ (by omega) (by omega)]; rfl
    obtain ⟨ci1, hbi1, hci1⟩ := forN_step hruni1 hki
    simp only [b1_ref17_among] at hbi1
    refine SW.skip ?_
    refine SW.seq ?_
    refine SW.block ?_
    refine SW.seq ?_
    -- region 5
    obtain ⟨n, hn, hbi1⟩ := obind hbi1
    have xln := getN_lt hn
    have xdn := getN_map AV.int hn
    obtain ⟨q, hq, hbi1⟩ := obind hbi1
    refine SW.regX (fun f_ t_ => τ1 = t_ ∧ f_ 2 = AV.int (kind) ∧ f_ 3 = AV.ptr b3 0 ∧ f_ 4 = AV.ptr b4 0 ∧ f_ 7 = v ∧ f_ 8 = AV.int (((i : Nat) : Int)) ∧ f_ 23 = AV.bool (q)) (fun M hM => ?_) (fun fr6 τz3 hm => ?_)
    · refine EW_regionD (by kernel_rfl) (by kernel_rfl) ?_
      simp [go_sem, f13, f2, f3, f4, f7, f8, gb3, gb4, xln, xdn]
      refine EWqcall_pure (w_ref04_Below1 F t n kind _ hq) rfl ?_
      simp [go_sem, f13, f2, f3, f4, f7, f8, gb3, gb4, xln, xdn]
      refine (hM _ _).2 ⟨rfl, ?_, ?_, ?_, ?_, ?_, ?_⟩ <;> simp [go_sem, f13, f2, f3, f4, f7, f8, gb3, gb4, xln, xdn]
    clear f13 f2 f3 f4 f7 f8
    obtain ⟨rfl, f2, f3, f4, f7, f8, f23⟩ := hm
    refine SW.cond _ f23 (fun hx1 => ?_) (fun hx1 => ?_)
    · have hbi1 := condT hbi1 hx1
      -- region 6
      obtain ⟨a, ha, hbi1⟩ := obind hbi1
      obtain ⟨la, ea⟩ := catL_spec ha
      refine SW.regX (fun f_ t_ => ∃ v1 : AV, f_ 2 = AV.int (kind) ∧ f_ 3 = AV.ptr b3 0 ∧ f_ 4 = AV.ptr b4 0 ∧ f_ 7 = v1 ∧ f_ 8 = AV.int (((i : Nat) : Int)) ∧ Kept σ0 t_ ∧ σ0.next ≤ t_.next ∧ t_.get b3 = some [nodesA (t.nodes), edgesA (t.edges)] ∧ b3 < t_.next ∧ t_.get b4 = some [intsA (g.nodes), e3sA (g.edges)] ∧ b4 < t_.next ∧ ArrAt σ0.next t_ v1 3 (a.map AV.int) a.length 1 ∧ (∀ i, idOf v1 = some i → ¬ i = b3) ∧ (∀ i, idOf v1 = some i → ¬ i = b4)) (fun M hM => ?_) (fun fr7 τ2 hm => ?_)
      · have nb3_0 : ¬ b3 = τ1.next := by omega
        have nb3_1 : ¬ b3 = τ1.next + 1 := by omega
        have nb4_0 : ¬ b4 = τ1.next := by omega
        have nb4_1 : ¬ b4 = τ1.next + 1 := by omega
        have zv := av
        rcases zv with ⟨rfl, nv, mv⟩ | ⟨ov, rfl, gov, tov, lov, hiv⟩
        · simp [go_sem, f2, f23, f3, f4, f7, f8, gb3, gb4, nb3_0, nb3_1, nb4_0, nb4_1, nv, mv]
          refine (hM _ _).2 ⟨AV.arr (τ1.next + 1) 0 a.length 1, ?_, ?_, ?_, ?_, ?_, by intro j hj; have hj_ := hK j hj; simp [go_sem, hj_.1, hj_.2, show ¬ j = τ1.next by omega, show ¬ j = τ1.next + 1 by omega], by first | omega | (simp [go_sem]; done) | (simp [go_sem]; omega), by simp (disch := omega) [get_alloc_ne, get_set_ne, get_kill_ne, go_sem, f2, f23, f3, f4, f7, f8, gb3, gb4, nb3_0, nb3_1, nb4_0, nb4_1, nv, mv, ea], by first | omega | (simp [go_sem]; done) | (simp [go_sem]; omega), by simp (disch := omega) [get_alloc_ne, get_set_ne, get_kill_ne, go_sem, f2, f23, f3, f4, f7, f8, gb3, gb4, nb3_0, nb3_1, nb4_0, nb4_1, nv, mv, ea], by first | omega | (simp [go_sem]; done) | (simp [go_sem]; omega), .inr ⟨(τ1.next + 1), rfl, by simp (disch := omega) [get_alloc_ne, get_set_ne, get_kill_ne, go_sem, f2, f23, f3, f4, f7, f8, gb3, gb4, nb3_0, nb3_1, nb4_0, nb4_1, nv, mv, ea], by simp [go_sem, f2, f23, f3, f4, f7, f8, gb3, gb4, nb3_0, nb3_1, nb4_0, nb4_1, nv, mv, ea], by omega, by first | (simp [go_sem]; done) | (simp [go_sem]; omega)⟩, by intro i hi; first | (simp [idOf] at hi; done) | (simp [idOf] at hi; omega), by intro i hi; first | (simp [idOf] at hi; done) | (simp [idOf] at hi; omega)⟩ <;> simp [go_sem, f2, f23, f3, f4, f7, f8, gb3, gb4, nb3_0, nb3_1, nb4_0, nb4_1, nv, mv, ea]
        · have nv_0 : ¬ ov = τ1.next := by omega
          have nv_1 : ¬ ov = τ1.next + 1 := by omega
          have nv_b3 : ¬ ov = b3 := evb3 _ rfl
          have nb3_v : ¬ b3 = ov := fun e => evb3 _ rfl e.symm
          have nv_b4 : ¬ ov = b4 := evb4 _ rfl
          have nb4_v : ¬ b4 = ov := fun e => evb4 _ rfl e.symm
          have ca_0 : out.length ≤ 9223372036854775806 := by have c_ := la; (try simp at c_); omega
          have ca_1 : (out.length + 1) * 8 ≤ 140737488355328 := by have c_ := la; (try simp at c_); omega
          simp [go_sem, f2, f23, f3, f4, f7, f8, gb3, gb4, nb3_0, nb3_1, nb4_0, nb4_1, gov, tov, nv_0, nv_1, nv_b3, nb3_v, nv_b4, nb4_v, ca_0, ca_1]
          refine (hM _ _).2 ⟨AV.arr (τ1.next + 1) 0 a.length 1, ?_, ?_, ?_, ?_, ?_, by intro j hj; have hj_ := hK j hj; simp [go_sem, hj_.1, hj_.2, show ¬ j = τ1.next by omega, show ¬ j = τ1.next + 1 by omega, show ¬ j = ov by omega], by first | omega | (simp [go_sem]; done) | (simp [go_sem]; omega), by simp (disch := omega) [get_alloc_ne, get_set_ne, get_kill_ne, go_sem, f2, f23, f3, f4, f7, f8, gb3, gb4, nb3_0, nb3_1, nb4_0, nb4_1, gov, tov, nv_0, nv_1, nv_b3, nb3_v, nv_b4, nb4_v, ca_0, ca_1, ea], by first | omega | (simp [go_sem]; done) | (simp [go_sem]; omega), by simp (disch := omega) [get_alloc_ne, get_set_ne, get_kill_ne, go_sem, f2, f23, f3, f4, f7, f8, gb3, gb4, nb3_0, nb3_1, nb4_0, nb4_1, gov, tov, nv_0, nv_1, nv_b3, nb3_v, nv_b4, nb4_v, ca_0, ca_1, ea], by first | omega | (simp [go_sem]; done) | (simp [go_sem]; omega), .inr ⟨(τ1.next + 1), rfl, by simp (disch := omega) [get_alloc_ne, get_set_ne, get_kill_ne, go_sem, f2, f23, f3, f4, f7, f8, gb3, gb4, nb3_0, nb3_1, nb4_0, nb4_1, gov, tov, nv_0, nv_1, nv_b3, nb3_v, nv_b4, nb4_v, ca_0, ca_1, ea], by simp [go_sem, f2, f23, f3, f4, f7, f8, gb3, gb4, nb3_0, nb3_1, nb4_0, nb4_1, gov, tov, nv_0, nv_1, nv_b3, nb3_v, nv_b4, nb4_v, ca_0, ca_1, ea], by omega, by first | (simp [go_sem]; done) | (simp [go_sem]; omega)⟩, by intro i hi; first | (simp [idOf] at hi; done) | (simp [idOf] at hi; omega), by intro i hi; first | (simp [idOf] at hi; done) | (simp [idOf] at hi; omega)⟩ <;> simp [go_sem, f2, f23, f3, f4, f7, f8, gb3, gb4, nb3_0, nb3_1, nb4_0, nb4_1, gov, tov, nv_0, nv_1, nv_b3, nb3_v, nv_b4, nb4_v, ca_0, ca_1, ea]
      clear f2 f23 f3 f4 f7 f8 hK hN gb3 ub3 gb4 ub4 av
      obtain ⟨v1, f2, f3, f4, f7, f8, hK, hN, gb3, ub3, gb4, ub4, av1, ev1b3, ev1b4⟩ := hm
      refine SW.blk ?_
      -- region 4
      refine SW.regX (fun f_ t_ => τ2 = t_ ∧ f_ 2 = AV.int (kind) ∧ f_ 3 = AV.ptr b3 0 ∧ f_ 4 = AV.ptr b4 0 ∧ f_ 7 = v1 ∧ f_ 8 = AV.int (((i + 1 : Nat) : Int))) (fun M hM => ?_) (fun fr8 τz4 hm => ?_)
      · simp [go_sem, f2, f3, f4, f7, f8, gb3, gb4, hwi]
        refine (hM _ _).2 ⟨rfl, ?_, ?_, ?_, ?_, ?_⟩ <;> simp [go_sem, f2, f3, f4, f7, f8, gb3, gb4, hwi]
      clear f2 f3 f4 f7 f8
      obtain ⟨rfl, f2, f3, f4, f7, f8⟩ := hm
      obtain rfl := Option.some.inj hbi1
      exact SW.goal ⟨g.nodes.length - (i + 1), by omega, (hJ _ _ _).2 ⟨i + 1, a, v1, rfl, hci1, f2, f3, f4, f7, f8, hK, hN, gb3, ub3, gb4, ub4, av1, ev1b3, ev1b4⟩⟩
    have hbi1 := condF hbi1 hx1
    refine SW.skip ?_
    refine SW.blk ?_
    -- region 4
    refine SW.regX (fun f_ t_ => τ1 = t_ ∧ f_ 2 = AV.int (kind) ∧ f_ 3 = AV.ptr b3 0 ∧ f_ 4 = AV.ptr b4 0 ∧ f_ 7 = v ∧ f_ 8 = AV.int (((i + 1 : Nat) : Int))) (fun M hM => ?_) (fun fr9 τz5 hm => ?_)
    · simp [go_sem, f2, f23, f3, f4, f7, f8, gb3, gb4, hwi]
      refine (hM _ _).2 ⟨rfl, ?_, ?_, ?_, ?_, ?_⟩ <;> simp [go_sem, f2, f23, f3, f4, f7, f8, gb3, gb4, hwi]
    clear f2 f23 f3 f4 f7 f8
    obtain ⟨rfl, f2, f3, f4, f7, f8⟩ := hm
    obtain rfl := Option.some.inj hbi1
    exact SW.goal ⟨g.nodes.length - (i + 1), by omega, (hJ _ _ _).2 ⟨i + 1, out, v, rfl, hci1, f2, f3, f4, f7, f8, hK, hN, gb3, ub3, gb4, ub4, av, evb3, evb4⟩⟩
  intro fr10 τ3 hm
  rw [hKL] at hm
  clear hKL hruni1
  clear f2 f3 f4 f7 f8 hK hN gb3 ub3 gb4 ub4
  obtain ⟨out, v, rfl, f7, hK, hN, av⟩ := hm
  simp only [Out.on] at hoi1
  refine SW.seq ?_
  -- region 7
  refine SW.regX (fun f_ t_ => τ3 = t_ ∧ f_ 6 = v) (fun M hM => ?_) (fun fr11 τz6 hm => ?_)
  · simp [go_sem, f7]
    refine (hM _ _).2 ⟨rfl, ?_⟩ <;> simp [go_sem, f7]
  clear f7
  obtain ⟨rfl, f6⟩ := hm
  obtain rfl := Option.some.inj hoi1
  exact SW.ret ⟨v, by simp [go_sem, f6], ⟨v, rfl, av⟩, hK, hN⟩
theorem os_ref17_among (r : ((List Int))) : ∀ n x τ, O_ref17_among r n x τ → Solid x ∧ ∀ τ', (∀ i cs, n ≤ i → τ.get i = some cs → cs.all flatA = true → τ'.get i = some cs ∧ τ'.ty i = τ.ty i) → τ'.next = τ.next → O_ref17_among r n x τ' := by rintro n x τ ⟨v0_, hx, av0_⟩; exact ⟨by rw [hx]; exact arrAt_solid av0_, fun τ' hg hn => ⟨v0_, hx, av0_.re (flat_map (fun _ => rfl) _) hg hn⟩⟩
end Go.Proofs.Ytdacgjleiloooaa
