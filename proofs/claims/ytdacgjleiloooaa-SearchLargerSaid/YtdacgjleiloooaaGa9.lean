/-
  Plain functions and the walks that lead to them, by a program of ours (gen.py): scarfjoint/scarfjointref05.Copied, scarfjoint/scarfjointref05.Numbers, scarfjoint/scarfjointref05.Union.
-/
import Derived.Test.YtdacgjleiloooaaGd
import Derived.Test.YtdacgjleiloooaaGT
import Derived.Test.YtdacgjleiloooaaB3
import Derived.Test.YtdacgjleiloooaaGa8
set_option linter.unusedSimpArgs false
set_option linter.unusedVariables false
namespace Go.Proofs.Ytdacgjleiloooaa
open Go Go.Ew Go.Proofs Go.RowKit
set_option maxRecDepth 100000
def O_ref05_Copied (r : (Graph)) (n : Nat) (x : AV) (τ : Mem) : Prop := ∃ v0_ v1_ : AV, x = AV.agg [v0_, v1_] ∧ ArrAt n τ v0_ 3 (r.nodes.map AV.int) r.nodes.length 1 ∧ ArrAt n τ v1_ 65 (r.edges.flatMap e3C) r.edges.length 3 ∧ Apart v0_ v1_
set_option maxHeartbeats 4000000 in
theorem o_ref05_Copied (g : Graph) (r : (Graph)) (h : s_ref05_Copied g = some r) (σ0 : Mem) : CallA Try.prog 20 [AV.agg [intsA (g.nodes), e3sA (g.edges)]] σ0 (fun x τ => O_ref05_Copied r σ0.next x τ ∧ Kept σ0 τ ∧ σ0.next ≤ τ.next) := by
  refine callA_of_SW (N := 12) Try.func20 (by kernel_rfl) rfl (by rw [Try.ntmps20]; rfl) ?_
  rw [Try.results20]
  obtain ⟨fr0, hfr⟩ : ∃ fr, fr = initFr [AV.agg [intsA (g.nodes), e3sA (g.edges)]] := ⟨_, rfl⟩
  rw [← hfr]
  have f0 : fr0 0 = AV.agg [intsA (g.nodes), e3sA (g.edges)] := by rw [hfr]; rfl
  clear hfr
  simp only [s_ref05_Copied] at h
  refine SW.seq ?_
  -- region 0
  refine SW.regX (fun f_ t_ => ∃ b1 : Nat, ∃ b2 : Nat, f_ 1 = AV.ptr b1 0 ∧ f_ 2 = AV.ptr b2 0 ∧ Kept σ0 t_ ∧ σ0.next ≤ t_.next ∧ t_.get b1 = some [intsA (g.nodes), e3sA (g.edges)] ∧ b1 < t_.next ∧ t_.get b2 = some [AV.nils, AV.nils] ∧ b2 < t_.next ∧ σ0.next ≤ b1 ∧ σ0.next ≤ b2 ∧ ¬ b1 = b2) (fun M hM => ?_) (fun fr1 τ hm => ?_)
  · simp [go_sem, f0]
    refine (hM _ _).2 ⟨σ0.next, (σ0.next + 1), ?_, ?_, by intro j hj; simp [go_sem, show ¬ j = σ0.next by omega, show ¬ j = σ0.next + 1 by omega], by first | omega | (simp [go_sem]; done) | (simp [go_sem]; omega), by simp (disch := omega) [get_alloc_ne, get_set_ne, get_kill_ne, go_sem, f0], by first | omega | (simp [go_sem]; done) | (simp [go_sem]; omega), by simp (disch := omega) [get_alloc_ne, get_set_ne, get_kill_ne, go_sem, f0], by first | omega | (simp [go_sem]; done) | (simp [go_sem]; omega), by omega, by omega, by omega⟩ <;> simp [go_sem, f0]
  clear f0
  obtain ⟨b1, b2, f1, f2, hK, hN, gb1, ub1, gb2, ub2, wb1, wb2, eb1b2⟩ := hm
  refine SW.seq ?_
  -- region 1
  obtain ⟨a, ha, h⟩ := obind h
  obtain ⟨la, ea⟩ := catL_spec ha
  obtain ⟨a1, ha1, h⟩ := obind h
  obtain ⟨la1, ea1⟩ := catL_spec ha1
  refine SW.regX (fun f_ t_ => ∃ v : AV, ∃ v1 : AV, f_ 2 = AV.ptr b2 0 ∧ Kept σ0 t_ ∧ σ0.next ≤ t_.next ∧ t_.get b2 = some [v, v1] ∧ b2 < t_.next ∧ ArrAt σ0.next t_ v 3 (a.map AV.int) a.length 1 ∧ ArrAt σ0.next t_ v1 65 (a1.flatMap e3C) a1.length 3 ∧ (∀ i, idOf v = some i → ¬ i = b2) ∧ (∀ i, idOf v1 = some i → ¬ i = b2) ∧ Apart v v1) (fun M hM => ?_) (fun fr2 τ1 hm => ?_)
  · have nb1_0 : ¬ b1 = τ.next := by omega
    have nb1_1 : ¬ b1 = τ.next + 1 := by omega
    have nb1_2 : ¬ b1 = τ.next + 2 := by omega
    have nb1_3 : ¬ b1 = τ.next + 3 := by omega
    have nb2_0 : ¬ b2 = τ.next := by omega
    have nb2_1 : ¬ b2 = τ.next + 1 := by omega
    have nb2_2 : ¬ b2 = τ.next + 2 := by omega
    have nb2_3 : ¬ b2 = τ.next + 3 := by omega
    have nb1_b2 : ¬ b1 = b2 := by omega
    have nb2_b1 : ¬ b2 = b1 := by omega
    have ca_0 : g.nodes.length ≤ 9223372036854775807 := by have c_ := la; (try simp at c_); omega
    have ca_1 : g.nodes.length * 8 ≤ 140737488355328 := by have c_ := la; (try simp at c_); omega
    have La1 := length_flatMap (f := e3C) (sz := 3) (fun _ => rfl) g.edges
    have Ma1 := sum_len (f := e3C) (sz := 3) (fun _ => rfl) g.edges
    have ca1_0 : g.edges.length ≤ 9223372036854775807 := by have c_ := la1; (try simp at c_); omega
    have ca1_1 : g.edges.length * 24 ≤ 140737488355328 := by have c_ := la1; (try simp at c_); omega
    refine EW_regionY (τ.kill b2) 10 (.q false 1 (.q false 2 (.q false 5 (.q false 6 (.both (.s 0 (.both (.s 3 (.s 4 (.s 7 (.q false 8 (.s 9 .done))))) (.s 4 (.s 3 (.s 7 (.q false 8 (.s 9 .done))))))) (.s 4 (.s 0 (.s 3 (.s 7 (.q false 8 (.s 9 .done))))))))))) (by kernel_rfl) (by kernel_rfl) (sub_kill b2 (fun _ _ h => h)) (fun hfin => ?_)
    have m0_ : τ.get (τ.next) = none := hfin _ (by omega)
    have m1_ : τ.get (τ.next + 1) = none := hfin _ (by omega)
    have m2_ : τ.get (τ.next + 2) = none := hfin _ (by omega)
    have m3_ : τ.get (τ.next + 3) = none := hfin _ (by omega)
    have hsub : Sub (τ.kill b2) τ := (sub_kill b2 (fun _ _ h => h))
    simp (maxDischargeDepth := 12) [go_sem, f1, f2, gb1, gb2, nb1_0, nb1_1, nb1_2, nb1_3, nb2_0, nb2_1, nb2_2, nb2_3, nb1_b2, nb2_b1, ca_0, ca_1, La1, Ma1, ca1_0, ca1_1, m0_, m1_, m2_, m3_, sub_set, sub_killAll, hsub]
    refine ⟨?_, ?_⟩
    · refine ⟨?_, ?_⟩
      · refine (hM _ _).2 ⟨AV.arr (τ.next + 1) 0 a.length 1, AV.arr (τ.next + 3) 0 a1.length 3, ?_, by intro j hj; have hj_ := hK j hj; simp [go_sem, hj_.1, hj_.2, show ¬ j = τ.next by omega, show ¬ j = τ.next + 1 by omega, show ¬ j = τ.next + 2 by omega, show ¬ j = τ.next + 3 by omega, show ¬ j = b2 by omega], by first | omega | (simp [go_sem]; done) | (simp [go_sem]; omega), by simp (disch := omega) [get_alloc_ne, get_set_ne, get_kill_ne, go_sem, f1, f2, gb1, gb2, nb1_0, nb1_1, nb1_2, nb1_3, nb2_0, nb2_1, nb2_2, nb2_3, nb1_b2, nb2_b1, ca_0, ca_1, La1, Ma1, ca1_0, ca1_1, m0_, m1_, m2_, m3_, sub_set, sub_killAll, hsub, ea, ea1], by first | omega | (simp [go_sem]; done) | (simp [go_sem]; omega), .inr ⟨(τ.next + 1), rfl, by simp (disch := omega) [get_alloc_ne, get_set_ne, get_kill_ne, go_sem, f1, f2, gb1, gb2, nb1_0, nb1_1, nb1_2, nb1_3, nb2_0, nb2_1, nb2_2, nb2_3, nb1_b2, nb2_b1, ca_0, ca_1, La1, Ma1, ca1_0, ca1_1, m0_, m1_, m2_, m3_, sub_set, sub_killAll, hsub, ea, ea1], by simp [go_sem, f1, f2, gb1, gb2, nb1_0, nb1_1, nb1_2, nb1_3, nb2_0, nb2_1, nb2_2, nb2_3, nb1_b2, nb2_b1, ca_0, ca_1, La1, Ma1, ca1_0, ca1_1, m0_, m1_, m2_, m3_, sub_set, sub_killAll, hsub, ea, ea1], by omega, by first | (simp [go_sem]; done) | (simp [go_sem]; omega)⟩, .inr ⟨(τ.next + 3), rfl, by simp (disch := omega) [get_alloc_ne, get_set_ne, get_kill_ne, go_sem, f1, f2, gb1, gb2, nb1_0, nb1_1, nb1_2, nb1_3, nb2_0, nb2_1, nb2_2, nb2_3, nb1_b2, nb2_b1, ca_0, ca_1, La1, Ma1, ca1_0, ca1_1, m0_, m1_, m2_, m3_, sub_set, sub_killAll, hsub, ea, ea1, e3C], by simp [go_sem, f1, f2, gb1, gb2, nb1_0, nb1_1, nb1_2, nb1_3, nb2_0, nb2_1, nb2_2, nb2_3, nb1_b2, nb2_b1, ca_0, ca_1, La1, Ma1, ca1_0, ca1_1, m0_, m1_, m2_, m3_, sub_set, sub_killAll, hsub, ea, ea1], by omega, by first | (simp [go_sem]; done) | (simp [go_sem]; omega)⟩, by intro i hi; first | (simp [idOf] at hi; done) | (simp [idOf] at hi; omega), by intro i hi; first | (simp [idOf] at hi; done) | (simp [idOf] at hi; omega), by first | exact evv1 | exact apart_symm ev1v | (intro i h1 h2; simp [idOf] at h1; done) | (intro i h1 h2; simp [idOf] at h2; done) | (intro i h1 h2; simp [idOf] at h1; simp [idOf] at h2; omega)⟩ <;> simp [go_sem, f1, f2, gb1, gb2, nb1_0, nb1_1, nb1_2, nb1_3, nb2_0, nb2_1, nb2_2, nb2_3, nb1_b2, nb2_b1, ca_0, ca_1, La1, Ma1, ca1_0, ca1_1, m0_, m1_, m2_, m3_, sub_set, sub_killAll, hsub, ea, ea1]
      · refine (hM _ _).2 ⟨AV.arr (τ.next + 2) 0 a.length 1, AV.arr (τ.next + 3) 0 a1.length 3, ?_, by intro j hj; have hj_ := hK j hj; simp [go_sem, hj_.1, hj_.2, show ¬ j = τ.next by omega, show ¬ j = τ.next + 1 by omega, show ¬ j = τ.next + 2 by omega, show ¬ j = τ.next + 3 by omega, show ¬ j = b2 by omega], by first | omega | (simp [go_sem]; done) | (simp [go_sem]; omega), by simp (disch := omega) [get_alloc_ne, get_set_ne, get_kill_ne, go_sem, f1, f2, gb1, gb2, nb1_0, nb1_1, nb1_2, nb1_3, nb2_0, nb2_1, nb2_2, nb2_3, nb1_b2, nb2_b1, ca_0, ca_1, La1, Ma1, ca1_0, ca1_1, m0_, m1_, m2_, m3_, sub_set, sub_killAll, hsub, ea, ea1], by first | omega | (simp [go_sem]; done) | (simp [go_sem]; omega), .inr ⟨(τ.next + 2), rfl, by simp (disch := omega) [get_alloc_ne, get_set_ne, get_kill_ne, go_sem, f1, f2, gb1, gb2, nb1_0, nb1_1, nb1_2, nb1_3, nb2_0, nb2_1, nb2_2, nb2_3, nb1_b2, nb2_b1, ca_0, ca_1, La1, Ma1, ca1_0, ca1_1, m0_, m1_, m2_, m3_, sub_set, sub_killAll, hsub, ea, ea1], by simp [go_sem, f1, f2, gb1, gb2, nb1_0, nb1_1, nb1_2, nb1_3, nb2_0, nb2_1, nb2_2, nb2_3, nb1_b2, nb2_b1, ca_0, ca_1, La1, Ma1, ca1_0, ca1_1, m0_, m1_, m2_, m3_, sub_set, sub_killAll, hsub, ea, ea1], by omega, by first | (simp [go_sem]; done) | (simp [go_sem]; omega)⟩, .inr ⟨(τ.next + 3), rfl, by simp (disch := omega) [get_alloc_ne, get_set_ne, get_kill_ne, go_sem, f1, f2, gb1, gb2, nb1_0, nb1_1, nb1_2, nb1_3, nb2_0, nb2_1, nb2_2, nb2_3, nb1_b2, nb2_b1, ca_0, ca_1, La1, Ma1, ca1_0, ca1_1, m0_, m1_, m2_, m3_, sub_set, sub_killAll, hsub, ea, ea1, e3C], by simp [go_sem, f1, f2, gb1, gb2, nb1_0, nb1_1, nb1_2, nb1_3, nb2_0, nb2_1, nb2_2, nb2_3, nb1_b2, nb2_b1, ca_0, ca_1, La1, Ma1, ca1_0, ca1_1, m0_, m1_, m2_, m3_, sub_set, sub_killAll, hsub, ea, ea1], by omega, by first | (simp [go_sem]; done) | (simp [go_sem]; omega)⟩, by intro i hi; first | (simp [idOf] at hi; done) | (simp [idOf] at hi; omega), by intro i hi; first | (simp [idOf] at hi; done) | (simp [idOf] at hi; omega), by first | exact evv1 | exact apart_symm ev1v | (intro i h1 h2; simp [idOf] at h1; done) | (intro i h1 h2; simp [idOf] at h2; done) | (intro i h1 h2; simp [idOf] at h1; simp [idOf] at h2; omega)⟩ <;> simp [go_sem, f1, f2, gb1, gb2, nb1_0, nb1_1, nb1_2, nb1_3, nb2_0, nb2_1, nb2_2, nb2_3, nb1_b2, nb2_b1, ca_0, ca_1, La1, Ma1, ca1_0, ca1_1, m0_, m1_, m2_, m3_, sub_set, sub_killAll, hsub, ea, ea1]
    · refine (hM _ _).2 ⟨AV.arr (τ.next + 2) 0 a.length 1, AV.arr (τ.next + 3) 0 a1.length 3, ?_, by intro j hj; have hj_ := hK j hj; simp [go_sem, hj_.1, hj_.2, show ¬ j = τ.next by omega, show ¬ j = τ.next + 1 by omega, show ¬ j = τ.next + 2 by omega, show ¬ j = τ.next + 3 by omega, show ¬ j = b2 by omega], by first | omega | (simp [go_sem]; done) | (simp [go_sem]; omega), by simp (disch := omega) [get_alloc_ne, get_set_ne, get_kill_ne, go_sem, f1, f2, gb1, gb2, nb1_0, nb1_1, nb1_2, nb1_3, nb2_0, nb2_1, nb2_2, nb2_3, nb1_b2, nb2_b1, ca_0, ca_1, La1, Ma1, ca1_0, ca1_1, m0_, m1_, m2_, m3_, sub_set, sub_killAll, hsub, ea, ea1], by first | omega | (simp [go_sem]; done) | (simp [go_sem]; omega), .inr ⟨(τ.next + 2), rfl, by simp (disch := omega) [get_alloc_ne, get_set_ne, get_kill_ne, go_sem, f1, f2, gb1, gb2, nb1_0, nb1_1, nb1_2, nb1_3, nb2_0, nb2_1, nb2_2, nb2_3, nb1_b2, nb2_b1, ca_0, ca_1, La1, Ma1, ca1_0, ca1_1, m0_, m1_, m2_, m3_, sub_set, sub_killAll, hsub, ea, ea1], by simp [go_sem, f1, f2, gb1, gb2, nb1_0, nb1_1, nb1_2, nb1_3, nb2_0, nb2_1, nb2_2, nb2_3, nb1_b2, nb2_b1, ca_0, ca_1, La1, Ma1, ca1_0, ca1_1, m0_, m1_, m2_, m3_, sub_set, sub_killAll, hsub, ea, ea1], by omega, by first | (simp [go_sem]; done) | (simp [go_sem]; omega)⟩, .inr ⟨(τ.next + 3), rfl, by simp (disch := omega) [get_alloc_ne, get_set_ne, get_kill_ne, go_sem, f1, f2, gb1, gb2, nb1_0, nb1_1, nb1_2, nb1_3, nb2_0, nb2_1, nb2_2, nb2_3, nb1_b2, nb2_b1, ca_0, ca_1, La1, Ma1, ca1_0, ca1_1, m0_, m1_, m2_, m3_, sub_set, sub_killAll, hsub, ea, ea1, e3C], by simp [go_sem, f1, f2, gb1, gb2, nb1_0, nb1_1, nb1_2, nb1_3, nb2_0, nb2_1, nb2_2, nb2_3, nb1_b2, nb2_b1, ca_0, ca_1, La1, Ma1, ca1_0, ca1_1, m0_, m1_, m2_, m3_, sub_set, sub_killAll, hsub, ea, ea1], by omega, by first | (simp [go_sem]; done) | (simp [go_sem]; omega)⟩, by intro i hi; first | (simp [idOf] at hi; done) | (simp [idOf] at hi; omega), by intro i hi; first | (simp [idOf] at hi; done) | (simp [idOf] at hi; omega), by first | exact evv1 | exact apart_symm ev1v | (intro i h1 h2; simp [idOf] at h1; done) | (intro i h1 h2; simp [idOf] at h2; done) | (intro i h1 h2; simp [idOf] at h1; simp [idOf] at h2; omega)⟩ <;> simp [go_sem, f1, f2, gb1, gb2, nb1_0, nb1_1, nb1_2, nb1_3, nb2_0, nb2_1, nb2_2, nb2_3, nb1_b2, nb2_b1, ca_0, ca_1, La1, Ma1, ca1_0, ca1_1, m0_, m1_, m2_, m3_, sub_set, sub_killAll, hsub, ea, ea1]
  clear f1 f2 hK hN gb1 ub1 gb2 ub2
  obtain ⟨v, v1, f2, hK, hN, gb2, ub2, av, av1, evb2, ev1b2, evv1⟩ := hm
  obtain rfl := Option.some.inj h
  exact SW.ret ⟨AV.agg [v, v1], by simp [go_sem, f2, gb2], ⟨v, v1, rfl, av, av1, (by first | exact evv1 | exact fun i h h' => ev1v i h' h)⟩, hK, hN⟩
def O_ref05_Numbers (r : ((List Int))) (n : Nat) (x : AV) (τ : Mem) : Prop := ∃ v0_ : AV, x = v0_ ∧ ArrAt n τ v0_ 3 (r.map AV.int) r.length 1
set_option maxHeartbeats 4000000 in
theorem o_ref05_Numbers (fromx : Int) (count : Int) (r : ((List Int))) (h : s_ref05_Numbers fromx count = some r) (σ0 : Mem) : CallA Try.prog 21 [AV.int (fromx), AV.int (count)] σ0 (fun x τ => O_ref05_Numbers r σ0.next x τ ∧ Kept σ0 τ ∧ σ0.next ≤ τ.next) := by
  refine callA_of_SW (N := 19) Try.func21 (by kernel_rfl) rfl (by rw [Try.ntmps21]; rfl) ?_
  rw [Try.results21]
  obtain ⟨fr0, hfr⟩ : ∃ fr, fr = initFr [AV.int (fromx), AV.int (count)] := ⟨_, rfl⟩
  rw [← hfr]
  have f0 : fr0 0 = AV.int (fromx) := by rw [hfr]; rfl
  have f1 : fr0 1 = AV.int (count) := by rw [hfr]; rfl
  clear hfr
  simp only [s_ref05_Numbers] at h
  refine SW.seq ?_
  -- region 0
  refine SW.regX (fun f_ t_ => σ0 = t_ ∧ f_ 0 = AV.int (fromx) ∧ f_ 1 = AV.int (count)) (fun M hM => ?_) (fun fr1 τz hm => ?_)
  · simp [go_sem, f0, f1]
    refine (hM _ _).2 ⟨rfl, ?_, ?_⟩ <;> simp [go_sem, f0, f1]
  clear f0 f1
  obtain ⟨rfl, f0, f1⟩ := hm
  refine SW.seq ?_
  -- region 1
  refine SW.regX (fun f_ t_ => σ0 = t_ ∧ f_ 0 = AV.int (fromx) ∧ f_ 1 = AV.int (count) ∧ f_ 5 = AV.nils) (fun M hM => ?_) (fun fr2 τz1 hm => ?_)
  · simp [go_sem, f0, f1]
    refine (hM _ _).2 ⟨rfl, ?_, ?_, ?_⟩ <;> simp [go_sem, f0, f1]
  clear f0 f1
  obtain ⟨rfl, f0, f1, f5⟩ := hm
  refine SW.seq ?_
  refine SW.seq ?_
  -- region 2
  refine SW.regX (fun f_ t_ => σ0 = t_ ∧ f_ 0 = AV.int (fromx) ∧ f_ 1 = AV.int (count) ∧ f_ 5 = AV.nils ∧ f_ 6 = AV.int (0)) (fun M hM => ?_) (fun fr3 τz2 hm => ?_)
  · simp [go_sem, f0, f1, f5]
    refine (hM _ _).2 ⟨rfl, ?_, ?_, ?_, ?_⟩ <;> simp [go_sem, f0, f1, f5]
  clear f0 f1 f5
  obtain ⟨rfl, f0, f1, f5, f6⟩ := hm
  obtain ⟨oi1, hruni1, hoi1⟩ := obind h
  obtain ⟨hbigi1, hruni1⟩ := forR_run hruni1
  obtain ⟨KL, hKL⟩ : ∃ KL : Fr → Mem → Prop, ∀ fr' τ', KL fr' τ' ↔ (∃ out : List Int, ∃ v : AV, oi1 = .done out ∧ fr' 5 = v ∧ Kept σ0 τ' ∧ σ0.next ≤ τ'.next ∧ ArrAt σ0.next τ' v 3 (out.map AV.int) out.length 1) := ⟨_, fun _ _ => Iff.rfl⟩
  refine SW.cut KL ?_ ?_
  · refine SW.block ?_
    obtain ⟨J, hJ⟩ : ∃ J : Nat → Fr → Mem → Prop, ∀ m_ fr' τ', J m_ fr' τ' ↔ (∃ i : Nat, ∃ out : List Int, ∃ v : AV, m_ = count.toNat - i ∧ forN (b1_ref05_Numbers fromx) (count.toNat - i) i out = some oi1 ∧ fr' 0 = AV.int (fromx) ∧ fr' 1 = AV.int (count) ∧ fr' 5 = v ∧ fr' 6 = AV.int (((i : Nat) : Int)) ∧ Kept σ0 τ' ∧ σ0.next ≤ τ'.next ∧ ArrAt σ0.next τ' v 3 (out.map AV.int) out.length 1) := ⟨_, fun _ _ _ => Iff.rfl⟩
    refine SW.loop J (count.toNat - 0) ((hJ _ _ _).2 ⟨0, ([] : List Int), AV.nils, rfl, hruni1, f0, f1, f5, f6, Kept.refl _, Nat.le_refl _, .inl ⟨rfl, rfl, rfl⟩⟩) ?_
    clear hruni1
    intro m_ fr4 τ hm
    rw [hJ] at hm
    clear f0 f1 f5 f6
    obtain ⟨i, out, v, rfl, hruni1, f0, f1, f5, f6, hK, hN, av⟩ := hm
    refine SW.seq ?_
    refine SW.seq ?_
    -- region 3
    refine SW.regX (fun f_ t_ => τ = t_ ∧ f_ 0 = AV.int (fromx) ∧ f_ 1 = AV.int (count) ∧ f_ 5 = v ∧ f_ 6 = AV.int (((i : Nat) : Int)) ∧ f_ 9 = AV.bool ((decide (((i : Nat) : Int) < count)))) (fun M hM => ?_) (fun fr5 τz3 hm => ?_)
    · simp [go_sem, f0, f1, f5, f6]
      refine (hM _ _).2 ⟨rfl, ?_, ?_, ?_, ?_, ?_⟩ <;> simp [go_sem, f0, f1, f5, f6]
    clear f0 f1 f5 f6
    obtain ⟨rfl, f0, f1, f5, f6, f9⟩ := hm
    refine SW.cond _ f9 (fun hx => ?_) (fun hx => ?_)
    rotate_left
    · have hk : ¬ i < count.toNat := by have := of_decide_eq_false hx; omega
      refine SW.exit rfl ?_
      exact SW.goal ((hKL _ _).2 ⟨out, v, forN_end hruni1 hk, f5, hK, hN, av⟩)
    have hki : i < count.toNat := by have := of_decide_eq_true hx; omega
    have hwi : IntKind.i64.wrap ((i : Int) + 1) = ((i + 1 : Nat) : Int) := by rw [wrap64_of _ (by omega) (by omega)]; rfl
    obtain ⟨ci1, hbi1, hci1⟩ := forN_step hruni1 hki
    simp only [b1_ref05_Numbers] at hbi1
    refine SW.skip ?_
    refine SW.seq ?_
    refine SW.block ?_
    -- region 5
    obtain ⟨a, ha, hbi1⟩ := obind hbi1
    obtain ⟨la, ea⟩ := catL_spec ha
    refine SW.regX (fun f_ t_ => ∃ v1 : AV, f_ 0 = AV.int (fromx) ∧ f_ 1 = AV.int (count) ∧ f_ 5 = v1 ∧ f_ 6 = AV.int (((i : Nat) : Int)) ∧ Kept σ0 t_ ∧ σ0.next ≤ t_.next ∧ ArrAt σ0.next t_ v1 3 (a.map AV.int) a.length 1) (fun M hM => ?_) (fun fr6 τ1 hm => ?_)
    · have zv := av
      rcases zv with ⟨rfl, nv, mv⟩ | ⟨ov, rfl, gov, tov, lov, hiv⟩
      · simp [go_sem, f0, f1, f5, f6, f9, nv, mv]
        refine (hM _ _).2 ⟨AV.arr (τ.next + 1) 0 a.length 1, ?_, ?_, ?_, ?_, by intro j hj; have hj_ := hK j hj; simp [go_sem, hj_.1, hj_.2, show ¬ j = τ.next by omega, show ¬ j = τ.next + 1 by omega], by first | omega | (simp [go_sem]; done) | (simp [go_sem]; omega), .inr ⟨(τ.next + 1), rfl, by simp (disch := omega) [get_alloc_ne, get_set_ne, get_kill_ne, go_sem, f0, f1, f5, f6, f9, nv, mv, ea], by simp [go_sem, f0, f1, f5, f6, f9, nv, mv, ea], by omega, by first | (simp [go_sem]; done) | (simp [go_sem]; omega)⟩⟩ <;> simp [go_sem, f0, f1, f5, f6, f9, nv, mv, ea]
      · have nv_0 : ¬ ov = τ.next := by omega
        have nv_1 : ¬ ov = τ.next + 1 := by omega
        have ca_0 : out.length ≤ 9223372036854775806 := by have c_ := la; (try simp at c_); omega
        have ca_1 : (out.length + 1) * 8 ≤ 140737488355328 := by have c_ := la; (try simp at c_); omega
        simp [go_sem, f0, f1, f5, f6, f9, gov, tov, nv_0, nv_1, ca_0, ca_1]
        refine (hM _ _).2 ⟨AV.arr (τ.next + 1) 0 a.length 1, ?_, ?_, ?_, ?_, by intro j hj; have hj_ := hK j hj; simp [go_sem, hj_.1, hj_.2, show ¬ j = τ.next by omega, show ¬ j = τ.next + 1 by omega, show ¬ j = ov by omega], by first | omega | (simp [go_sem]; done) | (simp [go_sem]; omega), .inr ⟨(τ.next + 1), rfl, by simp (disch := omega) [get_alloc_ne, get_set_ne, get_kill_ne, go_sem, f0, f1, f5, f6, f9, gov, tov, nv_0, nv_1, ca_0, ca_1, ea], by simp [go_sem, f0, f1, f5, f6, f9, gov, tov, nv_0, nv_1, ca_0, ca_1, ea], by omega, by first | (simp [go_sem]; done) | (simp [go_sem]; omega)⟩⟩ <;> simp [go_sem, f0, f1, f5, f6, f9, gov, tov, nv_0, nv_1, ca_0, ca_1, ea]
    clear f0 f1 f5 f6 f9 hK hN av
    obtain ⟨v1, f0, f1, f5, f6, hK, hN, av1⟩ := hm
    refine SW.blk ?_
    -- region 4
    refine SW.regX (fun f_ t_ => τ1 = t_ ∧ f_ 0 = AV.int (fromx) ∧ f_ 1 = AV.int (count) ∧ f_ 5 = v1 ∧ f_ 6 = AV.int (((i + 1 : Nat) : Int))) (fun M hM => ?_) (fun fr7 τz4 hm => ?_)
    · simp [go_sem, f0, f1, f5, f6, hwi]
      refine (hM _ _).2 ⟨rfl, ?_, ?_, ?_, ?_⟩ <;> simp [go_sem, f0, f1, f5, f6, hwi]
    clear f0 f1 f5 f6
    obtain ⟨rfl, f0, f1, f5, f6⟩ := hm
    obtain rfl := Option.some.inj hbi1
    exact SW.goal ⟨count.toNat - (i + 1), by omega, (hJ _ _ _).2 ⟨i + 1, a, v1, rfl, hci1, f0, f1, f5, f6, hK, hN, av1⟩⟩
  intro fr8 τ2 hm
  rw [hKL] at hm
  clear hKL hruni1
  clear f0 f1 f5 f6
  obtain ⟨out, v, rfl, f5, hK, hN, av⟩ := hm
  simp only [Out.on] at hoi1
  refine SW.seq ?_
  -- region 6
  refine SW.regX (fun f_ t_ => τ2 = t_ ∧ f_ 4 = v) (fun M hM => ?_) (fun fr9 τz5 hm => ?_)
  · simp [go_sem, f5]
    refine (hM _ _).2 ⟨rfl, ?_⟩ <;> simp [go_sem, f5]
  clear f5
  obtain ⟨rfl, f4⟩ := hm
  obtain rfl := Option.some.inj hoi1
  exact SW.ret ⟨v, by simp [go_sem, f4], ⟨v, rfl, av⟩, hK, hN⟩
theorem w_ref05_Numbers (fromx : Int) (count : Int) (r : ((List Int))) (h : s_ref05_Numbers fromx count = some r) : PureA Try.prog 21 [AV.int (fromx), AV.int (count)] (intsA (r)) := pureA_of_own' (O := O_ref05_Numbers r) (fun σ0 => o_ref05_Numbers fromx count r h σ0) (by rintro n x τ ⟨v0_, hx, av0_⟩; rw [hx]; exact av0_.frz (DataL.map (fun _ => .lit _) r))
set_option maxHeartbeats 4000000 in
theorem w_ref05_Union (t : Graph) (o : Graph) (r : (Graph × Morph × Morph × Int)) (h : s_ref05_Union t o = some r) : PureA Try.prog 6 [AV.agg [intsA (t.nodes), e3sA (t.edges)], AV.agg [intsA (o.nodes), e3sA (o.edges)]] (AV.tup [AV.agg [intsA (r.1.nodes), e3sA (r.1.edges)], AV.agg [intsA (r.2.1.nodes), intsA (r.2.1.edges)], AV.agg [intsA (r.2.2.1.nodes), intsA (r.2.2.1.edges)], AV.int (r.2.2.2)]) := by
  refine pureA_of_SW (N := 107) Try.func6 (by kernel_rfl) rfl (by rw [Try.ntmps6]; rfl) (fun σ0 => ?_)
  rw [Try.results6]
  obtain ⟨fr0, hfr⟩ : ∃ fr, fr = initFr [AV.agg [intsA (t.nodes), e3sA (t.edges)], AV.agg [intsA (o.nodes), e3sA (o.edges)]] := ⟨_, rfl⟩
  rw [← hfr]
  have f0 : fr0 0 = AV.agg [intsA (t.nodes), e3sA (t.edges)] := by rw [hfr]; rfl
  have f1 : fr0 1 = AV.agg [intsA (o.nodes), e3sA (o.edges)] := by rw [hfr]; rfl
  clear hfr
  simp only [s_ref05_Union] at h
  refine SW.seq ?_
  -- region 0
  refine SW.regX (fun f_ t_ => ∃ b2 : Nat, ∃ b3 : Nat, ∃ b4 : Nat, ∃ b5 : Nat, ∃ b6 : Nat, f_ 2 = AV.ptr b2 0 ∧ f_ 3 = AV.ptr b3 0 ∧ f_ 4 = AV.ptr b4 0 ∧ f_ 5 = AV.ptr b5 0 ∧ f_ 6 = AV.ptr b6 0 ∧ Kept σ0 t_ ∧ σ0.next ≤ t_.next ∧ t_.get b2 = some [intsA (t.nodes), e3sA (t.edges)] ∧ b2 < t_.next ∧ t_.get b3 = some [intsA (o.nodes), e3sA (o.edges)] ∧ b3 < t_.next ∧ t_.get b4 = some [AV.nils, AV.nils] ∧ b4 < t_.next ∧ t_.get b5 = some [AV.nils, AV.nils] ∧ b5 < t_.next ∧ t_.get b6 = some [AV.nils, AV.nils] ∧ b6 < t_.next ∧ σ0.next ≤ b2 ∧ σ0.next ≤ b3 ∧ ¬ b2 = b3 ∧ σ0.next ≤ b4 ∧ ¬ b2 = b4 ∧ ¬ b3 = b4 ∧ σ0.next ≤ b5 ∧ ¬ b2 = b5 ∧ ¬ b3 = b5 ∧ ¬ b4 = b5 ∧ σ0.next ≤ b6 ∧ ¬ b2 = b6 ∧ ¬ b3 = b6 ∧ ¬ b4 = b6 ∧ ¬ b5 = b6) (fun M hM => ?_) (fun fr1 τ hm => ?_)
  · simp [go_sem, f0, f1]
    refine (hM _ _).2 ⟨σ0.next, (σ0.next + 1), (σ0.next + 2), (σ0.next + 3), (σ0.next + 4), ?_, ?_, ?_, ?_, ?_, by intro j hj; simp [go_sem, show ¬ j = σ0.next by omega, show ¬ j = σ0.next + 1 by omega, show ¬ j = σ0.next + 2 by omega, show ¬ j = σ0.next + 3 by omega, show ¬ j = σ0.next + 4 by omega], by first | omega | (simp [go_sem]; done) | (simp [go_sem]; omega), by simp (disch := omega) [get_alloc_ne, get_set_ne, get_kill_ne, go_sem, f0, f1], by first | omega | (simp [go_sem]; done) | (simp [go_sem]; omega), by simp (disch := omega) [get_alloc_ne, get_set_ne, get_kill_ne, go_sem, f0, f1], by first | omega | (simp [go_sem]; done) | (simp [go_sem]; omega), by simp (disch := omega) [get_alloc_ne, get_set_ne, get_kill_ne, go_sem, f0, f1], by first | omega | (simp [go_sem]; done) | (simp [go_sem]; omega), by simp (disch := omega) [get_alloc_ne, get_set_ne, get_kill_ne, go_sem, f0, f1], by first | omega | (simp [go_sem]; done) | (simp [go_sem]; omega), by simp (disch := omega) [get_alloc_ne, get_set_ne, get_kill_ne, go_sem, f0, f1], by first | omega | (simp [go_sem]; done) | (simp [go_sem]; omega), by omega, by omega, by omega, by omega, by omega, by omega, by omega, by omega, by omega, by omega, by omega, by omega, by omega, by omega, by omega⟩ <;> simp [go_sem, f0, f1]
  clear f0 f1
  obtain ⟨b2, b3, b4, b5, b6, f2, f3, f4, f5, f6, hK, hN, gb2, ub2, gb3, ub3, gb4, ub4, gb5, ub5, gb6, ub6, wb2, wb3, eb2b3, wb4, eb2b4, eb3b4, wb5, eb2b5, eb3b5, eb4b5, wb6, eb2b6, eb3b6, eb4b6, eb5b6⟩ := hm
  refine SW.seq ?_
  refine SW.seq ?_
  -- region 1
  obtain ⟨n, hn, h⟩ := obind h
  refine SW.regX (fun f_ t_ => τ = t_ ∧ f_ 2 = AV.ptr b2 0 ∧ f_ 3 = AV.ptr b3 0 ∧ f_ 4 = AV.ptr b4 0 ∧ f_ 5 = AV.ptr b5 0 ∧ f_ 6 = AV.ptr b6 0 ∧ f_ 8 = AV.int (n)) (fun M hM => ?_) (fun fr2 τz hm => ?_)
  · simp [go_sem, f2, f3, f4, f5, f6, gb2, gb3, gb4, gb5, gb6]
    refine EWcall_pure (w_ref05_Valid t _ hn) ?_
    simp [go_sem, f2, f3, f4, f5, f6, gb2, gb3, gb4, gb5, gb6]
    refine (hM _ _).2 ⟨rfl, ?_, ?_, ?_, ?_, ?_, ?_⟩ <;> simp [go_sem, f2, f3, f4, f5, f6, gb2, gb3, gb4, gb5, gb6]
  clear f2 f3 f4 f5 f6
  obtain ⟨rfl, f2, f3, f4, f5, f6, f8⟩ := hm
  refine SW.seq ?_
  -- region 2
  refine SW.regX (fun f_ t_ => τ = t_ ∧ f_ 2 = AV.ptr b2 0 ∧ f_ 3 = AV.ptr b3 0 ∧ f_ 4 = AV.ptr b4 0 ∧ f_ 5 = AV.ptr b5 0 ∧ f_ 6 = AV.ptr b6 0 ∧ f_ 8 = AV.int (n) ∧ f_ 18 = AV.bool ((!decide (n = 0)))) (fun M hM => ?_) (fun fr3 τz1 hm => ?_)
  · simp [go_sem, f2, f3, f4, f5, f6, f8, gb2, gb3, gb4, gb5, gb6]
    refine (hM _ _).2 ⟨rfl, ?_, ?_, ?_, ?_, ?_, ?_, ?_⟩ <;> simp [go_sem, f2, f3, f4, f5, f6, f8, gb2, gb3, gb4, gb5, gb6]
  clear f2 f3 f4 f5 f6 f8
  obtain ⟨rfl, f2, f3, f4, f5, f6, f8, f18⟩ := hm
  refine SW.cond _ f18 (fun hx => ?_) (fun hx => ?_)
  · have h := condT h hx
    refine SW.seq ?_
    -- region 3
    refine SW.regX (fun f_ t_ => f_ 4 = AV.ptr b4 0 ∧ f_ 5 = AV.ptr b5 0 ∧ f_ 6 = AV.ptr b6 0 ∧ f_ 7 = AV.int (n) ∧ Kept σ0 t_ ∧ σ0.next ≤ t_.next ∧ t_.get b4 = some [AV.nils, AV.nils] ∧ b4 < t_.next ∧ t_.get b5 = some [AV.nils, AV.nils] ∧ b5 < t_.next ∧ t_.get b6 = some [AV.nils, AV.nils] ∧ b6 < t_.next) (fun M hM => ?_) (fun fr4 τ1 hm => ?_)
    · have nb2_b4 : ¬ b2 = b4 := by omega
      have nb2_b5 : ¬ b2 = b5 := by omega
      have nb2_b6 : ¬ b2 = b6 := by omega
      have nb3_b4 : ¬ b3 = b4 := by omega
      have nb3_b5 : ¬ b3 = b5 := by omega
      have nb3_b6 : ¬ b3 = b6 := by omega
      have nb4_b5 : ¬ b4 = b5 := by omega
      have nb4_b6 : ¬ b4 = b6 := by omega
      have nb5_b4 : ¬ b5 = b4 := by omega
      have nb5_b6 : ¬ b5 = b6 := by omega
      have nb6_b4 : ¬ b6 = b4 := by omega
      have nb6_b5 : ¬ b6 = b5 := by omega
      simp [go_sem, f18, f2, f3, f4, f5, f6, f8, gb2, gb3, gb4, gb5, gb6, nb2_b4, nb2_b5, nb2_b6, nb3_b4, nb3_b5, nb3_b6, nb4_b5, nb4_b6, nb5_b4, nb5_b6, nb6_b4, nb6_b5]
      refine (hM _ _).2 ⟨?_, ?_, ?_, ?_, by intro j hj; have hj_ := hK j hj; simp [go_sem, hj_.1, hj_.2, show ¬ j = b4 by omega, show ¬ j = b5 by omega, show ¬ j = b6 by omega], by first | omega | (simp [go_sem]; done) | (simp [go_sem]; omega), by simp (disch := omega) [get_alloc_ne, get_set_ne, get_kill_ne, go_sem, f18, f2, f3, f4, f5, f6, f8, gb2, gb3, gb4, gb5, gb6, nb2_b4, nb2_b5, nb2_b6, nb3_b4, nb3_b5, nb3_b6, nb4_b5, nb4_b6, nb5_b4, nb5_b6, nb6_b4, nb6_b5], by first | omega | (simp [go_sem]; done) | (simp [go_sem]; omega), by simp (disch := omega) [get_alloc_ne, get_set_ne, get_kill_ne, go_sem, f18, f2, f3, f4, f5, f6, f8, gb2, gb3, gb4, gb5, gb6, nb2_b4, nb2_b5, nb2_b6, nb3_b4, nb3_b5, nb3_b6, nb4_b5, nb4_b6, nb5_b4, nb5_b6, nb6_b4, nb6_b5], by first | omega | (simp [go_sem]; done) | (simp [go_sem]; omega), by simp (disch := omega) [get_alloc_ne, get_set_ne, get_kill_ne, go_sem, f18, f2, f3, f4, f5, f6, f8, gb2, gb3, gb4, gb5, gb6, nb2_b4, nb2_b5, nb2_b6, nb3_b4, nb3_b5, nb3_b6, nb4_b5, nb4_b6, nb5_b4, nb5_b6, nb6_b4, nb6_b5], by first | omega | (simp [go_sem]; done) | (simp [go_sem]; omega)⟩ <;> simp [go_sem, f18, f2, f3, f4, f5, f6, f8, gb2, gb3, gb4, gb5, gb6, nb2_b4, nb2_b5, nb2_b6, nb3_b4, nb3_b5, nb3_b6, nb4_b5, nb4_b6, nb5_b4, nb5_b6, nb6_b4, nb6_b5]
    clear f18 f2 f3 f4 f5 f6 f8 hK hN gb2 ub2 gb3 ub3 gb4 ub4 gb5 ub5 gb6 ub6
    obtain ⟨f4, f5, f6, f7, hK, hN, gb4, ub4, gb5, ub5, gb6, ub6⟩ := hm
    obtain rfl := Option.some.inj h
    exact SW.ret ⟨AV.tup [AV.agg [AV.nils, AV.nils], AV.agg [AV.nils, AV.nils], AV.agg [AV.nils, AV.nils], AV.int (n)], by simp [go_sem, f4, f5, f6, f7, gb4, gb5, gb6], frz_tupL (frzL_c (frz_aggL (frzL_c (.nils) (frzL_c (.nils) (frzL_n)))) (frzL_c (frz_aggL (frzL_c (.nils) (frzL_c (.nils) (frzL_n)))) (frzL_c (frz_aggL (frzL_c (.nils) (frzL_c (.nils) (frzL_n)))) (frzL_c (.lit _) (frzL_n))))), hK.keeps⟩
  have h := condF h hx
  refine SW.skip ?_
  refine SW.seq ?_
  refine SW.seq ?_
  -- region 4
  obtain ⟨n1, hn1, h⟩ := obind h
  refine SW.regX (fun f_ t_ => τ = t_ ∧ f_ 2 = AV.ptr b2 0 ∧ f_ 3 = AV.ptr b3 0 ∧ f_ 4 = AV.ptr b4 0 ∧ f_ 5 = AV.ptr b5 0 ∧ f_ 6 = AV.ptr b6 0 ∧ f_ 9 = AV.int (n1)) (fun M hM => ?_) (fun fr5 τz2 hm => ?_)
  · simp [go_sem, f18, f2, f3, f4, f5, f6, f8, gb2, gb3, gb4, gb5, gb6]
    refine EWcall_pure (w_ref05_Valid o _ hn1) ?_
    simp [go_sem, f18, f2, f3, f4, f5, f6, f8, gb2, gb3, gb4, gb5, gb6]
    refine (hM _ _).2 ⟨rfl, ?_, ?_, ?_, ?_, ?_, ?_⟩ <;> simp [go_sem, f18, f2, f3, f4, f5, f6, f8, gb2, gb3, gb4, gb5, gb6]
  clear f18 f2 f3 f4 f5 f6 f8
  obtain ⟨rfl, f2, f3, f4, f5, f6, f9⟩ := hm
  refine SW.seq ?_
  -- region 5
  refine SW.regX (fun f_ t_ => τ = t_ ∧ f_ 2 = AV.ptr b2 0 ∧ f_ 3 = AV.ptr b3 0 ∧ f_ 4 = AV.ptr b4 0 ∧ f_ 5 = AV.ptr b5 0 ∧ f_ 6 = AV.ptr b6 0 ∧ f_ 9 = AV.int (n1) ∧ f_ 26 = AV.bool ((!decide (n1 = 0)))) (fun M hM => ?_) (fun fr6 τz3 hm => ?_)
  · simp [go_sem, f2, f3, f4, f5, f6, f9, gb2, gb3, gb4, gb5, gb6]
    refine (hM _ _).2 ⟨rfl, ?_, ?_, ?_, ?_, ?_, ?_, ?_⟩ <;> simp [go_sem, f2, f3, f4, f5, f6, f9, gb2, gb3, gb4, gb5, gb6]
  clear f2 f3 f4 f5 f6 f9
  obtain ⟨rfl, f2, f3, f4, f5, f6, f9, f26⟩ := hm
  refine SW.cond _ f26 (fun hx1 => ?_) (fun hx1 => ?_)
  · have h := condT h hx1
    refine SW.seq ?_
    -- region 6
    refine SW.regX (fun f_ t_ => f_ 4 = AV.ptr b4 0 ∧ f_ 5 = AV.ptr b5 0 ∧ f_ 6 = AV.ptr b6 0 ∧ f_ 7 = AV.int (n1) ∧ Kept σ0 t_ ∧ σ0.next ≤ t_.next ∧ t_.get b4 = some [AV.nils, AV.nils] ∧ b4 < t_.next ∧ t_.get b5 = some [AV.nils, AV.nils] ∧ b5 < t_.next ∧ t_.get b6 = some [AV.nils, AV.nils] ∧ b6 < t_.next) (fun M hM => ?_) (fun fr7 τ2 hm => ?_)
    · have nb2_b4 : ¬ b2 = b4 := by omega
      have nb2_b5 : ¬ b2 = b5 := by omega
      have nb2_b6 : ¬ b2 = b6 := by omega
      have nb3_b4 : ¬ b3 = b4 := by omega
      have nb3_b5 : ¬ b3 = b5 := by omega
      have nb3_b6 : ¬ b3 = b6 := by omega
      have nb4_b5 : ¬ b4 = b5 := by omega
      have nb4_b6 : ¬ b4 = b6 := by omega
      have nb5_b4 : ¬ b5 = b4 := by omega
      have nb5_b6 : ¬ b5 = b6 := by omega
      have nb6_b4 : ¬ b6 = b4 := by omega
      have nb6_b5 : ¬ b6 = b5 := by omega
      simp [go_sem, f2, f26, f3, f4, f5, f6, f9, gb2, gb3, gb4, gb5, gb6, nb2_b4, nb2_b5, nb2_b6, nb3_b4, nb3_b5, nb3_b6, nb4_b5, nb4_b6, nb5_b4, nb5_b6, nb6_b4, nb6_b5]
      refine (hM _ _).2 ⟨?_, ?_, ?_, ?_, by intro j hj; have hj_ := hK j hj; simp [go_sem, hj_.1, hj_.2, show ¬ j = b4 by omega, show ¬ j = b5 by omega, show ¬ j = b6 by omega], by first | omega | (simp [go_sem]; done) | (simp [go_sem]; omega), by simp (disch := omega) [get_alloc_ne, get_set_ne, get_kill_ne, go_sem, f2, f26, f3, f4, f5, f6, f9, gb2, gb3, gb4, gb5, gb6, nb2_b4, nb2_b5, nb2_b6, nb3_b4, nb3_b5, nb3_b6, nb4_b5, nb4_b6, nb5_b4, nb5_b6, nb6_b4, nb6_b5], by first | omega | (simp [go_sem]; done) | (simp [go_sem]; omega), by simp (disch := omega) [get_alloc_ne, get_set_ne, get_kill_ne, go_sem, f2, f26, f3, f4, f5, f6, f9, gb2, gb3, gb4, gb5, gb6, nb2_b4, nb2_b5, nb2_b6, nb3_b4, nb3_b5, nb3_b6, nb4_b5, nb4_b6, nb5_b4, nb5_b6, nb6_b4, nb6_b5], by first | omega | (simp [go_sem]; done) | (simp [go_sem]; omega), by simp (disch := omega) [get_alloc_ne, get_set_ne, get_kill_ne, go_sem, f2, f26, f3, f4, f5, f6, f9, gb2, gb3, gb4, gb5, gb6, nb2_b4, nb2_b5, nb2_b6, nb3_b4, nb3_b5, nb3_b6, nb4_b5, nb4_b6, nb5_b4, nb5_b6, nb6_b4, nb6_b5], by first | omega | (simp [go_sem]; done) | (simp [go_sem]; omega)⟩ <;> simp [go_sem, f2, f26, f3, f4, f5, f6, f9, gb2, gb3, gb4, gb5, gb6, nb2_b4, nb2_b5, nb2_b6, nb3_b4, nb3_b5, nb3_b6, nb4_b5, nb4_b6, nb5_b4, nb5_b6, nb6_b4, nb6_b5]
    clear f2 f26 f3 f4 f5 f6 f9 hK hN gb2 ub2 gb3 ub3 gb4 ub4 gb5 ub5 gb6 ub6
    obtain ⟨f4, f5, f6, f7, hK, hN, gb4, ub4, gb5, ub5, gb6, ub6⟩ := hm
    obtain rfl := Option.some.inj h
    exact SW.ret ⟨AV.tup [AV.agg [AV.nils, AV.nils], AV.agg [AV.nils, AV.nils], AV.agg [AV.nils, AV.nils], AV.int (n1)], by simp [go_sem, f4, f5, f6, f7, gb4, gb5, gb6], frz_tupL (frzL_c (frz_aggL (frzL_c (.nils) (frzL_c (.nils) (frzL_n)))) (frzL_c (frz_aggL (frzL_c (.nils) (frzL_c (.nils) (frzL_n)))) (frzL_c (frz_aggL (frzL_c (.nils) (frzL_c (.nils) (frzL_n)))) (frzL_c (.lit _) (frzL_n))))), hK.keeps⟩
  have h := condF h hx1
  refine SW.skip ?_
  refine SW.seq ?_
  -- region 7
  refine SW.regX (fun f_ t_ => τ = t_ ∧ f_ 2 = AV.ptr b2 0 ∧ f_ 3 = AV.ptr b3 0 ∧ f_ 4 = AV.ptr b4 0 ∧ f_ 5 = AV.ptr b5 0 ∧ f_ 6 = AV.ptr b6 0 ∧ f_ 10 = AV.int (((t.nodes.length : Nat) : Int)) ∧ f_ 11 = AV.int (((t.edges.length : Nat) : Int))) (fun M hM => ?_) (fun fr8 τz4 hm => ?_)
  · refine EW_regionD (by kernel_rfl) (by kernel_rfl) ?_
    simp [go_sem, f2, f26, f3, f4, f5, f6, f9, gb2, gb3, gb4, gb5, gb6]
    refine (hM _ _).2 ⟨rfl, ?_, ?_, ?_, ?_, ?_, ?_, ?_⟩ <;> simp [go_sem, f2, f26, f3, f4, f5, f6, f9, gb2, gb3, gb4, gb5, gb6]
  clear f2 f26 f3 f4 f5 f6 f9
  obtain ⟨rfl, f2, f3, f4, f5, f6, f10, f11⟩ := hm
  refine SW.seq ?_
  refine SW.seq ?_
  -- region 8
  refine SW.regX (fun f_ t_ => τ = t_ ∧ f_ 2 = AV.ptr b2 0 ∧ f_ 3 = AV.ptr b3 0 ∧ f_ 4 = AV.ptr b4 0 ∧ f_ 5 = AV.ptr b5 0 ∧ f_ 6 = AV.ptr b6 0 ∧ f_ 10 = AV.int (((t.nodes.length : Nat) : Int)) ∧ f_ 11 = AV.int (((t.edges.length : Nat) : Int)) ∧ f_ 50 = AV.bool ((((decide (40 < (IntKind.i64.wrap (((t.nodes.length : Nat) : Int) + ((o.nodes.length : Nat) : Int)))))) || ((decide (80 < (IntKind.i64.wrap (((t.edges.length : Nat) : Int) + ((o.edges.length : Nat) : Int))))))))) (fun M hM => ?_) (fun fr9 τz5 hm => ?_)
  · rcases Bool.eq_false_or_eq_true ((decide (40 < (IntKind.i64.wrap (((t.nodes.length : Nat) : Int) + ((o.nodes.length : Nat) : Int)))))) with y0 | y0
    · have y0' := y0
      try simp at y0'
      simp [go_sem, f10, f11, f2, f3, f4, f5, f6, gb2, gb3, gb4, gb5, gb6, y0, y0']
      refine (hM _ _).2 ⟨rfl, ?_, ?_, ?_, ?_, ?_, ?_, ?_, ?_⟩ <;> simp [go_sem, f10, f11, f2, f3, f4, f5, f6, gb2, gb3, gb4, gb5, gb6, y0, y0']
    · have y0' := y0
      try simp at y0'
      simp [go_sem, f10, f11, f2, f3, f4, f5, f6, gb2, gb3, gb4, gb5, gb6, y0, y0']
      refine (hM _ _).2 ⟨rfl, ?_, ?_, ?_, ?_, ?_, ?_, ?_, ?_⟩ <;> simp [go_sem, f10, f11, f2, f3, f4, f5, f6, gb2, gb3, gb4, gb5, gb6, y0, y0']
  clear f10 f11 f2 f3 f4 f5 f6
  obtain ⟨rfl, f2, f3, f4, f5, f6, f10, f11, f50⟩ := hm
  refine SW.cond _ f50 (fun hx2 => ?_) (fun hx2 => ?_)
  · have h := condT h hx2
    refine SW.seq ?_
    -- region 9
    refine SW.regX (fun f_ t_ => f_ 4 = AV.ptr b4 0 ∧ f_ 5 = AV.ptr b5 0 ∧ f_ 6 = AV.ptr b6 0 ∧ f_ 7 = AV.int (3) ∧ Kept σ0 t_ ∧ σ0.next ≤ t_.next ∧ t_.get b4 = some [AV.nils, AV.nils] ∧ b4 < t_.next ∧ t_.get b5 = some [AV.nils, AV.nils] ∧ b5 < t_.next ∧ t_.get b6 = some [AV.nils, AV.nils] ∧ b6 < t_.next) (fun M hM => ?_) (fun fr10 τ3 hm => ?_)
    · have nb2_b4 : ¬ b2 = b4 := by omega
      have nb2_b5 : ¬ b2 = b5 := by omega
      have nb2_b6 : ¬ b2 = b6 := by omega
      have nb3_b4 : ¬ b3 = b4 := by omega
      have nb3_b5 : ¬ b3 = b5 := by omega
      have nb3_b6 : ¬ b3 = b6 := by omega
      have nb4_b5 : ¬ b4 = b5 := by omega
      have nb4_b6 : ¬ b4 = b6 := by omega
      have nb5_b4 : ¬ b5 = b4 := by omega
      have nb5_b6 : ¬ b5 = b6 := by omega
      have nb6_b4 : ¬ b6 = b4 := by omega
      have nb6_b5 : ¬ b6 = b5 := by omega
      simp [go_sem, f10, f11, f2, f3, f4, f5, f50, f6, gb2, gb3, gb4, gb5, gb6, nb2_b4, nb2_b5, nb2_b6, nb3_b4, nb3_b5, nb3_b6, nb4_b5, nb4_b6, nb5_b4, nb5_b6, nb6_b4, nb6_b5]
      refine (hM _ _).2 ⟨?_, ?_, ?_, ?_, by intro j hj; have hj_ := hK j hj; simp [go_sem, hj_.1, hj_.2, show ¬ j = b4 by omega, show ¬ j = b5 by omega, show ¬ j = b6 by omega], by first | omega | (simp [go_sem]; done) | (simp [go_sem]; omega), by simp (disch := omega) [get_alloc_ne, get_set_ne, get_kill_ne, go_sem, f10, f11, f2, f3, f4, f5, f50, f6, gb2, gb3, gb4, gb5, gb6, nb2_b4, nb2_b5, nb2_b6, nb3_b4, nb3_b5, nb3_b6, nb4_b5, nb4_b6, nb5_b4, nb5_b6, nb6_b4, nb6_b5], by first | omega | (simp [go_sem]; done) | (simp [go_sem]; omega), by simp (disch := omega) [get_alloc_ne, get_set_ne, get_kill_ne, go_sem, f10, f11, f2, f3, f4, f5, f50, f6, gb2, gb3, gb4, gb5, gb6, nb2_b4, nb2_b5, nb2_b6, nb3_b4, nb3_b5, nb3_b6, nb4_b5, nb4_b6, nb5_b4, nb5_b6, nb6_b4, nb6_b5], by first | omega | (simp [go_sem]; done) | (simp [go_sem]; omega), by simp (disch := omega) [get_alloc_ne, get_set_ne, get_kill_ne, go_sem, f10, f11, f2, f3, f4, f5, f50, f6, gb2, gb3, gb4, gb5, gb6, nb2_b4, nb2_b5, nb2_b6, nb3_b4, nb3_b5, nb3_b6, nb4_b5, nb4_b6, nb5_b4, nb5_b6, nb6_b4, nb6_b5], by first | omega | (simp [go_sem]; done) | (simp [go_sem]; omega)⟩ <;> simp [go_sem, f10, f11, f2, f3, f4, f5, f50, f6, gb2, gb3, gb4, gb5, gb6, nb2_b4, nb2_b5, nb2_b6, nb3_b4, nb3_b5, nb3_b6, nb4_b5, nb4_b6, nb5_b4, nb5_b6, nb6_b4, nb6_b5]
    clear f10 f11 f2 f3 f4 f5 f50 f6 hK hN gb2 ub2 gb3 ub3 gb4 ub4 gb5 ub5 gb6 ub6
    obtain ⟨f4, f5, f6, f7, hK, hN, gb4, ub4, gb5, ub5, gb6, ub6⟩ := hm
    obtain rfl := Option.some.inj h
    exact SW.ret ⟨AV.tup [AV.agg [AV.nils, AV.nils], AV.agg [AV.nils, AV.nils], AV.agg [AV.nils, AV.nils], AV.int (3)], by simp [go_sem, f4, f5, f6, f7, gb4, gb5, gb6], frz_tupL (frzL_c (frz_aggL (frzL_c (.nils) (frzL_c (.nils) (frzL_n)))) (frzL_c (frz_aggL (frzL_c (.nils) (frzL_c (.nils) (frzL_n)))) (frzL_c (frz_aggL (frzL_c (.nils) (frzL_c (.nils) (frzL_n)))) (frzL_c (.lit _) (frzL_n))))), hK.keeps⟩
  have h := condF h hx2
  refine SW.skip ?_
  refine SW.seq ?_
  -- region 10
  obtain ⟨rx, hrx, h⟩ := obind h
  refine SW.regX (fun f_ t_ => ∃ b12 : Nat, ∃ v2 : AV, ∃ v3 : AV, f_ 3 = AV.ptr b3 0 ∧ f_ 4 = AV.ptr b4 0 ∧ f_ 5 = AV.ptr b5 0 ∧ f_ 6 = AV.ptr b6 0 ∧ f_ 10 = AV.int (((t.nodes.length : Nat) : Int)) ∧ f_ 11 = AV.int (((t.edges.length : Nat) : Int)) ∧ f_ 12 = AV.ptr b12 0 ∧ Kept σ0 t_ ∧ σ0.next ≤ t_.next ∧ t_.get b3 = some [intsA (o.nodes), e3sA (o.edges)] ∧ b3 < t_.next ∧ t_.get b4 = some [AV.nils, AV.nils] ∧ b4 < t_.next ∧ t_.get b5 = some [AV.nils, AV.nils] ∧ b5 < t_.next ∧ t_.get b6 = some [AV.nils, AV.nils] ∧ b6 < t_.next ∧ t_.get b12 = some [v2, v3] ∧ b12 < t_.next ∧ ArrAt σ0.next t_ v2 3 (rx.nodes.map AV.int) rx.nodes.length 1 ∧ ArrAt σ0.next t_ v3 65 (rx.edges.flatMap e3C) rx.edges.length 3 ∧ (∀ i, idOf v2 = some i → ¬ i = b3) ∧ (∀ i, idOf v3 = some i → ¬ i = b3) ∧ (∀ i, idOf v2 = some i → ¬ i = b4) ∧ (∀ i, idOf v3 = some i → ¬ i = b4) ∧ (∀ i, idOf v2 = some i → ¬ i = b5) ∧ (∀ i, idOf v3 = some i → ¬ i = b5) ∧ (∀ i, idOf v2 = some i → ¬ i = b6) ∧ (∀ i, idOf v3 = some i → ¬ i = b6) ∧ σ0.next ≤ b12 ∧ ¬ b3 = b12 ∧ ¬ b4 = b12 ∧ ¬ b5 = b12 ∧ ¬ b6 = b12 ∧ (∀ i, idOf v2 = some i → ¬ i = b12) ∧ (∀ i, idOf v3 = some i → ¬ i = b12) ∧ Apart v2 v3) (fun M hM => ?_) (fun fr11 τ4 hm => ?_)
  · simp [go_sem, f10, f11, f2, f3, f4, f5, f50, f6, gb2, gb3, gb4, gb5, gb6]
    refine EWcall_of (o_ref05_Copied t _ hrx _) ?_
    rintro xq τc ⟨⟨v, v1, hxq, av, av1, evv1⟩, kc, nc⟩
    obtain rfl := hxq.symm
    have hK := hK.trans kc hN
    have hN := Nat.le_trans hN nc
    have evb2 : ∀ i, idOf v = some i → ¬ i = b2 := fun i hi => by have := arrAt_lt av i hi; omega
    have evb3 : ∀ i, idOf v = some i → ¬ i = b3 := fun i hi => by have := arrAt_lt av i hi; omega
    have evb4 : ∀ i, idOf v = some i → ¬ i = b4 := fun i hi => by have := arrAt_lt av i hi; omega
    have evb5 : ∀ i, idOf v = some i → ¬ i = b5 := fun i hi => by have := arrAt_lt av i hi; omega
    have evb6 : ∀ i, idOf v = some i → ¬ i = b6 := fun i hi => by have := arrAt_lt av i hi; omega
    have ev1b2 : ∀ i, idOf v1 = some i → ¬ i = b2 := fun i hi => by have := arrAt_lt av1 i hi; omega
    have ev1b3 : ∀ i, idOf v1 = some i → ¬ i = b3 := fun i hi => by have := arrAt_lt av1 i hi; omega
    have ev1b4 : ∀ i, idOf v1 = some i → ¬ i = b4 := fun i hi => by have := arrAt_lt av1 i hi; omega
    have ev1b5 : ∀ i, idOf v1 = some i → ¬ i = b5 := fun i hi => by have := arrAt_lt av1 i hi; omega
    have ev1b6 : ∀ i, idOf v1 = some i → ¬ i = b6 := fun i hi => by have := arrAt_lt av1 i hi; omega
    have av := av.lo (n1 := σ0.next) (by omega)
    have av1 := av1.lo (n1 := σ0.next) (by omega)
    have gb2 := (kc b2 ub2).1.trans gb2
    have ub2 := Nat.lt_of_lt_of_le ub2 nc
    have gb3 := (kc b3 ub3).1.trans gb3
    have ub3 := Nat.lt_of_lt_of_le ub3 nc
    have gb4 := (kc b4 ub4).1.trans gb4
    have ub4 := Nat.lt_of_lt_of_le ub4 nc
    have gb5 := (kc b5 ub5).1.trans gb5
    have ub5 := Nat.lt_of_lt_of_le ub5 nc
    have gb6 := (kc b6 ub6).1.trans gb6
    have ub6 := Nat.lt_of_lt_of_le ub6 nc
    have nb2_0 : ¬ b2 = τc.next := by omega
    have nb3_0 : ¬ b3 = τc.next := by omega
    have nb4_0 : ¬ b4 = τc.next := by omega
    have nb5_0 : ¬ b5 = τc.next := by omega
    have nb6_0 : ¬ b6 = τc.next := by omega
    simp [go_sem, f10, f11, f2, f3, f4, f5, f50, f6, gb2, gb3, gb4, gb5, gb6]
    refine (hM _ _).2 ⟨τc.next, v, v1, ?_, ?_, ?_, ?_, ?_, ?_, ?_, by intro j hj; have hj_ := hK j hj; simp [go_sem, hj_.1, hj_.2, show ¬ j = τc.next by omega], by first | omega | (simp [go_sem]; done) | (simp [go_sem]; omega), by simp (disch := omega) [get_alloc_ne, get_set_ne, get_kill_ne, go_sem, f10, f11, f2, f3, f4, f5, f50, f6, gb2, gb3, gb4, gb5, gb6], by first | omega | (simp [go_sem]; done) | (simp [go_sem]; omega), by simp (disch := omega) [get_alloc_ne, get_set_ne, get_kill_ne, go_sem, f10, f11, f2, f3, f4, f5, f50, f6, gb2, gb3, gb4, gb5, gb6], by first | omega | (simp [go_sem]; done) | (simp [go_sem]; omega), by simp (disch := omega) [get_alloc_ne, get_set_ne, get_kill_ne, go_sem, f10, f11, f2, f3, f4, f5, f50, f6, gb2, gb3, gb4, gb5, gb6], by first | omega | (simp [go_sem]; done) | (simp [go_sem]; omega), by simp (disch := omega) [get_alloc_ne, get_set_ne, get_kill_ne, go_sem, f10, f11, f2, f3, f4, f5, f50, f6, gb2, gb3, gb4, gb5, gb6], by first | omega | (simp [go_sem]; done) | (simp [go_sem]; omega), by simp (disch := omega) [get_alloc_ne, get_set_ne, get_kill_ne, go_sem, f10, f11, f2, f3, f4, f5, f50, f6, gb2, gb3, gb4, gb5, gb6], by first | omega | (simp [go_sem]; done) | (simp [go_sem]; omega), av.same' (by simp [go_sem]; try omega) (fun i hi => by have zl := arrAt_lt av i hi; have zi0 : ¬ i = τc.next := (by omega); constructor <;> simp [go_sem, zi0]), av1.same' (by simp [go_sem]; try omega) (fun i hi => by have zl := arrAt_lt av1 i hi; have zi0 : ¬ i = τc.next := (by omega); constructor <;> simp [go_sem, zi0]), by first | exact evb3 | (intro i hi; have := arrAt_lt av i hi; omega), by first | exact ev1b3 | (intro i hi; have := arrAt_lt av1 i hi; omega), by first | exact evb4 | (intro i hi; have := arrAt_lt av i hi; omega), by first | exact ev1b4 | (intro i hi; have := arrAt_lt av1 i hi; omega), by first | exact evb5 | (intro i hi; have := arrAt_lt av i hi; omega), by first | exact ev1b5 | (intro i hi; have := arrAt_lt av1 i hi; omega), by first | exact evb6 | (intro i hi; have := arrAt_lt av i hi; omega), by first | exact ev1b6 | (intro i hi; have := arrAt_lt av1 i hi; omega), by omega, by omega, by omega, by omega, by omega, by first | exact evb12 | (intro i hi; have := arrAt_lt av i hi; omega), by first | exact ev1b12 | (intro i hi; have := arrAt_lt av1 i hi; omega), by first | exact evv1 | exact apart_symm ev1v | (intro i h1 h2; simp [idOf] at h1; done) | (intro i h1 h2; simp [idOf] at h2; done) | (intro i h1 h2; have := arrAt_lt av i h1; have := arrAt_lt av1 i h2; omega)⟩ <;> simp [go_sem, f10, f11, f2, f3, f4, f5, f50, f6, gb2, gb3, gb4, gb5, gb6]
  clear f10 f11 f2 f3 f4 f5 f50 f6 hK hN gb2 ub2 gb3 ub3 gb4 ub4 gb5 ub5 gb6 ub6
  obtain ⟨b12, v2, v3, f3, f4, f5, f6, f10, f11, f12, hK, hN, gb3, ub3, gb4, ub4, gb5, ub5, gb6, ub6, gb12, ub12, av2, av3, ev2b3, ev3b3, ev2b4, ev3b4, ev2b5, ev3b5, ev2b6, ev3b6, wb12, eb3b12, eb4b12, eb5b12, eb6b12, ev2b12, ev3b12, ev2v3⟩ := hm
  refine SW.seq ?_
  -- region 11
  obtain ⟨a, ha, h⟩ := obind h
  obtain ⟨la, ea⟩ := catL_spec ha
  refine SW.regX (fun f_ t_ => ∃ v4 : AV, f_ 3 = AV.ptr b3 0 ∧ f_ 4 = AV.ptr b4 0 ∧ f_ 5 = AV.ptr b5 0 ∧ f_ 6 = AV.ptr b6 0 ∧ f_ 10 = AV.int (((t.nodes.length : Nat) : Int)) ∧ f_ 11 = AV.int (((t.edges.length : Nat) : Int)) ∧ f_ 12 = AV.ptr b12 0 ∧ Kept σ0 t_ ∧ σ0.next ≤ t_.next ∧ t_.get b3 = some [intsA (o.nodes), e3sA (o.edges)] ∧ b3 < t_.next ∧ t_.get b4 = some [AV.nils, AV.nils] ∧ b4 < t_.next ∧ t_.get b5 = some [AV.nils, AV.nils] ∧ b5 < t_.next ∧ t_.get b6 = some [AV.nils, AV.nils] ∧ b6 < t_.next ∧ t_.get b12 = some [v4, v3] ∧ b12 < t_.next ∧ ArrAt σ0.next t_ v4 3 (a.map AV.int) a.length 1 ∧ ArrAt σ0.next t_ v3 65 (rx.edges.flatMap e3C) rx.edges.length 3 ∧ (∀ i, idOf v4 = some i → ¬ i = b3) ∧ (∀ i, idOf v4 = some i → ¬ i = b4) ∧ (∀ i, idOf v4 = some i → ¬ i = b5) ∧ (∀ i, idOf v4 = some i → ¬ i = b6) ∧ (∀ i, idOf v4 = some i → ¬ i = b12) ∧ Apart v4 v3) (fun M hM => ?_) (fun fr12 τ5 hm => ?_)
  · have nb3_0 : ¬ b3 = τ4.next := by omega
    have nb4_0 : ¬ b4 = τ4.next := by omega
    have nb5_0 : ¬ b5 = τ4.next := by omega
    have nb6_0 : ¬ b6 = τ4.next := by omega
    have nb12_0 : ¬ b12 = τ4.next := by omega
    have nb3_b12 : ¬ b3 = b12 := by omega
    have nb4_b12 : ¬ b4 = b12 := by omega
    have nb5_b12 : ¬ b5 = b12 := by omega
    have nb6_b12 : ¬ b6 = b12 := by omega
    have zv2 := av2
    rcases zv2 with ⟨rfl, nv2, mv2⟩ | ⟨ov2, rfl, gov2, tov2, lov2, hiv2⟩
    · by_cases hva : o.nodes = []
      · simp [go_sem, f10, f11, f12, f3, f4, f5, f6, gb3, gb4, gb5, gb6, gb12, nb3_0, nb4_0, nb5_0, nb6_0, nb12_0, nb3_b12, nb4_b12, nb5_b12, nb6_b12, nv2, mv2, hva]
        refine (hM _ _).2 ⟨AV.nils, ?_, ?_, ?_, ?_, ?_, ?_, ?_, by intro j hj; have hj_ := hK j hj; simp [go_sem, hj_.1, hj_.2, show ¬ j = b12 by omega], by first | omega | (simp [go_sem]; done) | (simp [go_sem]; omega), by simp (disch := omega) [get_alloc_ne, get_set_ne, get_kill_ne, go_sem, f10, f11, f12, f3, f4, f5, f6, gb3, gb4, gb5, gb6, gb12, nb3_0, nb4_0, nb5_0, nb6_0, nb12_0, nb3_b12, nb4_b12, nb5_b12, nb6_b12, nv2, mv2, hva, ea], by first | omega | (simp [go_sem]; done) | (simp [go_sem]; omega), by simp (disch := omega) [get_alloc_ne, get_set_ne, get_kill_ne, go_sem, f10, f11, f12, f3, f4, f5, f6, gb3, gb4, gb5, gb6, gb12, nb3_0, nb4_0, nb5_0, nb6_0, nb12_0, nb3_b12, nb4_b12, nb5_b12, nb6_b12, nv2, mv2, hva, ea], by first | omega | (simp [go_sem]; done) | (simp [go_sem]; omega), by simp (disch := omega) [get_alloc_ne, get_set_ne, get_kill_ne, go_sem, f10, f11, f12, f3, f4, f5, f6, gb3, gb4, gb5, gb6, gb12, nb3_0, nb4_0, nb5_0, nb6_0, nb12_0, nb3_b12, nb4_b12, nb5_b12, nb6_b12, nv2, mv2, hva, ea], by first | omega | (simp [go_sem]; done) | (simp [go_sem]; omega), by simp (disch := omega) [get_alloc_ne, get_set_ne, get_kill_ne, go_sem, f10, f11, f12, f3, f4, f5, f6, gb3, gb4, gb5, gb6, gb12, nb3_0, nb4_0, nb5_0, nb6_0, nb12_0, nb3_b12, nb4_b12, nb5_b12, nb6_b12, nv2, mv2, hva, ea], by first | omega | (simp [go_sem]; done) | (simp [go_sem]; omega), by simp (disch := omega) [get_alloc_ne, get_set_ne, get_kill_ne, go_sem, f10, f11, f12, f3, f4, f5, f6, gb3, gb4, gb5, gb6, gb12, nb3_0, nb4_0, nb5_0, nb6_0, nb12_0, nb3_b12, nb4_b12, nb5_b12, nb6_b12, nv2, mv2, hva, ea], by first | omega | (simp [go_sem]; done) | (simp [go_sem]; omega), .inl ⟨rfl, by simp [go_sem, f10, f11, f12, f3, f4, f5, f6, gb3, gb4, gb5, gb6, gb12, nb3_0, nb4_0, nb5_0, nb6_0, nb12_0, nb3_b12, nb4_b12, nb5_b12, nb6_b12, nv2, mv2, hva, ea], by simp [go_sem, f10, f11, f12, f3, f4, f5, f6, gb3, gb4, gb5, gb6, gb12, nb3_0, nb4_0, nb5_0, nb6_0, nb12_0, nb3_b12, nb4_b12, nb5_b12, nb6_b12, nv2, mv2, hva, ea]⟩, av3.same' (by simp [go_sem]; try omega) (fun i hi => by have zl := arrAt_lt av3 i hi; have zs0 := ev3b12 i hi; constructor <;> simp [go_sem, zs0]), by intro i hi; first | (simp [idOf] at hi; done) | (simp [idOf] at hi; omega), by intro i hi; first | (simp [idOf] at hi; done) | (simp [idOf] at hi; omega), by intro i hi; first | (simp [idOf] at hi; done) | (simp [idOf] at hi; omega), by intro i hi; first | (simp [idOf] at hi; done) | (simp [idOf] at hi; omega), by intro i hi; first | (simp [idOf] at hi; done) | (simp [idOf] at hi; omega), by first | exact ev4v3 | exact apart_symm ev3v4 | (intro i h1 h2; simp [idOf] at h1; done) | (intro i h1 h2; simp [idOf] at h2; done) | (intro i h1 h2; simp [idOf] at h1; have := arrAt_lt av3 i h2; omega)⟩ <;> simp [go_sem, f10, f11, f12, f3, f4, f5, f6, gb3, gb4, gb5, gb6, gb12, nb3_0, nb4_0, nb5_0, nb6_0, nb12_0, nb3_b12, nb4_b12, nb5_b12, nb6_b12, nv2, mv2, hva, ea]
      · have ca_0 : o.nodes.length ≤ 9223372036854775807 := by have c_ := la; (try simp at c_); omega
        have ca_1 : o.nodes.length * 8 ≤ 140737488355328 := by have c_ := la; (try simp at c_); omega
        simp [go_sem, f10, f11, f12, f3, f4, f5, f6, gb3, gb4, gb5, gb6, gb12, nb3_0, nb4_0, nb5_0, nb6_0, nb12_0, nb3_b12, nb4_b12, nb5_b12, nb6_b12, nv2, mv2, hva, ca_0, ca_1]
        refine (hM _ _).2 ⟨AV.arr τ4.next 0 a.length 1, ?_, ?_, ?_, ?_, ?_, ?_, ?_, by intro j hj; have hj_ := hK j hj; simp [go_sem, hj_.1, hj_.2, show ¬ j = τ4.next by omega, show ¬ j = b12 by omega], by first | omega | (simp [go_sem]; done) | (simp [go_sem]; omega), by simp (disch := omega) [get_alloc_ne, get_set_ne, get_kill_ne, go_sem, f10, f11, f12, f3, f4, f5, f6, gb3, gb4, gb5, gb6, gb12, nb3_0, nb4_0, nb5_0, nb6_0, nb12_0, nb3_b12, nb4_b12, nb5_b12, nb6_b12, nv2, mv2, hva, ca_0, ca_1, ea], by first | omega | (simp [go_sem]; done) | (simp [go_sem]; omega), by simp (disch := omega) [get_alloc_ne, get_set_ne, get_kill_ne, go_sem, f10, f11, f12, f3, f4, f5, f6, gb3, gb4, gb5, gb6, gb12, nb3_0, nb4_0, nb5_0, nb6_0, nb12_0, nb3_b12, nb4_b12, nb5_b12, nb6_b12, nv2, mv2, hva, ca_0, ca_1, ea], by first | omega | (simp [go_sem]; done) | (simp [go_sem]; omega), by simp (disch := omega) [get_alloc_ne, get_set_ne, get_kill_ne, go_sem, f10, f11, f12, f3, f4, f5, f6, gb3, gb4, gb5, gb6, gb12, nb3_0, nb4_0, nb5_0, nb6_0, nb12_0, nb3_b12, nb4_b12, nb5_b12, nb6_b12, nv2, mv2, hva, ca_0, ca_1, ea], by first | omega | (simp [go_sem]; done) | (simp [go_sem]; omega), by simp (disch := omega) [get_alloc_ne, get_set_ne, get_kill_ne, go_sem, f10, f11, f12, f3, f4, f5, f6, gb3, gb4, gb5, gb6, gb12, nb3_0, nb4_0, nb5_0, nb6_0, nb12_0, nb3_b12, nb4_b12, nb5_b12, nb6_b12, nv2, mv2, hva, ca_0, ca_1, ea], by first | omega | (simp [go_sem]; done) | (simp [go_sem]; omega), by simp (disch := omega) [get_alloc_ne, get_set_ne, get_kill_ne, go_sem, f10, f11, f12, f3, f4, f5, f6, gb3, gb4, gb5, gb6, gb12, nb3_0, nb4_0, nb5_0, nb6_0, nb12_0, nb3_b12, nb4_b12, nb5_b12, nb6_b12, nv2, mv2, hva, ca_0, ca_1, ea], by first | omega | (simp [go_sem]; done) | (simp [go_sem]; omega), .inr ⟨τ4.next, rfl, by simp (disch := omega) [get_alloc_ne, get_set_ne, get_kill_ne, go_sem, f10, f11, f12, f3, f4, f5, f6, gb3, gb4, gb5, gb6, gb12, nb3_0, nb4_0, nb5_0, nb6_0, nb12_0, nb3_b12, nb4_b12, nb5_b12, nb6_b12, nv2, mv2, hva, ca_0, ca_1, ea], by simp [go_sem, f10, f11, f12, f3, f4, f5, f6, gb3, gb4, gb5, gb6, gb12, nb3_0, nb4_0, nb5_0, nb6_0, nb12_0, nb3_b12, nb4_b12, nb5_b12, nb6_b12, nv2, mv2, hva, ca_0, ca_1, ea], by omega, by first | (simp [go_sem]; done) | (simp [go_sem]; omega)⟩, av3.same' (by simp [go_sem]; try omega) (fun i hi => by have zl := arrAt_lt av3 i hi; have zs0 := ev3b12 i hi; have zi0 : ¬ i = τ4.next := (by omega); constructor <;> simp [go_sem, zs0, zi0]), by intro i hi; first | (simp [idOf] at hi; done) | (simp [idOf] at hi; omega), by intro i hi; first | (simp [idOf] at hi; done) | (simp [idOf] at hi; omega), by intro i hi; first | (simp [idOf] at hi; done) | (simp [idOf] at hi; omega), by intro i hi; first | (simp [idOf] at hi; done) | (simp [idOf] at hi; omega), by intro i hi; first | (simp [idOf] at hi; done) | (simp [idOf] at hi; omega), by first | exact ev4v3 | exact apart_symm ev3v4 | (intro i h1 h2; simp [idOf] at h1; done) | (intro i h1 h2; simp [idOf] at h2; done) | (intro i h1 h2; simp [idOf] at h1; have := arrAt_lt av3 i h2; omega)⟩ <;> simp [go_sem, f10, f11, f12, f3, f4, f5, f6, gb3, gb4, gb5, gb6, gb12, nb3_0, nb4_0, nb5_0, nb6_0, nb12_0, nb3_b12, nb4_b12, nb5_b12, nb6_b12, nv2, mv2, hva, ca_0, ca_1, ea]
    · have nv2_0 : ¬ ov2 = τ4.next := by omega
      have nv2_b3 : ¬ ov2 = b3 := ev2b3 _ rfl
      have nb3_v2 : ¬ b3 = ov2 := fun e => ev2b3 _ rfl e.symm
      have nv2_b4 : ¬ ov2 = b4 := ev2b4 _ rfl
      have nb4_v2 : ¬ b4 = ov2 := fun e => ev2b4 _ rfl e.symm
      have nv2_b5 : ¬ ov2 = b5 := ev2b5 _ rfl
      have nb5_v2 : ¬ b5 = ov2 := fun e => ev2b5 _ rfl e.symm
      have nv2_b6 : ¬ ov2 = b6 := ev2b6 _ rfl
      have nb6_v2 : ¬ b6 = ov2 := fun e => ev2b6 _ rfl e.symm
      have nv2_b12 : ¬ ov2 = b12 := ev2b12 _ rfl
      have nb12_v2 : ¬ b12 = ov2 := fun e => ev2b12 _ rfl e.symm
      have ca_0 : rx.nodes.length + o.nodes.length ≤ 9223372036854775807 := by have c_ := la; (try simp at c_); omega
      have ca_1 : (rx.nodes.length + o.nodes.length) * 8 ≤ 140737488355328 := by have c_ := la; (try simp at c_); omega
      simp [go_sem, f10, f11, f12, f3, f4, f5, f6, gb3, gb4, gb5, gb6, gb12, nb3_0, nb4_0, nb5_0, nb6_0, nb12_0, nb3_b12, nb4_b12, nb5_b12, nb6_b12, gov2, tov2, nv2_0, nv2_b3, nb3_v2, nv2_b4, nb4_v2, nv2_b5, nb5_v2, nv2_b6, nb6_v2, nv2_b12, nb12_v2, ca_0, ca_1]
      refine (hM _ _).2 ⟨AV.arr τ4.next 0 a.length 1, ?_, ?_, ?_, ?_, ?_, ?_, ?_, by intro j hj; have hj_ := hK j hj; simp [go_sem, hj_.1, hj_.2, show ¬ j = τ4.next by omega, show ¬ j = b12 by omega, show ¬ j = ov2 by omega], by first | omega | (simp [go_sem]; done) | (simp [go_sem]; omega), by simp (disch := omega) [get_alloc_ne, get_set_ne, get_kill_ne, go_sem, f10, f11, f12, f3, f4, f5, f6, gb3, gb4, gb5, gb6, gb12, nb3_0, nb4_0, nb5_0, nb6_0, nb12_0, nb3_b12, nb4_b12, nb5_b12, nb6_b12, gov2, tov2, nv2_0, nv2_b3, nb3_v2, nv2_b4, nb4_v2, nv2_b5, nb5_v2, nv2_b6, nb6_v2, nv2_b12, nb12_v2, ca_0, ca_1, ea], by first | omega | (simp [go_sem]; done) | (simp [go_sem]; omega), by simp (disch := omega) [get_alloc_ne, get_set_ne, get_kill_ne, go_sem, f10, f11, f12, f3, f4, f5, f6, gb3, gb4, gb5, gb6, gb12, nb3_0, nb4_0, nb5_0, nb6_0, nb12_0, nb3_b12, nb4_b12, nb5_b12, nb6_b12, gov2, tov2, nv2_0, nv2_b3, nb3_v2, nv2_b4, nb4_v2, nv2_b5, nb5_v2, nv2_b6, nb6_v2, nv2_b12, nb12_v2, ca_0, ca_1, ea], by first | omega | (simp [go_sem]; done) | (simp [go_sem]; omega), by simp (disch := omega) [get_alloc_ne, get_set_ne, get_kill_ne, go_sem, f10, f11, f12, f3, f4, f5, f6, gb3, gb4, gb5, gb6, gb12, nb3_0, nb4_0, nb5_0, nb6_0, nb12_0, nb3_b12, nb4_b12, nb5_b12, nb6_b12, gov2, tov2, nv2_0, nv2_b3, nb3_v2, nv2_b4, nb4_v2, nv2_b5, nb5_v2, nv2_b6, nb6_v2, nv2_b12, nb12_v2, ca_0, ca_1, ea], by first | omega | (simp [go_sem]; done) | (simp [go_sem]; omega), by simp (disch := omega) [get_alloc_ne, get_set_ne, get_kill_ne, go_sem, f10, f11, f12, f3, f4, f5, f6, gb3, gb4, gb5, gb6, gb12, nb3_0, nb4_0, nb5_0, nb6_0, nb12_0, nb3_b12, nb4_b12, nb5_b12, nb6_b12, gov2, tov2, nv2_0, nv2_b3, nb3_v2, nv2_b4, nb4_v2, nv2_b5, nb5_v2, nv2_b6, nb6_v2, nv2_b12, nb12_v2, ca_0, ca_1, ea], by first | omega | (simp [go_sem]; done) | (simp [go_sem]; omega), by simp (disch := omega) [get_alloc_ne, get_set_ne, get_kill_ne, go_sem, f10, f11, f12, f3, f4, f5, f6, gb3, gb4, gb5, gb6, gb12, nb3_0, nb4_0, nb5_0, nb6_0, nb12_0, nb3_b12, nb4_b12, nb5_b12, nb6_b12, gov2, tov2, nv2_0, nv2_b3, nb3_v2, nv2_b4, nb4_v2, nv2_b5, nb5_v2, nv2_b6, nb6_v2, nv2_b12, nb12_v2, ca_0, ca_1, ea], by first | omega | (simp [go_sem]; done) | (simp [go_sem]; omega), .inr ⟨τ4.next, rfl, by simp (disch := omega) [get_alloc_ne, get_set_ne, get_kill_ne, go_sem, f10, f11, f12, f3, f4, f5, f6, gb3, gb4, gb5, gb6, gb12, nb3_0, nb4_0, nb5_0, nb6_0, nb12_0, nb3_b12, nb4_b12, nb5_b12, nb6_b12, gov2, tov2, nv2_0, nv2_b3, nb3_v2, nv2_b4, nb4_v2, nv2_b5, nb5_v2, nv2_b6, nb6_v2, nv2_b12, nb12_v2, ca_0, ca_1, ea], by simp [go_sem, f10, f11, f12, f3, f4, f5, f6, gb3, gb4, gb5, gb6, gb12, nb3_0, nb4_0, nb5_0, nb6_0, nb12_0, nb3_b12, nb4_b12, nb5_b12, nb6_b12, gov2, tov2, nv2_0, nv2_b3, nb3_v2, nv2_b4, nb4_v2, nv2_b5, nb5_v2, nv2_b6, nb6_v2, nv2_b12, nb12_v2, ca_0, ca_1, ea], by omega, by first | (simp [go_sem]; done) | (simp [go_sem]; omega)⟩, av3.same' (by simp [go_sem]; try omega) (fun i hi => by have zl := arrAt_lt av3 i hi; have zs0 := ev3b12 i hi; have zi0 : ¬ i = τ4.next := (by omega); have zk0 := apart_ne (by first | exact ev2v3 | exact apart_symm ev3v2) hi; constructor <;> simp [go_sem, zs0, zi0, zk0]), by intro i hi; first | (simp [idOf] at hi; done) | (simp [idOf] at hi; omega), by intro i hi; first | (simp [idOf] at hi; done) | (simp [idOf] at hi; omega), by intro i hi; first | (simp [idOf] at hi; done) | (simp [idOf] at hi; omega), by intro i hi; first | (simp [idOf] at hi; done) | (simp [idOf] at hi; omega), by intro i hi; first | (simp [idOf] at hi; done) | (simp [idOf] at hi; omega), by first | exact ev4v3 | exact apart_symm ev3v4 | (intro i h1 h2; simp [idOf] at h1; done) | (intro i h1 h2; simp [idOf] at h2; done) | (intro i h1 h2; simp [idOf] at h1; have := arrAt_lt av3 i h2; omega)⟩ <;> simp [go_sem, f10, f11, f12, f3, f4, f5, f6, gb3, gb4, gb5, gb6, gb12, nb3_0, nb4_0, nb5_0, nb6_0, nb12_0, nb3_b12, nb4_b12, nb5_b12, nb6_b12, gov2, tov2, nv2_0, nv2_b3, nb3_v2, nv2_b4, nb4_v2, nv2_b5, nb5_v2, nv2_b6, nb6_v2, nv2_b12, nb12_v2, ca_0, ca_1, ea]
  clear f10 f11 f12 f3 f4 f5 f6 hK hN gb3 ub3 gb4 ub4 gb5 ub5 gb6 ub6 gb12 ub12 av2 av3
  obtain ⟨v4, f3, f4, f5, f6, f10, f11, f12, hK, hN, gb3, ub3, gb4, ub4, gb5, ub5, gb6, ub6, gb12, ub12, av4, av3, ev4b3, ev4b4, ev4b5, ev4b6, ev4b12, ev4v3⟩ := hm
  refine SW.seq ?_
  refine SW.seq ?_
  -- region 12
  refine SW.regX (fun f_ t_ => τ5 = t_ ∧ f_ 3 = AV.ptr b3 0 ∧ f_ 4 = AV.ptr b4 0 ∧ f_ 5 = AV.ptr b5 0 ∧ f_ 6 = AV.ptr b6 0 ∧ f_ 10 = AV.int (((t.nodes.length : Nat) : Int)) ∧ f_ 11 = AV.int (((t.edges.length : Nat) : Int)) ∧ f_ 12 = AV.ptr b12 0 ∧ f_ 13 = AV.int (0)) (fun M hM => ?_) (fun fr13 τz6 hm => ?_)
  · simp [go_sem, f10, f11, f12, f3, f4, f5, f6, gb3, gb4, gb5, gb6, gb12]
    refine (hM _ _).2 ⟨rfl, ?_, ?_, ?_, ?_, ?_, ?_, ?_, ?_⟩ <;> simp [go_sem, f10, f11, f12, f3, f4, f5, f6, gb3, gb4, gb5, gb6, gb12]
  clear f10 f11 f12 f3 f4 f5 f6
  obtain ⟨rfl, f3, f4, f5, f6, f10, f11, f12, f13⟩ := hm
  obtain ⟨oi, hruni, hoi⟩ := obind h
  refine SW.lenB b3 1 gb3 rfl (fun hbigi => ?_)
  obtain ⟨KL, hKL⟩ : ∃ KL : Fr → Mem → Prop, ∀ fr' τ', KL fr' τ' ↔ (∃ x : List E3, ∃ v5 : AV, oi = .done x ∧ fr' 3 = AV.ptr b3 0 ∧ fr' 4 = AV.ptr b4 0 ∧ fr' 5 = AV.ptr b5 0 ∧ fr' 6 = AV.ptr b6 0 ∧ fr' 10 = AV.int (((t.nodes.length : Nat) : Int)) ∧ fr' 11 = AV.int (((t.edges.length : Nat) : Int)) ∧ fr' 12 = AV.ptr b12 0 ∧ Kept σ0 τ' ∧ σ0.next ≤ τ'.next ∧ τ'.get b3 = some [intsA (o.nodes), e3sA (o.edges)] ∧ b3 < τ'.next ∧ τ'.get b4 = some [AV.nils, AV.nils] ∧ b4 < τ'.next ∧ τ'.get b5 = some [AV.nils, AV.nils] ∧ b5 < τ'.next ∧ τ'.get b6 = some [AV.nils, AV.nils] ∧ b6 < τ'.next ∧ τ'.get b12 = some [v4, v5] ∧ b12 < τ'.next ∧ ArrAt σ0.next τ' v4 3 (a.map AV.int) a.length 1 ∧ ArrAt σ0.next τ' v5 65 (x.flatMap e3C) x.length 3 ∧ (∀ i, idOf v5 = some i → ¬ i = b3) ∧ (∀ i, idOf v5 = some i → ¬ i = b4) ∧ (∀ i, idOf v5 = some i → ¬ i = b5) ∧ (∀ i, idOf v5 = some i → ¬ i = b6) ∧ (∀ i, idOf v5 = some i → ¬ i = b12) ∧ Apart v4 v5) := ⟨_, fun _ _ => Iff.rfl⟩
  refine SW.cut KL ?_ ?_
  · refine SW.block ?_
    obtain ⟨J, hJ⟩ : ∃ J : Nat → Fr → Mem → Prop, ∀ m_ fr' τ', J m_ fr' τ' ↔ (∃ k : Nat, ∃ x : List E3, ∃ v5 : AV, m_ = o.edges.length - k ∧ forN (b1_ref05_Union t o) (o.edges.length - k) k x = some oi ∧ fr' 3 = AV.ptr b3 0 ∧ fr' 4 = AV.ptr b4 0 ∧ fr' 5 = AV.ptr b5 0 ∧ fr' 6 = AV.ptr b6 0 ∧ fr' 10 = AV.int (((t.nodes.length : Nat) : Int)) ∧ fr' 11 = AV.int (((t.edges.length : Nat) : Int)) ∧ fr' 12 = AV.ptr b12 0 ∧ fr' 13 = AV.int (((k : Nat) : Int)) ∧ Kept σ0 τ' ∧ σ0.next ≤ τ'.next ∧ τ'.get b3 = some [intsA (o.nodes), e3sA (o.edges)] ∧ b3 < τ'.next ∧ τ'.get b4 = some [AV.nils, AV.nils] ∧ b4 < τ'.next ∧ τ'.get b5 = some [AV.nils, AV.nils] ∧ b5 < τ'.next ∧ τ'.get b6 = some [AV.nils, AV.nils] ∧ b6 < τ'.next ∧ τ'.get b12 = some [v4, v5] ∧ b12 < τ'.next ∧ ArrAt σ0.next τ' v4 3 (a.map AV.int) a.length 1 ∧ ArrAt σ0.next τ' v5 65 (x.flatMap e3C) x.length 3 ∧ (∀ i, idOf v5 = some i → ¬ i = b3) ∧ (∀ i, idOf v5 = some i → ¬ i = b4) ∧ (∀ i, idOf v5 = some i → ¬ i = b5) ∧ (∀ i, idOf v5 = some i → ¬ i = b6) ∧ (∀ i, idOf v5 = some i → ¬ i = b12) ∧ Apart v4 v5) := ⟨_, fun _ _ _ => Iff.rfl⟩
    refine SW.loop J (o.edges.length - 0) ((hJ _ _ _).2 ⟨0, rx.edges, v3, rfl, hruni, f3, f4, f5, f6, f10, f11, f12, f13, hK, hN, gb3, ub3, gb4, ub4, gb5, ub5, gb6, ub6, gb12, ub12, av4, av3, ev3b3, ev3b4, ev3b5, ev3b6, ev3b12, (by first | exact ev4v3 | exact fun i h h' => ev3v4 i h' h)⟩) ?_
    clear hruni
    intro m_ fr14 τ6 hm
    rw [hJ] at hm
    clear f10 f11 f12 f13 f3 f4 f5 f6 hK hN gb3 ub3 gb4 ub4 gb5 ub5 gb6 ub6 gb12 ub12 av4 av3
    obtain ⟨k, x, v5, rfl, hruni, f3, f4, f5, f6, f10, f11, f12, f13, hK, hN, gb3, ub3, gb4, ub4, gb5, ub5, gb6, ub6, gb12, ub12, av4, av5, ev5b3, ev5b4, ev5b5, ev5b6, ev5b12, ev4v5⟩ := hm
    refine SW.seq ?_
    refine SW.seq ?_
    -- region 13
    refine SW.regX (fun f_ t_ => τ6 = t_ ∧ f_ 3 = AV.ptr b3 0 ∧ f_ 4 = AV.ptr b4 0 ∧ f_ 5 = AV.ptr b5 0 ∧ f_ 6 = AV.ptr b6 0 ∧ f_ 10 = AV.int (((t.nodes.length : Nat) : Int)) ∧ f_ 11 = AV.int (((t.edges.length : Nat) : Int)) ∧ f_ 12 = AV.ptr b12 0 ∧ f_ 13 = AV.int (((k : Nat) : Int)) ∧ f_ 66 = AV.bool ((decide (k < o.edges.length)))) (fun M hM => ?_) (fun fr15 τz7 hm => ?_)
    · simp [go_sem, f10, f11, f12, f13, f3, f4, f5, f6, gb3, gb4, gb5, gb6, gb12]
      refine (hM _ _).2 ⟨rfl, ?_, ?_, ?_, ?_, ?_, ?_, ?_, ?_, ?_⟩ <;> simp [go_sem, f10, f11, f12, f13, f3, f4, f5, f6, gb3, gb4, gb5, gb6, gb12]
    clear f10 f11 f12 f13 f3 f4 f5 f6
    obtain ⟨rfl, f3, f4, f5, f6, f10, f11, f12, f13, f66⟩ := hm
    refine SW.cond _ f66 (fun hx3 => ?_) (fun hx3 => ?_)
    rotate_left
    · have hk : ¬ k < o.edges.length := by have := of_decide_eq_false hx3; omega
      refine SW.exit rfl ?_
      exact SW.goal ((hKL _ _).2 ⟨x, v5, forN_end hruni hk, f3, f4, f5, f6, f10, f11, f12, hK, hN, gb3, ub3, gb4, ub4, gb5, ub5, gb6, ub6, gb12, ub12, av4, av5, ev5b3, ev5b4, ev5b5, ev5b6, ev5b12, (by first | exact ev4v5 | exact fun i h h' => ev5v4 i h' h)⟩)
    have hkk : k < o.edges.length := by have := of_decide_eq_true hx3; omega
    have hwk : IntKind.i64.wrap ((k : Int) + 1) = ((k + 1 : Nat) : Int) := by rw [wrap64_of _ (by omega) (by omega)]; rfl
    obtain ⟨ci, hbi, hci⟩ := forN_step hruni hkk
    simp only [b1_ref05_Union] at hbi
    refine SW.skip ?_
    refine SW.seq ?_
    refine SW.block ?_
    refine SW.seq ?_
    -- region 15
    obtain ⟨x1, hx1, hbi⟩ := obind hbi
    have xlx1 := getN_lt hx1
    have xdx1 := getN_flat e3C 3 (fun _ => rfl) hx1
    refine SW.regX (fun f_ t_ => ∃ b14 : Nat, f_ 3 = AV.ptr b3 0 ∧ f_ 4 = AV.ptr b4 0 ∧ f_ 5 = AV.ptr b5 0 ∧ f_ 6 = AV.ptr b6 0 ∧ f_ 10 = AV.int (((t.nodes.length : Nat) : Int)) ∧ f_ 11 = AV.int (((t.edges.length : Nat) : Int)) ∧ f_ 12 = AV.ptr b12 0 ∧ f_ 13 = AV.int (((k : Nat) : Int)) ∧ f_ 14 = AV.ptr b14 0 ∧ Kept σ0 t_ ∧ σ0.next ≤ t_.next ∧ t_.get b3 = some [intsA (o.nodes), e3sA (o.edges)] ∧ b3 < t_.next ∧ t_.get b4 = some [AV.nils, AV.nils] ∧ b4 < t_.next ∧ t_.get b5 = some [AV.nils, AV.nils] ∧ b5 < t_.next ∧ t_.get b6 = some [AV.nils, AV.nils] ∧ b6 < t_.next ∧ t_.get b12 = some [v4, v5] ∧ b12 < t_.next ∧ t_.get b14 = some [AV.int (x1.kind), AV.int (x1.src), AV.int (x1.tgt)] ∧ b14 < t_.next ∧ ArrAt σ0.next t_ v4 3 (a.map AV.int) a.length 1 ∧ ArrAt σ0.next t_ v5 65 (x.flatMap e3C) x.length 3 ∧ σ0.next ≤ b14 ∧ ¬ b3 = b14 ∧ ¬ b4 = b14 ∧ ¬ b5 = b14 ∧ ¬ b6 = b14 ∧ ¬ b12 = b14 ∧ (∀ i, idOf v4 = some i → ¬ i = b14) ∧ (∀ i, idOf v5 = some i → ¬ i = b14)) (fun M hM => ?_) (fun fr16 τ7 hm => ?_)
    · have nb3_0 : ¬ b3 = τ6.next := by omega
      have nb4_0 : ¬ b4 = τ6.next := by omega
      have nb5_0 : ¬ b5 = τ6.next := by omega
      have nb6_0 : ¬ b6 = τ6.next := by omega
      have nb12_0 : ¬ b12 = τ6.next := by omega
      simp [go_sem, f10, f11, f12, f13, f3, f4, f5, f6, f66, gb3, gb4, gb5, gb6, gb12, xlx1, xdx1, e3C, nb3_0, nb4_0, nb5_0, nb6_0, nb12_0]
      refine (hM _ _).2 ⟨τ6.next, ?_, ?_, ?_, ?_, ?_, ?_, ?_, ?_, ?_, by intro j hj; have hj_ := hK j hj; simp [go_sem, hj_.1, hj_.2, show ¬ j = τ6.next by omega], by first | omega | (simp [go_sem]; done) | (simp [go_sem]; omega), by simp (disch := omega) [get_alloc_ne, get_set_ne, get_kill_ne, go_sem, f10, f11, f12, f13, f3, f4, f5, f6, f66, gb3, gb4, gb5, gb6, gb12, xlx1, xdx1, e3C, nb3_0, nb4_0, nb5_0, nb6_0, nb12_0], by first | omega | (simp [go_sem]; done) | (simp [go_sem]; omega), by simp (disch := omega) [get_alloc_ne, get_set_ne, get_kill_ne, go_sem, f10, f11, f12, f13, f3, f4, f5, f6, f66, gb3, gb4, gb5, gb6, gb12, xlx1, xdx1, e3C, nb3_0, nb4_0, nb5_0, nb6_0, nb12_0], by first | omega | (simp [go_sem]; done) | (simp [go_sem]; omega), by simp (disch := omega) [get_alloc_ne, get_set_ne, get_kill_ne, go_sem, f10, f11, f12, f13, f3, f4, f5, f6, f66, gb3, gb4, gb5, gb6, gb12, xlx1, xdx1, e3C, nb3_0, nb4_0, nb5_0, nb6_0, nb12_0], by first | omega | (simp [go_sem]; done) | (simp [go_sem]; omega), by simp (disch := omega) [get_alloc_ne, get_set_ne, get_kill_ne, go_sem, f10, f11, f12, f13, f3, f4, f5, f6, f66, gb3, gb4, gb5, gb6, gb12, xlx1, xdx1, e3C, nb3_0, nb4_0, nb5_0, nb6_0, nb12_0], by first | omega | (simp [go_sem]; done) | (simp [go_sem]; omega), by simp (disch := omega) [get_alloc_ne, get_set_ne, get_kill_ne, go_sem, f10, f11, f12, f13, f3, f4, f5, f6, f66, gb3, gb4, gb5, gb6, gb12, xlx1, xdx1, e3C, nb3_0, nb4_0, nb5_0, nb6_0, nb12_0], by first | omega | (simp [go_sem]; done) | (simp [go_sem]; omega), by simp (disch := omega) [get_alloc_ne, get_set_ne, get_kill_ne, go_sem, f10, f11, f12, f13, f3, f4, f5, f6, f66, gb3, gb4, gb5, gb6, gb12, xlx1, xdx1, e3C, nb3_0, nb4_0, nb5_0, nb6_0, nb12_0], by first | omega | (simp [go_sem]; done) | (simp [go_sem]; omega), av4.same' (by simp [go_sem]; try omega) (fun i hi => by have zl := arrAt_lt av4 i hi; have zi0 : ¬ i = τ6.next := (by omega); constructor <;> simp [go_sem, zi0]), av5.same' (by simp [go_sem]; try omega) (fun i hi => by have zl := arrAt_lt av5 i hi; have zi0 : ¬ i = τ6.next := (by omega); constructor <;> simp [go_sem, zi0]), by omega, by omega, by omega, by omega, by omega, by omega, by first | exact ev4b14 | (intro i hi; have := arrAt_lt av4 i hi; omega), by first | exact ev5b14 | (intro i hi; have := arrAt_lt av5 i hi; omega)⟩ <;> simp [go_sem, f10, f11, f12, f13, f3, f4, f5, f6, f66, gb3, gb4, gb5, gb6, gb12, xlx1, xdx1, e3C, nb3_0, nb4_0, nb5_0, nb6_0, nb12_0]
    clear f10 f11 f12 f13 f3 f4 f5 f6 f66 hK hN gb3 ub3 gb4 ub4 gb5 ub5 gb6 ub6 gb12 ub12 av4 av5
    obtain ⟨b14, f3, f4, f5, f6, f10, f11, f12, f13, f14, hK, hN, gb3, ub3, gb4, ub4, gb5, ub5, gb6, ub6, gb12, ub12, gb14, ub14, av4, av5, wb14, eb3b14, eb4b14, eb5b14, eb6b14, eb12b14, ev4b14, ev5b14⟩ := hm
    -- region 16
    obtain ⟨a1, ha1, hbi⟩ := obind hbi
    obtain ⟨la1, ea1⟩ := catL_spec ha1
    refine SW.regX (fun f_ t_ => ∃ v6 : AV, f_ 3 = AV.ptr b3 0 ∧ f_ 4 = AV.ptr b4 0 ∧ f_ 5 = AV.ptr b5 0 ∧ f_ 6 = AV.ptr b6 0 ∧ f_ 10 = AV.int (((t.nodes.length : Nat) : Int)) ∧ f_ 11 = AV.int (((t.edges.length : Nat) : Int)) ∧ f_ 12 = AV.ptr b12 0 ∧ f_ 13 = AV.int (((k : Nat) : Int)) ∧ Kept σ0 t_ ∧ σ0.next ≤ t_.next ∧ t_.get b3 = some [intsA (o.nodes), e3sA (o.edges)] ∧ b3 < t_.next ∧ t_.get b4 = some [AV.nils, AV.nils] ∧ b4 < t_.next ∧ t_.get b5 = some [AV.nils, AV.nils] ∧ b5 < t_.next ∧ t_.get b6 = some [AV.nils, AV.nils] ∧ b6 < t_.next ∧ t_.get b12 = some [v4, v6] ∧ b12 < t_.next ∧ ArrAt σ0.next t_ v4 3 (a.map AV.int) a.length 1 ∧ ArrAt σ0.next t_ v6 65 (a1.flatMap e3C) a1.length 3 ∧ (∀ i, idOf v6 = some i → ¬ i = b3) ∧ (∀ i, idOf v6 = some i → ¬ i = b4) ∧ (∀ i, idOf v6 = some i → ¬ i = b5) ∧ (∀ i, idOf v6 = some i → ¬ i = b6) ∧ (∀ i, idOf v6 = some i → ¬ i = b12) ∧ Apart v4 v6) (fun M hM => ?_) (fun fr17 τ8 hm => ?_)
    · have nb3_0 : ¬ b3 = τ7.next := by omega
      have nb3_1 : ¬ b3 = τ7.next + 1 := by omega
      have nb4_0 : ¬ b4 = τ7.next := by omega
      have nb4_1 : ¬ b4 = τ7.next + 1 := by omega
      have nb5_0 : ¬ b5 = τ7.next := by omega
      have nb5_1 : ¬ b5 = τ7.next + 1 := by omega
      have nb6_0 : ¬ b6 = τ7.next := by omega
      have nb6_1 : ¬ b6 = τ7.next + 1 := by omega
      have nb12_0 : ¬ b12 = τ7.next := by omega
      have nb12_1 : ¬ b12 = τ7.next + 1 := by omega
      have nb14_0 : ¬ b14 = τ7.next := by omega
      have nb14_1 : ¬ b14 = τ7.next + 1 := by omega
      have nb3_b12 : ¬ b3 = b12 := by omega
      have nb4_b12 : ¬ b4 = b12 := by omega
      have nb5_b12 : ¬ b5 = b12 := by omega
      have nb6_b12 : ¬ b6 = b12 := by omega
      have nb14_b12 : ¬ b14 = b12 := by omega
      have zv5 := av5
      rcases zv5 with ⟨rfl, nv5, mv5⟩ | ⟨ov5, rfl, gov5, tov5, lov5, hiv5⟩
      · simp [go_sem, f10, f11, f12, f13, f14, f3, f4, f5, f6, gb3, gb4, gb5, gb6, gb12, gb14, nb3_0, nb3_1, nb4_0, nb4_1, nb5_0, nb5_1, nb6_0, nb6_1, nb12_0, nb12_1, nb14_0, nb14_1, nb3_b12, nb4_b12, nb5_b12, nb6_b12, nb14_b12, nv5, mv5]
        refine (hM _ _).2 ⟨AV.arr (τ7.next + 1) 0 a1.length 3, ?_, ?_, ?_, ?_, ?_, ?_, ?_, ?_, by intro j hj; have hj_ := hK j hj; simp [go_sem, hj_.1, hj_.2, show ¬ j = τ7.next by omega, show ¬ j = τ7.next + 1 by omega, show ¬ j = b12 by omega], by first | omega | (simp [go_sem]; done) | (simp [go_sem]; omega), by simp (disch := omega) [get_alloc_ne, get_set_ne, get_kill_ne, go_sem, f10, f11, f12, f13, f14, f3, f4, f5, f6, gb3, gb4, gb5, gb6, gb12, gb14, nb3_0, nb3_1, nb4_0, nb4_1, nb5_0, nb5_1, nb6_0, nb6_1, nb12_0, nb12_1, nb14_0, nb14_1, nb3_b12, nb4_b12, nb5_b12, nb6_b12, nb14_b12, nv5, mv5, ea1], by first | omega | (simp [go_sem]; done) | (simp [go_sem]; omega), by simp (disch := omega) [get_alloc_ne, get_set_ne, get_kill_ne, go_sem, f10, f11, f12, f13, f14, f3, f4, f5, f6, gb3, gb4, gb5, gb6, gb12, gb14, nb3_0, nb3_1, nb4_0, nb4_1, nb5_0, nb5_1, nb6_0, nb6_1, nb12_0, nb12_1, nb14_0, nb14_1, nb3_b12, nb4_b12, nb5_b12, nb6_b12, nb14_b12, nv5, mv5, ea1], by first | omega | (simp [go_sem]; done) | (simp [go_sem]; omega), by simp (disch := omega) [get_alloc_ne, get_set_ne, get_kill_ne, go_sem, f10, f11, f12, f13, f14, f3, f4, f5, f6, gb3, gb4, gb5, gb6, gb12, gb14, nb3_0, nb3_1, nb4_0, nb4_1, nb5_0, nb5_1, nb6_0, nb6_1, nb12_0, nb12_1, nb14_0, nb14_1, nb3_b12, nb4_b12, nb5_b12, nb6_b12, nb14_b12, nv5, mv5, ea1], by first | omega | (simp [go_sem]; done) | (simp [go_sem]; omega), by simp (disch := omega) [get_alloc_ne, get_set_ne, get_kill_ne, go_sem, f10, f11, f12, f13, f14, f3, f4, f5, f6, gb3, gb4, gb5, gb6, gb12, gb14, nb3_0, nb3_1, nb4_0, nb4_1, nb5_0, nb5_1, nb6_0, nb6_1, nb12_0, nb12_1, nb14_0, nb14_1, nb3_b12, nb4_b12, nb5_b12, nb6_b12, nb14_b12, nv5, mv5, ea1], by first | omega | (simp [go_sem]; done) | (simp [go_sem]; omega), by simp (disch := omega) [get_alloc_ne, get_set_ne, get_kill_ne, go_sem, f10, f11, f12, f13, f14, f3, f4, f5, f6, gb3, gb4, gb5, gb6, gb12, gb14, nb3_0, nb3_1, nb4_0, nb4_1, nb5_0, nb5_1, nb6_0, nb6_1, nb12_0, nb12_1, nb14_0, nb14_1, nb3_b12, nb4_b12, nb5_b12, nb6_b12, nb14_b12, nv5, mv5, ea1], by first | omega | (simp [go_sem]; done) | (simp [go_sem]; omega), av4.same' (by simp [go_sem]; try omega) (fun i hi => by have zl := arrAt_lt av4 i hi; have zs0 := ev4b12 i hi; have zi0 : ¬ i = τ7.next := (by omega); have zi1 : ¬ i = τ7.next + 1 := (by omega); constructor <;> simp [go_sem, zs0, zi0, zi1]), .inr ⟨(τ7.next + 1), rfl, by simp (disch := omega) [get_alloc_ne, get_set_ne, get_kill_ne, go_sem, f10, f11, f12, f13, f14, f3, f4, f5, f6, gb3, gb4, gb5, gb6, gb12, gb14, nb3_0, nb3_1, nb4_0, nb4_1, nb5_0, nb5_1, nb6_0, nb6_1, nb12_0, nb12_1, nb14_0, nb14_1, nb3_b12, nb4_b12, nb5_b12, nb6_b12, nb14_b12, nv5, mv5, ea1, e3C], by simp [go_sem, f10, f11, f12, f13, f14, f3, f4, f5, f6, gb3, gb4, gb5, gb6, gb12, gb14, nb3_0, nb3_1, nb4_0, nb4_1, nb5_0, nb5_1, nb6_0, nb6_1, nb12_0, nb12_1, nb14_0, nb14_1, nb3_b12, nb4_b12, nb5_b12, nb6_b12, nb14_b12, nv5, mv5, ea1], by omega, by first | (simp [go_sem]; done) | (simp [go_sem]; omega)⟩, by intro i hi; first | (simp [idOf] at hi; done) | (simp [idOf] at hi; omega), by intro i hi; first | (simp [idOf] at hi; done) | (simp [idOf] at hi; omega), by intro i hi; first | (simp [idOf] at hi; done) | (simp [idOf] at hi; omega), by intro i hi; first | (simp [idOf] at hi; done) | (simp [idOf] at hi; omega), by intro i hi; first | (simp [idOf] at hi; done) | (simp [idOf] at hi; omega), by first | exact ev4v6 | exact apart_symm ev6v4 | (intro i h1 h2; simp [idOf] at h1; done) | (intro i h1 h2; simp [idOf] at h2; done) | (intro i h1 h2; have := arrAt_lt av4 i h1; simp [idOf] at h2; omega)⟩ <;> simp [go_sem, f10, f11, f12, f13, f14, f3, f4, f5, f6, gb3, gb4, gb5, gb6, gb12, gb14, nb3_0, nb3_1, nb4_0, nb4_1, nb5_0, nb5_1, nb6_0, nb6_1, nb12_0, nb12_1, nb14_0, nb14_1, nb3_b12, nb4_b12, nb5_b12, nb6_b12, nb14_b12, nv5, mv5, ea1]
      · have Lv5 : (x.flatMap e3C).length = x.length * 3 := length_flatMap (f := e3C) (sz := 3) (fun _ => rfl) _
        have nv5_0 : ¬ ov5 = τ7.next := by omega
        have nv5_1 : ¬ ov5 = τ7.next + 1 := by omega
        have nv5_b3 : ¬ ov5 = b3 := ev5b3 _ rfl
        have nb3_v5 : ¬ b3 = ov5 := fun e => ev5b3 _ rfl e.symm
        have nv5_b4 : ¬ ov5 = b4 := ev5b4 _ rfl
        have nb4_v5 : ¬ b4 = ov5 := fun e => ev5b4 _ rfl e.symm
        have nv5_b5 : ¬ ov5 = b5 := ev5b5 _ rfl
        have nb5_v5 : ¬ b5 = ov5 := fun e => ev5b5 _ rfl e.symm
        have nv5_b6 : ¬ ov5 = b6 := ev5b6 _ rfl
        have nb6_v5 : ¬ b6 = ov5 := fun e => ev5b6 _ rfl e.symm
        have nv5_b12 : ¬ ov5 = b12 := ev5b12 _ rfl
        have nb12_v5 : ¬ b12 = ov5 := fun e => ev5b12 _ rfl e.symm
        have nv5_b14 : ¬ ov5 = b14 := ev5b14 _ rfl
        have nb14_v5 : ¬ b14 = ov5 := fun e => ev5b14 _ rfl e.symm
        have ca1_0 : x.length ≤ 9223372036854775806 := by have c_ := la1; (try simp at c_); omega
        have ca1_1 : (x.length + 1) * 24 ≤ 140737488355328 := by have c_ := la1; (try simp at c_); omega
        simp [go_sem, f10, f11, f12, f13, f14, f3, f4, f5, f6, gb3, gb4, gb5, gb6, gb12, gb14, nb3_0, nb3_1, nb4_0, nb4_1, nb5_0, nb5_1, nb6_0, nb6_1, nb12_0, nb12_1, nb14_0, nb14_1, nb3_b12, nb4_b12, nb5_b12, nb6_b12, nb14_b12, gov5, tov5, Lv5, nv5_0, nv5_1, nv5_b3, nb3_v5, nv5_b4, nb4_v5, nv5_b5, nb5_v5, nv5_b6, nb6_v5, nv5_b12, nb12_v5, nv5_b14, nb14_v5, ca1_0, ca1_1]
        refine (hM _ _).2 ⟨AV.arr (τ7.next + 1) 0 a1.length 3, ?_, ?_, ?_, ?_, ?_, ?_, ?_, ?_, by intro j hj; have hj_ := hK j hj; simp [go_sem, hj_.1, hj_.2, show ¬ j = τ7.next by omega, show ¬ j = τ7.next + 1 by omega, show ¬ j = b12 by omega, show ¬ j = ov5 by omega], by first | omega | (simp [go_sem]; done) | (simp [go_sem]; omega), by simp (disch := omega) [get_alloc_ne, get_set_ne, get_kill_ne, go_sem, f10, f11, f12, f13, f14, f3, f4, f5, f6, gb3, gb4, gb5, gb6, gb12, gb14, nb3_0, nb3_1, nb4_0, nb4_1, nb5_0, nb5_1, nb6_0, nb6_1, nb12_0, nb12_1, nb14_0, nb14_1, nb3_b12, nb4_b12, nb5_b12, nb6_b12, nb14_b12, gov5, tov5, Lv5, nv5_0, nv5_1, nv5_b3, nb3_v5, nv5_b4, nb4_v5, nv5_b5, nb5_v5, nv5_b6, nb6_v5, nv5_b12, nb12_v5, nv5_b14, nb14_v5, ca1_0, ca1_1, ea1], by first | omega | (simp [go_sem]; done) | (simp [go_sem]; omega), by simp (disch := omega) [get_alloc_ne, get_set_ne, get_kill_ne, go_sem, f10, f11, f12, f13, f14, f3, f4, f5, f6, gb3, gb4, gb5, gb6, gb12, gb14, nb3_0, nb3_1, nb4_0, nb4_1, nb5_0, nb5_1, nb6_0, nb6_1, nb12_0, nb12_1, nb14_0, nb14_1, nb3_b12, nb4_b12, nb5_b12, nb6_b12, nb14_b12, gov5, tov5, Lv5, nv5_0, nv5_1, nv5_b3, nb3_v5, nv5_b4, nb4_v5, nv5_b5, nb5_v5, nv5_b6, nb6_v5, nv5_b12, nb12_v5, nv5_b14, nb14_v5, ca1_0, ca1_1, ea1], by first | omega | (simp [go_sem]; done) | (simp [go_sem]; omega), by simp (disch := omega) [get_alloc_ne, get_set_ne, get_kill_ne, go_sem, f10, f11, f12, f13, f14, f3, f4, f5, f6, gb3, gb4, gb5, gb6, gb12, gb14, nb3_0, nb3_1, nb4_0, nb4_1, nb5_0, nb5_1, nb6_0, nb6_1, nb12_0, nb12_1, nb14_0, nb14_1, nb3_b12, nb4_b12, nb5_b12, nb6_b12, nb14_b12, gov5, tov5, Lv5, nv5_0, nv5_1, nv5_b3, nb3_v5, nv5_b4, nb4_v5, nv5_b5, nb5_v5, nv5_b6, nb6_v5, nv5_b12, nb12_v5, nv5_b14, nb14_v5, ca1_0, ca1_1, ea1], by first | omega | (simp [go_sem]; done) | (simp [go_sem]; omega), by simp (disch := omega) [get_alloc_ne, get_set_ne, get_kill_ne, go_sem, f10, f11, f12, f13, f14, f3, f4, f5, f6, gb3, gb4, gb5, gb6, gb12, gb14, nb3_0, nb3_1, nb4_0, nb4_1, nb5_0, nb5_1, nb6_0, nb6_1, nb12_0, nb12_1, nb14_0, nb14_1, nb3_b12, nb4_b12, nb5_b12, nb6_b12, nb14_b12, gov5, tov5, Lv5, nv5_0, nv5_1, nv5_b3, nb3_v5, nv5_b4, nb4_v5, nv5_b5, nb5_v5, nv5_b6, nb6_v5, nv5_b12, nb12_v5, nv5_b14, nb14_v5, ca1_0, ca1_1, ea1], by first | omega | (simp [go_sem]; done) | (simp [go_sem]; omega), by simp (disch := omega) [get_alloc_ne, get_set_ne, get_kill_ne, go_sem, f10, f11, f12, f13, f14, f3, f4, f5, f6, gb3, gb4, gb5, gb6, gb12, gb14, nb3_0, nb3_1, nb4_0, nb4_1, nb5_0, nb5_1, nb6_0, nb6_1, nb12_0, nb12_1, nb14_0, nb14_1, nb3_b12, nb4_b12, nb5_b12, nb6_b12, nb14_b12, gov5, tov5, Lv5, nv5_0, nv5_1, nv5_b3, nb3_v5, nv5_b4, nb4_v5, nv5_b5, nb5_v5, nv5_b6, nb6_v5, nv5_b12, nb12_v5, nv5_b14, nb14_v5, ca1_0, ca1_1, ea1], by first | omega | (simp [go_sem]; done) | (simp [go_sem]; omega), av4.same' (by simp [go_sem]; try omega) (fun i hi => by have zl := arrAt_lt av4 i hi; have zs0 := ev4b12 i hi; have zi0 : ¬ i = τ7.next := (by omega); have zi1 : ¬ i = τ7.next + 1 := (by omega); have zk0 := apart_ne (by first | exact ev5v4 | exact apart_symm ev4v5) hi; constructor <;> simp [go_sem, zs0, zi0, zi1, zk0]), .inr ⟨(τ7.next + 1), rfl, by simp (disch := omega) [get_alloc_ne, get_set_ne, get_kill_ne, go_sem, f10, f11, f12, f13, f14, f3, f4, f5, f6, gb3, gb4, gb5, gb6, gb12, gb14, nb3_0, nb3_1, nb4_0, nb4_1, nb5_0, nb5_1, nb6_0, nb6_1, nb12_0, nb12_1, nb14_0, nb14_1, nb3_b12, nb4_b12, nb5_b12, nb6_b12, nb14_b12, gov5, tov5, Lv5, nv5_0, nv5_1, nv5_b3, nb3_v5, nv5_b4, nb4_v5, nv5_b5, nb5_v5, nv5_b6, nb6_v5, nv5_b12, nb12_v5, nv5_b14, nb14_v5, ca1_0, ca1_1, ea1, e3C], by simp [go_sem, f10, f11, f12, f13, f14, f3, f4, f5, f6, gb3, gb4, gb5, gb6, gb12, gb14, nb3_0, nb3_1, nb4_0, nb4_1, nb5_0, nb5_1, nb6_0, nb6_1, nb12_0, nb12_1, nb14_0, nb14_1, nb3_b12, nb4_b12, nb5_b12, nb6_b12, nb14_b12, gov5, tov5, Lv5, nv5_0, nv5_1, nv5_b3, nb3_v5, nv5_b4, nb4_v5, nv5_b5, nb5_v5, nv5_b6, nb6_v5, nv5_b12, nb12_v5, nv5_b14, nb14_v5, ca1_0, ca1_1, ea1], by omega, by first | (simp [go_sem]; done) | (simp [go_sem]; omega)⟩, by intro i hi; first | (simp [idOf] at hi; done) | (simp [idOf] at hi; omega), by intro i hi; first | (simp [idOf] at hi; done) | (simp [idOf] at hi; omega), by intro i hi; first | (simp [idOf] at hi; done) | (simp [idOf] at hi; omega), by intro i hi; first | (simp [idOf] at hi; done) | (simp [idOf] at hi; omega), by intro i hi; first | (simp [idOf] at hi; done) | (simp [idOf] at hi; omega), by first | exact ev4v6 | exact apart_symm ev6v4 | (intro i h1 h2; simp [idOf] at h1; done) | (intro i h1 h2; simp [idOf] at h2; done) | (intro i h1 h2; have := arrAt_lt av4 i h1; simp [idOf] at h2; omega)⟩ <;> simp [go_sem, f10, f11, f12, f13, f14, f3, f4, f5, f6, gb3, gb4, gb5, gb6, gb12, gb14, nb3_0, nb3_1, nb4_0, nb4_1, nb5_0, nb5_1, nb6_0, nb6_1, nb12_0, nb12_1, nb14_0, nb14_1, nb3_b12, nb4_b12, nb5_b12, nb6_b12, nb14_b12, gov5, tov5, Lv5, nv5_0, nv5_1, nv5_b3, nb3_v5, nv5_b4, nb4_v5, nv5_b5, nb5_v5, nv5_b6, nb6_v5, nv5_b12, nb12_v5, nv5_b14, nb14_v5, ca1_0, ca1_1, ea1]
    clear f10 f11 f12 f13 f14 f3 f4 f5 f6 hK hN gb3 ub3 gb4 ub4 gb5 ub5 gb6 ub6 gb12 ub12 gb14 ub14 av4 av5
    obtain ⟨v6, f3, f4, f5, f6, f10, f11, f12, f13, hK, hN, gb3, ub3, gb4, ub4, gb5, ub5, gb6, ub6, gb12, ub12, av4, av6, ev6b3, ev6b4, ev6b5, ev6b6, ev6b12, ev4v6⟩ := hm
    refine SW.blk ?_
    -- region 14
    refine SW.regX (fun f_ t_ => τ8 = t_ ∧ f_ 3 = AV.ptr b3 0 ∧ f_ 4 = AV.ptr b4 0 ∧ f_ 5 = AV.ptr b5 0 ∧ f_ 6 = AV.ptr b6 0 ∧ f_ 10 = AV.int (((t.nodes.length : Nat) : Int)) ∧ f_ 11 = AV.int (((t.edges.length : Nat) : Int)) ∧ f_ 12 = AV.ptr b12 0 ∧ f_ 13 = AV.int (((k + 1 : Nat) : Int))) (fun M hM => ?_) (fun fr18 τz8 hm => ?_)
    · simp [go_sem, f10, f11, f12, f13, f3, f4, f5, f6, gb3, gb4, gb5, gb6, gb12, hwk]
      refine (hM _ _).2 ⟨rfl, ?_, ?_, ?_, ?_, ?_, ?_, ?_, ?_⟩ <;> simp [go_sem, f10, f11, f12, f13, f3, f4, f5, f6, gb3, gb4, gb5, gb6, gb12, hwk]
    clear f10 f11 f12 f13 f3 f4 f5 f6
    obtain ⟨rfl, f3, f4, f5, f6, f10, f11, f12, f13⟩ := hm
    obtain rfl := Option.some.inj hbi
    exact SW.goal ⟨o.edges.length - (k + 1), by omega, (hJ _ _ _).2 ⟨k + 1, a1, v6, rfl, hci, f3, f4, f5, f6, f10, f11, f12, f13, hK, hN, gb3, ub3, gb4, ub4, gb5, ub5, gb6, ub6, gb12, ub12, av4, av6, ev6b3, ev6b4, ev6b5, ev6b6, ev6b12, (by first | exact ev4v6 | exact fun i h h' => ev6v4 i h' h)⟩⟩
  intro fr19 τ9 hm
  rw [hKL] at hm
  clear hKL hruni
  clear f10 f11 f12 f13 f3 f4 f5 f6 hK hN gb3 ub3 gb4 ub4 gb5 ub5 gb6 ub6 gb12 ub12 av4 av3
  obtain ⟨x, v5, rfl, f3, f4, f5, f6, f10, f11, f12, hK, hN, gb3, ub3, gb4, ub4, gb5, ub5, gb6, ub6, gb12, ub12, av4, av5, ev5b3, ev5b4, ev5b5, ev5b6, ev5b12, ev4v5⟩ := hm
  simp only [Out.on] at hoi
  refine SW.seq ?_
  -- region 17
  obtain ⟨rx1, hrx1, hoi⟩ := obind hoi
  obtain ⟨rx2, hrx2, hoi⟩ := obind hoi
  obtain ⟨rx3, hrx3, hoi⟩ := obind hoi
  obtain ⟨rx4, hrx4, hoi⟩ := obind hoi
  refine SW.regX (fun f_ t_ => f_ 4 = AV.ptr b4 0 ∧ f_ 5 = AV.ptr b5 0 ∧ f_ 6 = AV.ptr b6 0 ∧ f_ 7 = AV.int (0) ∧ Kept σ0 t_ ∧ σ0.next ≤ t_.next ∧ t_.get b4 = some [v4, v5] ∧ b4 < t_.next ∧ t_.get b5 = some [intsA (rx1), intsA (rx2)] ∧ b5 < t_.next ∧ t_.get b6 = some [intsA (rx3), intsA (rx4)] ∧ b6 < t_.next ∧ ArrAt σ0.next t_ v4 3 (a.map AV.int) a.length 1 ∧ ArrAt σ0.next t_ v5 65 (x.flatMap e3C) x.length 3) (fun M hM => ?_) (fun fr20 τ10 hm => ?_)
  · have nb3_b4 : ¬ b3 = b4 := by omega
    have nb3_b5 : ¬ b3 = b5 := by omega
    have nb3_b6 : ¬ b3 = b6 := by omega
    have nb3_b12 : ¬ b3 = b12 := by omega
    have nb4_b3 : ¬ b4 = b3 := by omega
    have nb4_b5 : ¬ b4 = b5 := by omega
    have nb4_b6 : ¬ b4 = b6 := by omega
    have nb4_b12 : ¬ b4 = b12 := by omega
    have nb5_b3 : ¬ b5 = b3 := by omega
    have nb5_b4 : ¬ b5 = b4 := by omega
    have nb5_b6 : ¬ b5 = b6 := by omega
    have nb5_b12 : ¬ b5 = b12 := by omega
    have nb6_b3 : ¬ b6 = b3 := by omega
    have nb6_b4 : ¬ b6 = b4 := by omega
    have nb6_b5 : ¬ b6 = b5 := by omega
    have nb6_b12 : ¬ b6 = b12 := by omega
    have nb12_b3 : ¬ b12 = b3 := by omega
    have nb12_b4 : ¬ b12 = b4 := by omega
    have nb12_b5 : ¬ b12 = b5 := by omega
    have nb12_b6 : ¬ b12 = b6 := by omega
    have zv4 := av4
    rcases zv4 with ⟨rfl, nv4, mv4⟩ | ⟨ov4, rfl, gov4, tov4, lov4, hiv4⟩
    · have zv5 := av5
      rcases zv5 with ⟨rfl, nv5, mv5⟩ | ⟨ov5, rfl, gov5, tov5, lov5, hiv5⟩
      · refine EW_regionY (((τ9.kill b4).kill b5).kill b6) 21 (.q false 0 (.q false 1 (.q false 3 (.q false 6 (.q false 7 (.q false 8 (.q false 9 (.q false 11 (.q false 12 (.q false 13 (.q false 14 (.q true 2 (.q true 4 (.q false 5 (.q true 10 (.q true 15 (.q false 16 (.s 17 (.s 18 (.s 19 (.q false 20 .done))))))))))))))))))))) (by kernel_rfl) (by kernel_rfl) (sub_kill b6 (sub_kill b5 (sub_kill b4 (fun _ _ h => h)))) (fun hfin => ?_)
        have hsub : Sub (((τ9.kill b4).kill b5).kill b6) τ9 := (sub_kill b6 (sub_kill b5 (sub_kill b4 (fun _ _ h => h))))
        simp (maxDischargeDepth := 12) [go_sem, f10, f11, f12, f3, f4, f5, f6, gb3, gb4, gb5, gb6, gb12, nb3_b4, nb3_b5, nb3_b6, nb3_b12, nb4_b3, nb4_b5, nb4_b6, nb4_b12, nb5_b3, nb5_b4, nb5_b6, nb5_b12, nb6_b3, nb6_b4, nb6_b5, nb6_b12, nb12_b3, nb12_b4, nb12_b5, nb12_b6, nv4, mv4, nv5, mv5, sub_set, sub_killAll, hsub]
        refine EWzp_pure (w_ref05_Numbers 0 ((t.nodes.length : Nat) : Int) _ hrx1) ?_
        simp (maxDischargeDepth := 12) [go_sem, f10, f11, f12, f3, f4, f5, f6, gb3, gb4, gb5, gb6, gb12, nb3_b4, nb3_b5, nb3_b6, nb3_b12, nb4_b3, nb4_b5, nb4_b6, nb4_b12, nb5_b3, nb5_b4, nb5_b6, nb5_b12, nb6_b3, nb6_b4, nb6_b5, nb6_b12, nb12_b3, nb12_b4, nb12_b5, nb12_b6, nv4, mv4, nv5, mv5, sub_set, sub_killAll, hsub]
        refine EWzp_pure (w_ref05_Numbers 0 ((t.edges.length : Nat) : Int) _ hrx2) ?_
        simp (maxDischargeDepth := 12) [go_sem, f10, f11, f12, f3, f4, f5, f6, gb3, gb4, gb5, gb6, gb12, nb3_b4, nb3_b5, nb3_b6, nb3_b12, nb4_b3, nb4_b5, nb4_b6, nb4_b12, nb5_b3, nb5_b4, nb5_b6, nb5_b12, nb6_b3, nb6_b4, nb6_b5, nb6_b12, nb12_b3, nb12_b4, nb12_b5, nb12_b6, nv4, mv4, nv5, mv5, sub_set, sub_killAll, hsub]
        refine EWzp_pure (w_ref05_Numbers ((t.nodes.length : Nat) : Int) ((o.nodes.length : Nat) : Int) _ hrx3) ?_
        simp (maxDischargeDepth := 12) [go_sem, f10, f11, f12, f3, f4, f5, f6, gb3, gb4, gb5, gb6, gb12, nb3_b4, nb3_b5, nb3_b6, nb3_b12, nb4_b3, nb4_b5, nb4_b6, nb4_b12, nb5_b3, nb5_b4, nb5_b6, nb5_b12, nb6_b3, nb6_b4, nb6_b5, nb6_b12, nb12_b3, nb12_b4, nb12_b5, nb12_b6, nv4, mv4, nv5, mv5, sub_set, sub_killAll, hsub]
        refine EWzp_pure (w_ref05_Numbers ((t.edges.length : Nat) : Int) ((o.edges.length : Nat) : Int) _ hrx4) ?_
        simp (maxDischargeDepth := 12) [go_sem, f10, f11, f12, f3, f4, f5, f6, gb3, gb4, gb5, gb6, gb12, nb3_b4, nb3_b5, nb3_b6, nb3_b12, nb4_b3, nb4_b5, nb4_b6, nb4_b12, nb5_b3, nb5_b4, nb5_b6, nb5_b12, nb6_b3, nb6_b4, nb6_b5, nb6_b12, nb12_b3, nb12_b4, nb12_b5, nb12_b6, nv4, mv4, nv5, mv5, sub_set, sub_killAll, hsub]
        refine (hM _ _).2 ⟨?_, ?_, ?_, ?_, by intro j hj; have hj_ := hK j hj; simp [go_sem, hj_.1, hj_.2, show ¬ j = b4 by omega, show ¬ j = b5 by omega, show ¬ j = b6 by omega], by first | omega | (simp [go_sem]; done) | (simp [go_sem]; omega), by simp (disch := omega) [get_alloc_ne, get_set_ne, get_kill_ne, go_sem, f10, f11, f12, f3, f4, f5, f6, gb3, gb4, gb5, gb6, gb12, nb3_b4, nb3_b5, nb3_b6, nb3_b12, nb4_b3, nb4_b5, nb4_b6, nb4_b12, nb5_b3, nb5_b4, nb5_b6, nb5_b12, nb6_b3, nb6_b4, nb6_b5, nb6_b12, nb12_b3, nb12_b4, nb12_b5, nb12_b6, nv4, mv4, nv5, mv5, sub_set, sub_killAll, hsub], by first | omega | (simp [go_sem]; done) | (simp [go_sem]; omega), by simp (disch := omega) [get_alloc_ne, get_set_ne, get_kill_ne, go_sem, f10, f11, f12, f3, f4, f5, f6, gb3, gb4, gb5, gb6, gb12, nb3_b4, nb3_b5, nb3_b6, nb3_b12, nb4_b3, nb4_b5, nb4_b6, nb4_b12, nb5_b3, nb5_b4, nb5_b6, nb5_b12, nb6_b3, nb6_b4, nb6_b5, nb6_b12, nb12_b3, nb12_b4, nb12_b5, nb12_b6, nv4, mv4, nv5, mv5, sub_set, sub_killAll, hsub], by first | omega | (simp [go_sem]; done) | (simp [go_sem]; omega), by simp (disch := omega) [get_alloc_ne, get_set_ne, get_kill_ne, go_sem, f10, f11, f12, f3, f4, f5, f6, gb3, gb4, gb5, gb6, gb12, nb3_b4, nb3_b5, nb3_b6, nb3_b12, nb4_b3, nb4_b5, nb4_b6, nb4_b12, nb5_b3, nb5_b4, nb5_b6, nb5_b12, nb6_b3, nb6_b4, nb6_b5, nb6_b12, nb12_b3, nb12_b4, nb12_b5, nb12_b6, nv4, mv4, nv5, mv5, sub_set, sub_killAll, hsub], by first | omega | (simp [go_sem]; done) | (simp [go_sem]; omega), av4.same' (by simp [go_sem]; try omega) (fun i hi => by have zl := arrAt_lt av4 i hi; have zs0 := ev4b4 i hi; have zs1 := ev4b5 i hi; have zs2 := ev4b6 i hi; constructor <;> simp [go_sem, zs0, zs1, zs2]), av5.same' (by simp [go_sem]; try omega) (fun i hi => by have zl := arrAt_lt av5 i hi; have zs0 := ev5b4 i hi; have zs1 := ev5b5 i hi; have zs2 := ev5b6 i hi; constructor <;> simp [go_sem, zs0, zs1, zs2])⟩ <;> simp [go_sem, f10, f11, f12, f3, f4, f5, f6, gb3, gb4, gb5, gb6, gb12, nb3_b4, nb3_b5, nb3_b6, nb3_b12, nb4_b3, nb4_b5, nb4_b6, nb4_b12, nb5_b3, nb5_b4, nb5_b6, nb5_b12, nb6_b3, nb6_b4, nb6_b5, nb6_b12, nb12_b3, nb12_b4, nb12_b5, nb12_b6, nv4, mv4, nv5, mv5, sub_set, sub_killAll, hsub]
      · have Lv5 : (x.flatMap e3C).length = x.length * 3 := length_flatMap (f := e3C) (sz := 3) (fun _ => rfl) _
        have nv5_b3 : ¬ ov5 = b3 := ev5b3 _ rfl
        have nb3_v5 : ¬ b3 = ov5 := fun e => ev5b3 _ rfl e.symm
        have nv5_b4 : ¬ ov5 = b4 := ev5b4 _ rfl
        have nb4_v5 : ¬ b4 = ov5 := fun e => ev5b4 _ rfl e.symm
        have nv5_b5 : ¬ ov5 = b5 := ev5b5 _ rfl
        have nb5_v5 : ¬ b5 = ov5 := fun e => ev5b5 _ rfl e.symm
        have nv5_b6 : ¬ ov5 = b6 := ev5b6 _ rfl
        have nb6_v5 : ¬ b6 = ov5 := fun e => ev5b6 _ rfl e.symm
        have nv5_b12 : ¬ ov5 = b12 := ev5b12 _ rfl
        have nb12_v5 : ¬ b12 = ov5 := fun e => ev5b12 _ rfl e.symm
        refine EW_regionY (((τ9.kill b4).kill b5).kill b6) 21 (.q false 0 (.q false 1 (.q false 3 (.q false 6 (.q false 7 (.q false 8 (.q false 9 (.q false 11 (.q false 12 (.q false 13 (.q false 14 (.q true 2 (.q true 4 (.q false 5 (.q true 10 (.q true 15 (.q false 16 (.s 17 (.s 18 (.s 19 (.q false 20 .done))))))))))))))))))))) (by kernel_rfl) (by kernel_rfl) (sub_kill b6 (sub_kill b5 (sub_kill b4 (fun _ _ h => h)))) (fun hfin => ?_)
        have hsub : Sub (((τ9.kill b4).kill b5).kill b6) τ9 := (sub_kill b6 (sub_kill b5 (sub_kill b4 (fun _ _ h => h))))
        simp (maxDischargeDepth := 12) [go_sem, f10, f11, f12, f3, f4, f5, f6, gb3, gb4, gb5, gb6, gb12, nb3_b4, nb3_b5, nb3_b6, nb3_b12, nb4_b3, nb4_b5, nb4_b6, nb4_b12, nb5_b3, nb5_b4, nb5_b6, nb5_b12, nb6_b3, nb6_b4, nb6_b5, nb6_b12, nb12_b3, nb12_b4, nb12_b5, nb12_b6, nv4, mv4, gov5, tov5, Lv5, nv5_b3, nb3_v5, nv5_b4, nb4_v5, nv5_b5, nb5_v5, nv5_b6, nb6_v5, nv5_b12, nb12_v5, sub_set, sub_killAll, hsub]
        refine EWzp_pure (w_ref05_Numbers 0 ((t.nodes.length : Nat) : Int) _ hrx1) ?_
        simp (maxDischargeDepth := 12) [go_sem, f10, f11, f12, f3, f4, f5, f6, gb3, gb4, gb5, gb6, gb12, nb3_b4, nb3_b5, nb3_b6, nb3_b12, nb4_b3, nb4_b5, nb4_b6, nb4_b12, nb5_b3, nb5_b4, nb5_b6, nb5_b12, nb6_b3, nb6_b4, nb6_b5, nb6_b12, nb12_b3, nb12_b4, nb12_b5, nb12_b6, nv4, mv4, gov5, tov5, Lv5, nv5_b3, nb3_v5, nv5_b4, nb4_v5, nv5_b5, nb5_v5, nv5_b6, nb6_v5, nv5_b12, nb12_v5, sub_set, sub_killAll, hsub]
        refine EWzp_pure (w_ref05_Numbers 0 ((t.edges.length : Nat) : Int) _ hrx2) ?_
        simp (maxDischargeDepth := 12) [go_sem, f10, f11, f12, f3, f4, f5, f6, gb3, gb4, gb5, gb6, gb12, nb3_b4, nb3_b5, nb3_b6, nb3_b12, nb4_b3, nb4_b5, nb4_b6, nb4_b12, nb5_b3, nb5_b4, nb5_b6, nb5_b12, nb6_b3, nb6_b4, nb6_b5, nb6_b12, nb12_b3, nb12_b4, nb12_b5, nb12_b6, nv4, mv4, gov5, tov5, Lv5, nv5_b3, nb3_v5, nv5_b4, nb4_v5, nv5_b5, nb5_v5, nv5_b6, nb6_v5, nv5_b12, nb12_v5, sub_set, sub_killAll, hsub]
        refine EWzp_pure (w_ref05_Numbers ((t.nodes.length : Nat) : Int) ((o.nodes.length : Nat) : Int) _ hrx3) ?_
        simp (maxDischargeDepth := 12) [go_sem, f10, f11, f12, f3, f4, f5, f6, gb3, gb4, gb5, gb6, gb12, nb3_b4, nb3_b5, nb3_b6, nb3_b12, nb4_b3, nb4_b5, nb4_b6, nb4_b12, nb5_b3, nb5_b4, nb5_b6, nb5_b12, nb6_b3, nb6_b4, nb6_b5, nb6_b12, nb12_b3, nb12_b4, nb12_b5, nb12_b6, nv4, mv4, gov5, tov5, Lv5, nv5_b3, nb3_v5, nv5_b4, nb4_v5, nv5_b5, nb5_v5, nv5_b6, nb6_v5, nv5_b12, nb12_v5, sub_set, sub_killAll, hsub]
        refine EWzp_pure (w_ref05_Numbers ((t.edges.length : Nat) : Int) ((o.edges.length : Nat) : Int) _ hrx4) ?_
        simp (maxDischargeDepth := 12) [go_sem, f10, f11, f12, f3, f4, f5, f6, gb3, gb4, gb5, gb6, gb12, nb3_b4, nb3_b5, nb3_b6, nb3_b12, nb4_b3, nb4_b5, nb4_b6, nb4_b12, nb5_b3, nb5_b4, nb5_b6, nb5_b12, nb6_b3, nb6_b4, nb6_b5, nb6_b12, nb12_b3, nb12_b4, nb12_b5, nb12_b6, nv4, mv4, gov5, tov5, Lv5, nv5_b3, nb3_v5, nv5_b4, nb4_v5, nv5_b5, nb5_v5, nv5_b6, nb6_v5, nv5_b12, nb12_v5, sub_set, sub_killAll, hsub]
        refine (hM _ _).2 ⟨?_, ?_, ?_, ?_, by intro j hj; have hj_ := hK j hj; simp [go_sem, hj_.1, hj_.2, show ¬ j = b4 by omega, show ¬ j = b5 by omega, show ¬ j = b6 by omega], by first | omega | (simp [go_sem]; done) | (simp [go_sem]; omega), by simp (disch := omega) [get_alloc_ne, get_set_ne, get_kill_ne, go_sem, f10, f11, f12, f3, f4, f5, f6, gb3, gb4, gb5, gb6, gb12, nb3_b4, nb3_b5, nb3_b6, nb3_b12, nb4_b3, nb4_b5, nb4_b6, nb4_b12, nb5_b3, nb5_b4, nb5_b6, nb5_b12, nb6_b3, nb6_b4, nb6_b5, nb6_b12, nb12_b3, nb12_b4, nb12_b5, nb12_b6, nv4, mv4, gov5, tov5, Lv5, nv5_b3, nb3_v5, nv5_b4, nb4_v5, nv5_b5, nb5_v5, nv5_b6, nb6_v5, nv5_b12, nb12_v5, sub_set, sub_killAll, hsub], by first | omega | (simp [go_sem]; done) | (simp [go_sem]; omega), by simp (disch := omega) [get_alloc_ne, get_set_ne, get_kill_ne, go_sem, f10, f11, f12, f3, f4, f5, f6, gb3, gb4, gb5, gb6, gb12, nb3_b4, nb3_b5, nb3_b6, nb3_b12, nb4_b3, nb4_b5, nb4_b6, nb4_b12, nb5_b3, nb5_b4, nb5_b6, nb5_b12, nb6_b3, nb6_b4, nb6_b5, nb6_b12, nb12_b3, nb12_b4, nb12_b5, nb12_b6, nv4, mv4, gov5, tov5, Lv5, nv5_b3, nb3_v5, nv5_b4, nb4_v5, nv5_b5, nb5_v5, nv5_b6, nb6_v5, nv5_b12, nb12_v5, sub_set, sub_killAll, hsub], by first | omega | (simp [go_sem]; done) | (simp [go_sem]; omega), by simp (disch := omega) [get_alloc_ne, get_set_ne, get_kill_ne, go_sem, f10, f11, f12, f3, f4, f5, f6, gb3, gb4, gb5, gb6, gb12, nb3_b4, nb3_b5, nb3_b6, nb3_b12, nb4_b3, nb4_b5, nb4_b6, nb4_b12, nb5_b3, nb5_b4, nb5_b6, nb5_b12, nb6_b3, nb6_b4, nb6_b5, nb6_b12, nb12_b3, nb12_b4, nb12_b5, nb12_b6, nv4, mv4, gov5, tov5, Lv5, nv5_b3, nb3_v5, nv5_b4, nb4_v5, nv5_b5, nb5_v5, nv5_b6, nb6_v5, nv5_b12, nb12_v5, sub_set, sub_killAll, hsub], by first | omega | (simp [go_sem]; done) | (simp [go_sem]; omega), av4.same' (by simp [go_sem]; try omega) (fun i hi => by have zl := arrAt_lt av4 i hi; have zs0 := ev4b4 i hi; have zs1 := ev4b5 i hi; have zs2 := ev4b6 i hi; constructor <;> simp [go_sem, zs0, zs1, zs2]), av5.same' (by simp [go_sem]; try omega) (fun i hi => by have zl := arrAt_lt av5 i hi; have zs0 := ev5b4 i hi; have zs1 := ev5b5 i hi; have zs2 := ev5b6 i hi; constructor <;> simp [go_sem, zs0, zs1, zs2])⟩ <;> simp [go_sem, f10, f11, f12, f3, f4, f5, f6, gb3, gb4, gb5, gb6, gb12, nb3_b4, nb3_b5, nb3_b6, nb3_b12, nb4_b3, nb4_b5, nb4_b6, nb4_b12, nb5_b3, nb5_b4, nb5_b6, nb5_b12, nb6_b3, nb6_b4, nb6_b5, nb6_b12, nb12_b3, nb12_b4, nb12_b5, nb12_b6, nv4, mv4, gov5, tov5, Lv5, nv5_b3, nb3_v5, nv5_b4, nb4_v5, nv5_b5, nb5_v5, nv5_b6, nb6_v5, nv5_b12, nb12_v5, sub_set, sub_killAll, hsub]
    · have nv4_b3 : ¬ ov4 = b3 := ev4b3 _ rfl
      have nb3_v4 : ¬ b3 = ov4 := fun e => ev4b3 _ rfl e.symm
      have nv4_b4 : ¬ ov4 = b4 := ev4b4 _ rfl
      have nb4_v4 : ¬ b4 = ov4 := fun e => ev4b4 _ rfl e.symm
      have nv4_b5 : ¬ ov4 = b5 := ev4b5 _ rfl
      have nb5_v4 : ¬ b5 = ov4 := fun e => ev4b5 _ rfl e.symm
      have nv4_b6 : ¬ ov4 = b6 := ev4b6 _ rfl
      have nb6_v4 : ¬ b6 = ov4 := fun e => ev4b6 _ rfl e.symm
      have nv4_b12 : ¬ ov4 = b12 := ev4b12 _ rfl
      have nb12_v4 : ¬ b12 = ov4 := fun e => ev4b12 _ rfl e.symm
      have zv5 := av5
      rcases zv5 with ⟨rfl, nv5, mv5⟩ | ⟨ov5, rfl, gov5, tov5, lov5, hiv5⟩
      · refine EW_regionY (((τ9.kill b4).kill b5).kill b6) 21 (.q false 0 (.q false 1 (.q false 3 (.q false 6 (.q false 7 (.q false 8 (.q false 9 (.q false 11 (.q false 12 (.q false 13 (.q false 14 (.q true 2 (.q true 4 (.q false 5 (.q true 10 (.q true 15 (.q false 16 (.s 17 (.s 18 (.s 19 (.q false 20 .done))))))))))))))))))))) (by kernel_rfl) (by kernel_rfl) (sub_kill b6 (sub_kill b5 (sub_kill b4 (fun _ _ h => h)))) (fun hfin => ?_)
        have hsub : Sub (((τ9.kill b4).kill b5).kill b6) τ9 := (sub_kill b6 (sub_kill b5 (sub_kill b4 (fun _ _ h => h))))
        simp (maxDischargeDepth := 12) [go_sem, f10, f11, f12, f3, f4, f5, f6, gb3, gb4, gb5, gb6, gb12, nb3_b4, nb3_b5, nb3_b6, nb3_b12, nb4_b3, nb4_b5, nb4_b6, nb4_b12, nb5_b3, nb5_b4, nb5_b6, nb5_b12, nb6_b3, nb6_b4, nb6_b5, nb6_b12, nb12_b3, nb12_b4, nb12_b5, nb12_b6, gov4, tov4, nv4_b3, nb3_v4, nv4_b4, nb4_v4, nv4_b5, nb5_v4, nv4_b6, nb6_v4, nv4_b12, nb12_v4, nv5, mv5, sub_set, sub_killAll, hsub]
        refine EWzp_pure (w_ref05_Numbers 0 ((t.nodes.length : Nat) : Int) _ hrx1) ?_
        simp (maxDischargeDepth := 12) [go_sem, f10, f11, f12, f3, f4, f5, f6, gb3, gb4, gb5, gb6, gb12, nb3_b4, nb3_b5, nb3_b6, nb3_b12, nb4_b3, nb4_b5, nb4_b6, nb4_b12, nb5_b3, nb5_b4, nb5_b6, nb5_b12, nb6_b3, nb6_b4, nb6_b5, nb6_b12, nb12_b3, nb12_b4, nb12_b5, nb12_b6, gov4, tov4, nv4_b3, nb3_v4, nv4_b4, nb4_v4, nv4_b5, nb5_v4, nv4_b6, nb6_v4, nv4_b12, nb12_v4, nv5, mv5, sub_set, sub_killAll, hsub]
        refine EWzp_pure (w_ref05_Numbers 0 ((t.edges.length : Nat) : Int) _ hrx2) ?_
        simp (maxDischargeDepth := 12) [go_sem, f10, f11, f12, f3, f4, f5, f6, gb3, gb4, gb5, gb6, gb12, nb3_b4, nb3_b5, nb3_b6, nb3_b12, nb4_b3, nb4_b5, nb4_b6, nb4_b12, nb5_b3, nb5_b4, nb5_b6, nb5_b12, nb6_b3, nb6_b4, nb6_b5, nb6_b12, nb12_b3, nb12_b4, nb12_b5, nb12_b6, gov4, tov4, nv4_b3, nb3_v4, nv4_b4, nb4_v4, nv4_b5, nb5_v4, nv4_b6, nb6_v4, nv4_b12, nb12_v4, nv5, mv5, sub_set, sub_killAll, hsub]
        refine EWzp_pure (w_ref05_Numbers ((t.nodes.length : Nat) : Int) ((o.nodes.length : Nat) : Int) _ hrx3) ?_
        simp (maxDischargeDepth := 12) [go_sem, f10, f11, f12, f3, f4, f5, f6, gb3, gb4, gb5, gb6, gb12, nb3_b4, nb3_b5, nb3_b6, nb3_b12, nb4_b3, nb4_b5, nb4_b6, nb4_b12, nb5_b3, nb5_b4, nb5_b6, nb5_b12, nb6_b3, nb6_b4, nb6_b5, nb6_b12, nb12_b3, nb12_b4, nb12_b5, nb12_b6, gov4, tov4, nv4_b3, nb3_v4, nv4_b4, nb4_v4, nv4_b5, nb5_v4, nv4_b6, nb6_v4, nv4_b12, nb12_v4, nv5, mv5, sub_set, sub_killAll, hsub]
        refine EWzp_pure (w_ref05_Numbers ((t.edges.length : Nat) : Int) ((o.edges.length : Nat) : Int) _ hrx4) ?_
        simp (maxDischargeDepth := 12) [go_sem, f10, f11, f12, f3, f4, f5, f6, gb3, gb4, gb5, gb6, gb12, nb3_b4, nb3_b5, nb3_b6, nb3_b12, nb4_b3, nb4_b5, nb4_b6, nb4_b12, nb5_b3, nb5_b4, nb5_b6, nb5_b12, nb6_b3, nb6_b4, nb6_b5, nb6_b12, nb12_b3, nb12_b4, nb12_b5, nb12_b6, gov4, tov4, nv4_b3, nb3_v4, nv4_b4, nb4_v4, nv4_b5, nb5_v4, nv4_b6, nb6_v4, nv4_b12, nb12_v4, nv5, mv5, sub_set, sub_killAll, hsub]
        refine (hM _ _).2 ⟨?_, ?_, ?_, ?_, by intro j hj; have hj_ := hK j hj; simp [go_sem, hj_.1, hj_.2, show ¬ j = b4 by omega, show ¬ j = b5 by omega, show ¬ j = b6 by omega], by first | omega | (simp [go_sem]; done) | (simp [go_sem]; omega), by simp (disch := omega) [get_alloc_ne, get_set_ne, get_kill_ne, go_sem, f10, f11, f12, f3, f4, f5, f6, gb3, gb4, gb5, gb6, gb12, nb3_b4, nb3_b5, nb3_b6, nb3_b12, nb4_b3, nb4_b5, nb4_b6, nb4_b12, nb5_b3, nb5_b4, nb5_b6, nb5_b12, nb6_b3, nb6_b4, nb6_b5, nb6_b12, nb12_b3, nb12_b4, nb12_b5, nb12_b6, gov4, tov4, nv4_b3, nb3_v4, nv4_b4, nb4_v4, nv4_b5, nb5_v4, nv4_b6, nb6_v4, nv4_b12, nb12_v4, nv5, mv5, sub_set, sub_killAll, hsub], by first | omega | (simp [go_sem]; done) | (simp [go_sem]; omega), by simp (disch := omega) [get_alloc_ne, get_set_ne, get_kill_ne, go_sem, f10, f11, f12, f3, f4, f5, f6, gb3, gb4, gb5, gb6, gb12, nb3_b4, nb3_b5, nb3_b6, nb3_b12, nb4_b3, nb4_b5, nb4_b6, nb4_b12, nb5_b3, nb5_b4, nb5_b6, nb5_b12, nb6_b3, nb6_b4, nb6_b5, nb6_b12, nb12_b3, nb12_b4, nb12_b5, nb12_b6, gov4, tov4, nv4_b3, nb3_v4, nv4_b4, nb4_v4, nv4_b5, nb5_v4, nv4_b6, nb6_v4, nv4_b12, nb12_v4, nv5, mv5, sub_set, sub_killAll, hsub], by first | omega | (simp [go_sem]; done) | (simp [go_sem]; omega), by simp (disch := omega) [get_alloc_ne, get_set_ne, get_kill_ne, go_sem, f10, f11, f12, f3, f4, f5, f6, gb3, gb4, gb5, gb6, gb12, nb3_b4, nb3_b5, nb3_b6, nb3_b12, nb4_b3, nb4_b5, nb4_b6, nb4_b12, nb5_b3, nb5_b4, nb5_b6, nb5_b12, nb6_b3, nb6_b4, nb6_b5, nb6_b12, nb12_b3, nb12_b4, nb12_b5, nb12_b6, gov4, tov4, nv4_b3, nb3_v4, nv4_b4, nb4_v4, nv4_b5, nb5_v4, nv4_b6, nb6_v4, nv4_b12, nb12_v4, nv5, mv5, sub_set, sub_killAll, hsub], by first | omega | (simp [go_sem]; done) | (simp [go_sem]; omega), av4.same' (by simp [go_sem]; try omega) (fun i hi => by have zl := arrAt_lt av4 i hi; have zs0 := ev4b4 i hi; have zs1 := ev4b5 i hi; have zs2 := ev4b6 i hi; constructor <;> simp [go_sem, zs0, zs1, zs2]), av5.same' (by simp [go_sem]; try omega) (fun i hi => by have zl := arrAt_lt av5 i hi; have zs0 := ev5b4 i hi; have zs1 := ev5b5 i hi; have zs2 := ev5b6 i hi; constructor <;> simp [go_sem, zs0, zs1, zs2])⟩ <;> simp [go_sem, f10, f11, f12, f3, f4, f5, f6, gb3, gb4, gb5, gb6, gb12, nb3_b4, nb3_b5, nb3_b6, nb3_b12, nb4_b3, nb4_b5, nb4_b6, nb4_b12, nb5_b3, nb5_b4, nb5_b6, nb5_b12, nb6_b3, nb6_b4, nb6_b5, nb6_b12, nb12_b3, nb12_b4, nb12_b5, nb12_b6, gov4, tov4, nv4_b3, nb3_v4, nv4_b4, nb4_v4, nv4_b5, nb5_v4, nv4_b6, nb6_v4, nv4_b12, nb12_v4, nv5, mv5, sub_set, sub_killAll, hsub]
      · have Lv5 : (x.flatMap e3C).length = x.length * 3 := length_flatMap (f := e3C) (sz := 3) (fun _ => rfl) _
        have nv5_v4 : ¬ ov5 = ov4 := by first | exact apart_ne ev4v5 rfl | exact apart_ne (apart_symm ev5v4) rfl
        have nv4_v5 := fun e => nv5_v4 (Eq.symm e)
        have nv5_b3 : ¬ ov5 = b3 := ev5b3 _ rfl
        have nb3_v5 : ¬ b3 = ov5 := fun e => ev5b3 _ rfl e.symm
        have nv5_b4 : ¬ ov5 = b4 := ev5b4 _ rfl
        have nb4_v5 : ¬ b4 = ov5 := fun e => ev5b4 _ rfl e.symm
        have nv5_b5 : ¬ ov5 = b5 := ev5b5 _ rfl
        have nb5_v5 : ¬ b5 = ov5 := fun e => ev5b5 _ rfl e.symm
        have nv5_b6 : ¬ ov5 = b6 := ev5b6 _ rfl
        have nb6_v5 : ¬ b6 = ov5 := fun e => ev5b6 _ rfl e.symm
        have nv5_b12 : ¬ ov5 = b12 := ev5b12 _ rfl
        have nb12_v5 : ¬ b12 = ov5 := fun e => ev5b12 _ rfl e.symm
        refine EW_regionY (((τ9.kill b4).kill b5).kill b6) 21 (.q false 0 (.q false 1 (.q false 3 (.q false 6 (.q false 7 (.q false 8 (.q false 9 (.q false 11 (.q false 12 (.q false 13 (.q false 14 (.q true 2 (.q true 4 (.q false 5 (.q true 10 (.q true 15 (.q false 16 (.s 17 (.s 18 (.s 19 (.q false 20 .done))))))))))))))))))))) (by kernel_rfl) (by kernel_rfl) (sub_kill b6 (sub_kill b5 (sub_kill b4 (fun _ _ h => h)))) (fun hfin => ?_)
        have hsub : Sub (((τ9.kill b4).kill b5).kill b6) τ9 := (sub_kill b6 (sub_kill b5 (sub_kill b4 (fun _ _ h => h))))
        simp (maxDischargeDepth := 12) [go_sem, f10, f11, f12, f3, f4, f5, f6, gb3, gb4, gb5, gb6, gb12, nb3_b4, nb3_b5, nb3_b6, nb3_b12, nb4_b3, nb4_b5, nb4_b6, nb4_b12, nb5_b3, nb5_b4, nb5_b6, nb5_b12, nb6_b3, nb6_b4, nb6_b5, nb6_b12, nb12_b3, nb12_b4, nb12_b5, nb12_b6, gov4, tov4, nv4_b3, nb3_v4, nv4_b4, nb4_v4, nv4_b5, nb5_v4, nv4_b6, nb6_v4, nv4_b12, nb12_v4, gov5, tov5, Lv5, nv5_v4, nv4_v5, nv5_b3, nb3_v5, nv5_b4, nb4_v5, nv5_b5, nb5_v5, nv5_b6, nb6_v5, nv5_b12, nb12_v5, sub_set, sub_killAll, hsub]
        refine EWzp_pure (w_ref05_Numbers 0 ((t.nodes.length : Nat) : Int) _ hrx1) ?_
        simp (maxDischargeDepth := 12) [go_sem, f10, f11, f12, f3, f4, f5, f6, gb3, gb4, gb5, gb6, gb12, nb3_b4, nb3_b5, nb3_b6, nb3_b12, nb4_b3, nb4_b5, nb4_b6, nb4_b12, nb5_b3, nb5_b4, nb5_b6, nb5_b12, nb6_b3, nb6_b4, nb6_b5, nb6_b12, nb12_b3, nb12_b4, nb12_b5, nb12_b6, gov4, tov4, nv4_b3, nb3_v4, nv4_b4, nb4_v4, nv4_b5, nb5_v4, nv4_b6, nb6_v4, nv4_b12, nb12_v4, gov5, tov5, Lv5, nv5_v4, nv4_v5, nv5_b3, nb3_v5, nv5_b4, nb4_v5, nv5_b5, nb5_v5, nv5_b6, nb6_v5, nv5_b12, nb12_v5, sub_set, sub_killAll, hsub]
        refine EWzp_pure (w_ref05_Numbers 0 ((t.edges.length : Nat) : Int) _ hrx2) ?_
        simp (maxDischargeDepth := 12) [go_sem, f10, f11, f12, f3, f4, f5, f6, gb3, gb4, gb5, gb6, gb12, nb3_b4, nb3_b5, nb3_b6, nb3_b12, nb4_b3, nb4_b5, nb4_b6, nb4_b12, nb5_b3, nb5_b4, nb5_b6, nb5_b12, nb6_b3, nb6_b4, nb6_b5, nb6_b12, nb12_b3, nb12_b4, nb12_b5, nb12_b6, gov4, tov4, nv4_b3, nb3_v4, nv4_b4, nb4_v4, nv4_b5, nb5_v4, nv4_b6, nb6_v4, nv4_b12, nb12_v4, gov5, tov5, Lv5, nv5_v4, nv4_v5, nv5_b3, nb3_v5, nv5_b4, nb4_v5, nv5_b5, nb5_v5, nv5_b6, nb6_v5, nv5_b12, nb12_v5, sub_set, sub_killAll, hsub]
        refine EWzp_pure (w_ref05_Numbers ((t.nodes.length : Nat) : Int) ((o.nodes.length : Nat) : Int) _ hrx3) ?_
        simp (maxDischargeDepth := 12) [go_sem, f10, f11, f12, f3, f4, f5, f6, gb3, gb4, gb5, gb6, gb12, nb3_b4, nb3_b5, nb3_b6, nb3_b12, nb4_b3, nb4_b5, nb4_b6, nb4_b12, nb5_b3, nb5_b4, nb5_b6, nb5_b12, nb6_b3, nb6_b4, nb6_b5, nb6_b12, nb12_b3, nb12_b4, nb12_b5, nb12_b6, gov4, tov4, nv4_b3, nb3_v4, nv4_b4, nb4_v4, nv4_b5, nb5_v4, nv4_b6, nb6_v4, nv4_b12, nb12_v4, gov5, tov5, Lv5, nv5_v4, nv4_v5, nv5_b3, nb3_v5, nv5_b4, nb4_v5, nv5_b5, nb5_v5, nv5_b6, nb6_v5, nv5_b12, nb12_v5, sub_set, sub_killAll, hsub]
        refine EWzp_pure (w_ref05_Numbers ((t.edges.length : Nat) : Int) ((o.edges.length : Nat) : Int) _ hrx4) ?_
        simp (maxDischargeDepth := 12) [go_sem, f10, f11, f12, f3, f4, f5, f6, gb3, gb4, gb5, gb6, gb12, nb3_b4, nb3_b5, nb3_b6, nb3_b12, nb4_b3, nb4_b5, nb4_b6, nb4_b12, nb5_b3, nb5_b4, nb5_b6, nb5_b12, nb6_b3, nb6_b4, nb6_b5, nb6_b12, nb12_b3, nb12_b4, nb12_b5, nb12_b6, gov4, tov4, nv4_b3, nb3_v4, nv4_b4, nb4_v4, nv4_b5, nb5_v4, nv4_b6, nb6_v4, nv4_b12, nb12_v4, gov5, tov5, Lv5, nv5_v4, nv4_v5, nv5_b3, nb3_v5, nv5_b4, nb4_v5, nv5_b5, nb5_v5, nv5_b6, nb6_v5, nv5_b12, nb12_v5, sub_set, sub_killAll, hsub]
        refine (hM _ _).2 ⟨?_, ?_, ?_, ?_, by intro j hj; have hj_ := hK j hj; simp [go_sem, hj_.1, hj_.2, show ¬ j = b4 by omega, show ¬ j = b5 by omega, show ¬ j = b6 by omega], by first | omega | (simp [go_sem]; done) | (simp [go_sem]; omega), by simp (disch := omega) [get_alloc_ne, get_set_ne, get_kill_ne, go_sem, f10, f11, f12, f3, f4, f5, f6, gb3, gb4, gb5, gb6, gb12, nb3_b4, nb3_b5, nb3_b6, nb3_b12, nb4_b3, nb4_b5, nb4_b6, nb4_b12, nb5_b3, nb5_b4, nb5_b6, nb5_b12, nb6_b3, nb6_b4, nb6_b5, nb6_b12, nb12_b3, nb12_b4, nb12_b5, nb12_b6, gov4, tov4, nv4_b3, nb3_v4, nv4_b4, nb4_v4, nv4_b5, nb5_v4, nv4_b6, nb6_v4, nv4_b12, nb12_v4, gov5, tov5, Lv5, nv5_v4, nv4_v5, nv5_b3, nb3_v5, nv5_b4, nb4_v5, nv5_b5, nb5_v5, nv5_b6, nb6_v5, nv5_b12, nb12_v5, sub_set, sub_killAll, hsub], by first | omega | (simp [go_sem]; done) | (simp [go_sem]; omega), by simp (disch := omega) [get_alloc_ne, get_set_ne, get_kill_ne, go_sem, f10, f11, f12, f3, f4, f5, f6, gb3, gb4, gb5, gb6, gb12, nb3_b4, nb3_b5, nb3_b6, nb3_b12, nb4_b3, nb4_b5, nb4_b6, nb4_b12, nb5_b3, nb5_b4, nb5_b6, nb5_b12, nb6_b3, nb6_b4, nb6_b5, nb6_b12, nb12_b3, nb12_b4, nb12_b5, nb12_b6, gov4, tov4, nv4_b3, nb3_v4, nv4_b4, nb4_v4, nv4_b5, nb5_v4, nv4_b6, nb6_v4, nv4_b12, nb12_v4, gov5, tov5, Lv5, nv5_v4, nv4_v5, nv5_b3, nb3_v5, nv5_b4, nb4_v5, nv5_b5, nb5_v5, nv5_b6, nb6_v5, nv5_b12, nb12_v5, sub_set, sub_killAll, hsub], by first | omega | (simp [go_sem]; done) | (simp [go_sem]; omega), by simp (disch := omega) [get_alloc_ne, get_set_ne, get_kill_ne, go_sem, f10, f11, f12, f3, f4, f5, f6, gb3, gb4, gb5, gb6, gb12, nb3_b4, nb3_b5, nb3_b6, nb3_b12, nb4_b3, nb4_b5, nb4_b6, nb4_b12, nb5_b3, nb5_b4, nb5_b6, nb5_b12, nb6_b3, nb6_b4, nb6_b5, nb6_b12, nb12_b3, nb12_b4, nb12_b5, nb12_b6, gov4, tov4, nv4_b3, nb3_v4, nv4_b4, nb4_v4, nv4_b5, nb5_v4, nv4_b6, nb6_v4, nv4_b12, nb12_v4, gov5, tov5, Lv5, nv5_v4, nv4_v5, nv5_b3, nb3_v5, nv5_b4, nb4_v5, nv5_b5, nb5_v5, nv5_b6, nb6_v5, nv5_b12, nb12_v5, sub_set, sub_killAll, hsub], by first | omega | (simp [go_sem]; done) | (simp [go_sem]; omega), av4.same' (by simp [go_sem]; try omega) (fun i hi => by have zl := arrAt_lt av4 i hi; have zs0 := ev4b4 i hi; have zs1 := ev4b5 i hi; have zs2 := ev4b6 i hi; constructor <;> simp [go_sem, zs0, zs1, zs2]), av5.same' (by simp [go_sem]; try omega) (fun i hi => by have zl := arrAt_lt av5 i hi; have zs0 := ev5b4 i hi; have zs1 := ev5b5 i hi; have zs2 := ev5b6 i hi; constructor <;> simp [go_sem, zs0, zs1, zs2])⟩ <;> simp [go_sem, f10, f11, f12, f3, f4, f5, f6, gb3, gb4, gb5, gb6, gb12, nb3_b4, nb3_b5, nb3_b6, nb3_b12, nb4_b3, nb4_b5, nb4_b6, nb4_b12, nb5_b3, nb5_b4, nb5_b6, nb5_b12, nb6_b3, nb6_b4, nb6_b5, nb6_b12, nb12_b3, nb12_b4, nb12_b5, nb12_b6, gov4, tov4, nv4_b3, nb3_v4, nv4_b4, nb4_v4, nv4_b5, nb5_v4, nv4_b6, nb6_v4, nv4_b12, nb12_v4, gov5, tov5, Lv5, nv5_v4, nv4_v5, nv5_b3, nb3_v5, nv5_b4, nb4_v5, nv5_b5, nb5_v5, nv5_b6, nb6_v5, nv5_b12, nb12_v5, sub_set, sub_killAll, hsub]
  clear f10 f11 f12 f3 f4 f5 f6 hK hN gb3 ub3 gb4 ub4 gb5 ub5 gb6 ub6 gb12 ub12 av4 av5
  obtain ⟨f4, f5, f6, f7, hK, hN, gb4, ub4, gb5, ub5, gb6, ub6, av4, av5⟩ := hm
  obtain rfl := Option.some.inj hoi
  exact SW.ret ⟨AV.tup [AV.agg [v4, v5], AV.agg [intsA (rx1), intsA (rx2)], AV.agg [intsA (rx3), intsA (rx4)], AV.int (0)], by simp [go_sem, f4, f5, f6, f7, gb4, gb5, gb6], frz_tupL (frzL_c (frz_aggL (frzL_c (av4.frz (DataL.map (fun _ => .lit _) a)) (frzL_c (av5.frz (DataL.flatMap gd_e3C x)) (frzL_n)))) (frzL_c (frz_aggL (frzL_c ((DataA.imm (DataL.map (fun _ => .lit _) rx1)) _ _) (frzL_c ((DataA.imm (DataL.map (fun _ => .lit _) rx2)) _ _) (frzL_n)))) (frzL_c (frz_aggL (frzL_c ((DataA.imm (DataL.map (fun _ => .lit _) rx3)) _ _) (frzL_c ((DataA.imm (DataL.map (fun _ => .lit _) rx4)) _ _) (frzL_n)))) (frzL_c (.lit _) (frzL_n))))), hK.keeps⟩
end Go.Proofs.Ytdacgjleiloooaa
