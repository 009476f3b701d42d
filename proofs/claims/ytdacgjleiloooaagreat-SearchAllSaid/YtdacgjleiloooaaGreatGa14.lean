/-
  Plain functions and the walks that lead to them, by a program of ours (gen.py): (*scarfjoint/scarfjointref17.search).edges.
-/
import Derived.Test.YtdacgjleiloooaaGreatGd
import Derived.Test.YtdacgjleiloooaaGreatGT
import Derived.Test.YtdacgjleiloooaaGreatB3
import Derived.Test.YtdacgjleiloooaaGreatGS
import Derived.Test.YtdacgjleiloooaaGreatGa13
set_option linter.unusedSimpArgs false
set_option linter.unusedVariables false
namespace Go.Proofs.YtdacgjleiloooaaGreat
open Go Go.Ew Go.Proofs Go.RowKit
set_option maxRecDepth 100000
set_option maxHeartbeats 4000000 in
theorem ic_ref17_search_edges : ∀ (F : Nat) (t : Gscarfjointref17_search) (o : List Int) (A : List Int) (r : ((List Morph))) (_ : s_ref17_search_edges F t o A = some r) (σ0 σ1 : Mem) (bs : List Nat) (hl : bs.length = 1) (hK : Kept σ0 σ1) (hN : σ0.next ≤ σ1.next) (hB : BoxesAt σ0.next σ0.next σ1 bs [sl_Gscarfjointref17_search t]), CallA Tryz.prog 92 (List.map (argA bs) [.inl 0, .inr (intsA (o)), .inr (intsA (A))]) σ1 (fun y τ => y = AV.tup [] ∧ BoxesAt σ0.next σ0.next τ bs [sl_Gscarfjointref17_search (⟨t.t, t.p, t.g, t.partialx, t.injective, t.most, r⟩ : Gscarfjointref17_search)] ∧ Kept σ0 τ ∧ σ0.next ≤ τ.next)
 | 0, _, _, _, _, h, _, _, _, _, _, _, _ => by cases h
 | F + 1, t, o, A, r, h, σ0, σ1, bs, hl, hK, hN, hB => by
  obtain ⟨b0, rfl⟩ := boxes1_len hl hB
  clear hl
  obtain ⟨wb0, ub0, xs_, gb0, hs_0⟩ := boxes1_of hB
  clear hB
  obtain ⟨_, rfl, hs_1⟩ := slots_dat hs_0
  clear hs_0
  obtain ⟨_, rfl, hs_2⟩ := slots_dat hs_1
  clear hs_1
  obtain ⟨_, rfl, hs_3⟩ := slots_dat hs_2
  clear hs_2
  obtain ⟨_, rfl, hs_4⟩ := slots_dat hs_3
  clear hs_3
  obtain ⟨_, rfl, hs_5⟩ := slots_dat hs_4
  clear hs_4
  obtain ⟨_, rfl, hs_6⟩ := slots_dat hs_5
  clear hs_5
  obtain ⟨_, rfl, hs_7⟩ := slots_dat hs_6
  clear hs_6
  obtain ⟨_, rfl, hs_8⟩ := slots_dat hs_7
  clear hs_7
  obtain ⟨_, rfl, hs_9⟩ := slots_dat hs_8
  clear hs_8
  obtain ⟨_, rfl, hs_10⟩ := slots_dat hs_9
  clear hs_9
  obtain ⟨v, _, rfl, av, iv, pv, hs_11⟩ := slots_own hs_10
  clear hs_10
  obtain rfl := slots_nil hs_11
  clear hs_11
  have evb0 : ∀ i, idOf v = some i → ¬ i = b0 := fun i hi h => iv i hi (List.mem_singleton.2 h)
  clear iv pv
  show CallA Tryz.prog 92 [AV.ptr b0 0, intsA (o), intsA (A)] σ1 _
  refine callA_of_SW (N := 135) Tryz.func92 (by kernel_rfl) rfl (by rw [Tryz.ntmps92]; rfl) ?_
  rw [Tryz.results92]
  obtain ⟨fr0, hfr⟩ : ∃ fr, fr = initFr [AV.ptr b0 0, intsA (o), intsA (A)] := ⟨_, rfl⟩
  rw [← hfr]
  have f0 : fr0 0 = AV.ptr b0 0 := by rw [hfr]; rfl
  have f1 : fr0 1 = intsA (o) := by rw [hfr]; rfl
  have f2 : fr0 2 = intsA (A) := by rw [hfr]; rfl
  clear hfr
  simp only [s_ref17_search_edges] at h
  refine SW.seq ?_
  refine SW.seq ?_
  refine SW.regX (fun f_ t_ => σ1 = t_ ∧ f_ 0 = AV.ptr b0 0 ∧ f_ 1 = intsA (o) ∧ f_ 2 = intsA (A) ∧ f_ 19 = AV.bool ((decide (t.most < ((t.found.length : Nat) : Int))))) (fun M hM => ?_) (fun fr1 τz hm => ?_)
  ·refine EW_regionD (by kernel_rfl) (by kernel_rfl) ?_
   have zv := av
   rcases zv with ⟨rfl, nv, mv⟩ | ⟨ov, rfl, gov, tov, lov, hiv⟩
   ·simp [go_sem, f0, f1, f2, gb0, nv, mv]
    refine (hM _ _).2 ⟨rfl, ?_, ?_, ?_, ?_⟩ <;> simp [go_sem, f0, f1, f2, gb0, nv, mv]
   ·have Lv : (t.found.flatMap morphC).length = t.found.length * 2 := length_flatMap (f := morphC) (sz := 2) (fun _ => rfl) _
    simp [go_sem, f0, f1, f2, gb0, gov, tov, Lv]
    refine (hM _ _).2 ⟨rfl, ?_, ?_, ?_, ?_⟩ <;> simp [go_sem, f0, f1, f2, gb0, gov, tov, Lv]
  clear f0 f1 f2
  obtain ⟨rfl, f0, f1, f2, f19⟩ := hm
  refine SW.cond _ f19 (fun hx => ?_) (fun hx => ?_)
  ·have h := condT h hx
   obtain rfl := Option.some.inj h
   exact SW.ret ⟨AV.tup [], by simp [go_sem, f0, f1, f19, f2, gb0], rfl, boxes1 wb0 ub0 gb0 rfl (sl_d (sl_d (sl_d (sl_d (sl_d (sl_d (sl_d (sl_d (sl_d (sl_d (sl_o av evb0 (ap_n) (sl_n)))))))))))), hK, hN⟩
  have h := condF h hx
  refine SW.skip ?_
  refine SW.seq ?_
  refine SW.regX (fun f_ t_ => σ1 = t_ ∧ f_ 0 = AV.ptr b0 0 ∧ f_ 1 = intsA (o) ∧ f_ 2 = intsA (A) ∧ f_ 6 = AV.int (((A.length : Nat) : Int))) (fun M hM => ?_) (fun fr2 τz1 hm => ?_)
  ·simp [go_sem, f0, f1, f19, f2, gb0]
   refine (hM _ _).2 ⟨rfl, ?_, ?_, ?_, ?_⟩ <;> simp [go_sem, f0, f1, f19, f2, gb0]
  clear f0 f1 f19 f2
  obtain ⟨rfl, f0, f1, f2, f6⟩ := hm
  refine SW.seq ?_
  refine SW.seq ?_
  refine SW.regX (fun f_ t_ => σ1 = t_ ∧ f_ 0 = AV.ptr b0 0 ∧ f_ 1 = intsA (o) ∧ f_ 2 = intsA (A) ∧ f_ 6 = AV.int (((A.length : Nat) : Int)) ∧ f_ 29 = AV.bool ((decide (A.length = t.p.edges.length)))) (fun M hM => ?_) (fun fr3 τz2 hm => ?_)
  ·simp [go_sem, f0, f1, f2, f6, gb0]
   refine (hM _ _).2 ⟨rfl, ?_, ?_, ?_, ?_, ?_⟩ <;> simp [go_sem, f0, f1, f2, f6, gb0]
  clear f0 f1 f2 f6
  obtain ⟨rfl, f0, f1, f2, f6, f29⟩ := hm
  refine SW.cond _ f29 (fun hx1 => ?_) (fun hx1 => ?_)
  ·have h := condT h hx1
   refine SW.seq ?_
   obtain ⟨a, ha, h⟩ := obind h
   obtain ⟨la, ea⟩ := catL_spec ha
   obtain ⟨a1, ha1, h⟩ := obind h
   obtain ⟨la1, ea1⟩ := catL_spec ha1
   obtain ⟨a2, ha2, h⟩ := obind h
   obtain ⟨la2, ea2⟩ := catL_spec ha2
   refine SW.regX (fun f_ t_ => ∃ v1 : AV, ∃ v2 : AV, ∃ v3 : AV, Kept σ0 t_ ∧ σ0.next ≤ t_.next ∧ t_.get b0 = some [nodesA (t.t.nodes), edgesA (t.t.edges), intsA (t.p.nodes), e3sA (t.p.edges), intsA (t.g.nodes), e3sA (t.g.edges), intsA (t.partialx.nodes), intsA (t.partialx.edges), AV.bool (t.injective), AV.int (t.most), v1] ∧ b0 < t_.next ∧ ArrAt σ0.next t_ v1 33 ((t.found.flatMap morphC) ++ [v2, v3]) a2.length 2 ∧ ArrAt σ0.next t_ v2 3 (a.map AV.int) a.length 1 ∧ ArrAt σ0.next t_ v3 3 (a1.map AV.int) a1.length 1 ∧ (∀ i, idOf v1 = some i → ¬ i = b0) ∧ (∀ i, idOf v2 = some i → ¬ i = b0) ∧ (∀ i, idOf v3 = some i → ¬ i = b0) ∧ Apart v1 v2 ∧ Apart v1 v3 ∧ Apart v2 v3) (fun M hM => ?_) (fun fr4 τ hm => ?_)
   ·have nb0_0 : ¬ b0 = σ1.next := by omega
    have nb0_1 : ¬ b0 = σ1.next + 1 := by omega
    have nb0_2 : ¬ b0 = σ1.next + 2 := by omega
    have nb0_3 : ¬ b0 = σ1.next + 3 := by omega
    have nb0_4 : ¬ b0 = σ1.next + 4 := by omega
    have nb0_5 : ¬ b0 = σ1.next + 5 := by omega
    have ca_0 : o.length ≤ 9223372036854775807 := by have c_ := la; (try simp at c_); omega
    have ca_1 : o.length * 8 ≤ 140737488355328 := by have c_ := la; (try simp at c_); omega
    have ca1_0 : A.length ≤ 9223372036854775807 := by have c_ := la1; (try simp at c_); omega
    have ca1_1 : A.length * 8 ≤ 140737488355328 := by have c_ := la1; (try simp at c_); omega
    have zv := av
    rcases zv with ⟨rfl, nv, mv⟩ | ⟨ov, rfl, gov, tov, lov, hiv⟩
    ·refine EW_regionY σ1 15 (.q false 0 (.q false 1 (.q false 2 (.q false 3 (.q false 4 (.q false 6 (.q false 9 (.both (.s 5 (.both (.s 7 (.s 8 (.s 10 (.q false 11 (.s 12 (.s 13 (.s 14 .done))))))) (.s 8 (.s 7 (.s 10 (.q false 11 (.s 12 (.s 13 (.s 14 .done))))))))) (.s 8 (.s 5 (.s 7 (.s 10 (.q false 11 (.s 12 (.s 13 (.s 14 .done)))))))))))))))) (by kernel_rfl) (by kernel_rfl) (fun _ _ h => h) (fun hfin => ?_)
     have m0_ : σ1.get (σ1.next) = none := hfin _ (by omega)
     have m1_ : σ1.get (σ1.next + 1) = none := hfin _ (by omega)
     have m2_ : σ1.get (σ1.next + 2) = none := hfin _ (by omega)
     have m3_ : σ1.get (σ1.next + 3) = none := hfin _ (by omega)
     have m4_ : σ1.get (σ1.next + 4) = none := hfin _ (by omega)
     have m5_ : σ1.get (σ1.next + 5) = none := hfin _ (by omega)
     have hsub : Sub σ1 σ1 := (fun _ _ h => h)
     simp (maxDischargeDepth := 12) [go_sem, f0, f1, f2, f29, f6, gb0, nb0_0, nb0_1, nb0_2, nb0_3, nb0_4, nb0_5, ca_0, ca_1, ca1_0, ca1_1, nv, mv, m0_, m1_, m2_, m3_, m4_, m5_, sub_set, sub_killAll, hsub]
     refine ⟨?_, ?_⟩
     ·refine ⟨?_, ?_⟩
      ·exact (hM _ _).2 ⟨AV.arr (σ1.next + 5) 0 a2.length 2, AV.arr (σ1.next + 1) 0 a.length 1, AV.arr (σ1.next + 3) 0 a1.length 1, by intro j hj; have hj_ := hK j hj; simp [go_sem, hj_.1, hj_.2, show ¬ j = σ1.next by omega, show ¬ j = σ1.next + 1 by omega, show ¬ j = σ1.next + 2 by omega, show ¬ j = σ1.next + 3 by omega, show ¬ j = σ1.next + 4 by omega, show ¬ j = σ1.next + 5 by omega, show ¬ j = b0 by omega], by first | omega | (simp [go_sem]; done) | (simp [go_sem]; omega), by simp (disch := omega) [get_alloc_ne, get_set_ne, get_kill_ne, go_sem, f0, f1, f2, f29, f6, gb0, nb0_0, nb0_1, nb0_2, nb0_3, nb0_4, nb0_5, ca_0, ca_1, ca1_0, ca1_1, nv, mv, m0_, m1_, m2_, m3_, m4_, m5_, sub_set, sub_killAll, hsub, ea, ea1, ea2], by first | omega | (simp [go_sem]; done) | (simp [go_sem]; omega), .inr ⟨(σ1.next + 5), rfl, by simp (disch := omega) [get_alloc_ne, get_set_ne, get_kill_ne, go_sem, f0, f1, f2, f29, f6, gb0, nb0_0, nb0_1, nb0_2, nb0_3, nb0_4, nb0_5, ca_0, ca_1, ca1_0, ca1_1, nv, mv, m0_, m1_, m2_, m3_, m4_, m5_, sub_set, sub_killAll, hsub, ea, ea1, ea2, morphC], by simp [go_sem, f0, f1, f2, f29, f6, gb0, nb0_0, nb0_1, nb0_2, nb0_3, nb0_4, nb0_5, ca_0, ca_1, ca1_0, ca1_1, nv, mv, m0_, m1_, m2_, m3_, m4_, m5_, sub_set, sub_killAll, hsub, ea, ea1, ea2], by omega, by first | (simp [go_sem]; done) | (simp [go_sem]; omega)⟩, .inr ⟨(σ1.next + 1), rfl, by simp (disch := omega) [get_alloc_ne, get_set_ne, get_kill_ne, go_sem, f0, f1, f2, f29, f6, gb0, nb0_0, nb0_1, nb0_2, nb0_3, nb0_4, nb0_5, ca_0, ca_1, ca1_0, ca1_1, nv, mv, m0_, m1_, m2_, m3_, m4_, m5_, sub_set, sub_killAll, hsub, ea, ea1, ea2], by simp [go_sem, f0, f1, f2, f29, f6, gb0, nb0_0, nb0_1, nb0_2, nb0_3, nb0_4, nb0_5, ca_0, ca_1, ca1_0, ca1_1, nv, mv, m0_, m1_, m2_, m3_, m4_, m5_, sub_set, sub_killAll, hsub, ea, ea1, ea2], by omega, by first | (simp [go_sem]; done) | (simp [go_sem]; omega)⟩, .inr ⟨(σ1.next + 3), rfl, by simp (disch := omega) [get_alloc_ne, get_set_ne, get_kill_ne, go_sem, f0, f1, f2, f29, f6, gb0, nb0_0, nb0_1, nb0_2, nb0_3, nb0_4, nb0_5, ca_0, ca_1, ca1_0, ca1_1, nv, mv, m0_, m1_, m2_, m3_, m4_, m5_, sub_set, sub_killAll, hsub, ea, ea1, ea2], by simp [go_sem, f0, f1, f2, f29, f6, gb0, nb0_0, nb0_1, nb0_2, nb0_3, nb0_4, nb0_5, ca_0, ca_1, ca1_0, ca1_1, nv, mv, m0_, m1_, m2_, m3_, m4_, m5_, sub_set, sub_killAll, hsub, ea, ea1, ea2], by omega, by first | (simp [go_sem]; done) | (simp [go_sem]; omega)⟩, by intro i hi; first | (simp [idOf] at hi; done) | (simp [idOf] at hi; omega), by intro i hi; first | (simp [idOf] at hi; done) | (simp [idOf] at hi; omega), by intro i hi; first | (simp [idOf] at hi; done) | (simp [idOf] at hi; omega), by first | exact ev1v2 | exact apart_symm ev2v1 | (intro i h1 h2; simp [idOf] at h1; done) | (intro i h1 h2; simp [idOf] at h2; done) | (intro i h1 h2; simp [idOf] at h1; simp [idOf] at h2; omega), by first | exact ev1v3 | exact apart_symm ev3v1 | (intro i h1 h2; simp [idOf] at h1; done) | (intro i h1 h2; simp [idOf] at h2; done) | (intro i h1 h2; simp [idOf] at h1; simp [idOf] at h2; omega), by first | exact ev2v3 | exact apart_symm ev3v2 | (intro i h1 h2; simp [idOf] at h1; done) | (intro i h1 h2; simp [idOf] at h2; done) | (intro i h1 h2; simp [idOf] at h1; simp [idOf] at h2; omega)⟩
      ·exact (hM _ _).2 ⟨AV.arr (σ1.next + 5) 0 a2.length 2, AV.arr (σ1.next + 2) 0 a.length 1, AV.arr (σ1.next + 3) 0 a1.length 1, by intro j hj; have hj_ := hK j hj; simp [go_sem, hj_.1, hj_.2, show ¬ j = σ1.next by omega, show ¬ j = σ1.next + 1 by omega, show ¬ j = σ1.next + 2 by omega, show ¬ j = σ1.next + 3 by omega, show ¬ j = σ1.next + 4 by omega, show ¬ j = σ1.next + 5 by omega, show ¬ j = b0 by omega], by first | omega | (simp [go_sem]; done) | (simp [go_sem]; omega), by simp (disch := omega) [get_alloc_ne, get_set_ne, get_kill_ne, go_sem, f0, f1, f2, f29, f6, gb0, nb0_0, nb0_1, nb0_2, nb0_3, nb0_4, nb0_5, ca_0, ca_1, ca1_0, ca1_1, nv, mv, m0_, m1_, m2_, m3_, m4_, m5_, sub_set, sub_killAll, hsub, ea, ea1, ea2], by first | omega | (simp [go_sem]; done) | (simp [go_sem]; omega), .inr ⟨(σ1.next + 5), rfl, by simp (disch := omega) [get_alloc_ne, get_set_ne, get_kill_ne, go_sem, f0, f1, f2, f29, f6, gb0, nb0_0, nb0_1, nb0_2, nb0_3, nb0_4, nb0_5, ca_0, ca_1, ca1_0, ca1_1, nv, mv, m0_, m1_, m2_, m3_, m4_, m5_, sub_set, sub_killAll, hsub, ea, ea1, ea2, morphC], by simp [go_sem, f0, f1, f2, f29, f6, gb0, nb0_0, nb0_1, nb0_2, nb0_3, nb0_4, nb0_5, ca_0, ca_1, ca1_0, ca1_1, nv, mv, m0_, m1_, m2_, m3_, m4_, m5_, sub_set, sub_killAll, hsub, ea, ea1, ea2], by omega, by first | (simp [go_sem]; done) | (simp [go_sem]; omega)⟩, .inr ⟨(σ1.next + 2), rfl, by simp (disch := omega) [get_alloc_ne, get_set_ne, get_kill_ne, go_sem, f0, f1, f2, f29, f6, gb0, nb0_0, nb0_1, nb0_2, nb0_3, nb0_4, nb0_5, ca_0, ca_1, ca1_0, ca1_1, nv, mv, m0_, m1_, m2_, m3_, m4_, m5_, sub_set, sub_killAll, hsub, ea, ea1, ea2], by simp [go_sem, f0, f1, f2, f29, f6, gb0, nb0_0, nb0_1, nb0_2, nb0_3, nb0_4, nb0_5, ca_0, ca_1, ca1_0, ca1_1, nv, mv, m0_, m1_, m2_, m3_, m4_, m5_, sub_set, sub_killAll, hsub, ea, ea1, ea2], by omega, by first | (simp [go_sem]; done) | (simp [go_sem]; omega)⟩, .inr ⟨(σ1.next + 3), rfl, by simp (disch := omega) [get_alloc_ne, get_set_ne, get_kill_ne, go_sem, f0, f1, f2, f29, f6, gb0, nb0_0, nb0_1, nb0_2, nb0_3, nb0_4, nb0_5, ca_0, ca_1, ca1_0, ca1_1, nv, mv, m0_, m1_, m2_, m3_, m4_, m5_, sub_set, sub_killAll, hsub, ea, ea1, ea2], by simp [go_sem, f0, f1, f2, f29, f6, gb0, nb0_0, nb0_1, nb0_2, nb0_3, nb0_4, nb0_5, ca_0, ca_1, ca1_0, ca1_1, nv, mv, m0_, m1_, m2_, m3_, m4_, m5_, sub_set, sub_killAll, hsub, ea, ea1, ea2], by omega, by first | (simp [go_sem]; done) | (simp [go_sem]; omega)⟩, by intro i hi; first | (simp [idOf] at hi; done) | (simp [idOf] at hi; omega), by intro i hi; first | (simp [idOf] at hi; done) | (simp [idOf] at hi; omega), by intro i hi; first | (simp [idOf] at hi; done) | (simp [idOf] at hi; omega), by first | exact ev1v2 | exact apart_symm ev2v1 | (intro i h1 h2; simp [idOf] at h1; done) | (intro i h1 h2; simp [idOf] at h2; done) | (intro i h1 h2; simp [idOf] at h1; simp [idOf] at h2; omega), by first | exact ev1v3 | exact apart_symm ev3v1 | (intro i h1 h2; simp [idOf] at h1; done) | (intro i h1 h2; simp [idOf] at h2; done) | (intro i h1 h2; simp [idOf] at h1; simp [idOf] at h2; omega), by first | exact ev2v3 | exact apart_symm ev3v2 | (intro i h1 h2; simp [idOf] at h1; done) | (intro i h1 h2; simp [idOf] at h2; done) | (intro i h1 h2; simp [idOf] at h1; simp [idOf] at h2; omega)⟩
     ·exact (hM _ _).2 ⟨AV.arr (σ1.next + 5) 0 a2.length 2, AV.arr (σ1.next + 2) 0 a.length 1, AV.arr (σ1.next + 3) 0 a1.length 1, by intro j hj; have hj_ := hK j hj; simp [go_sem, hj_.1, hj_.2, show ¬ j = σ1.next by omega, show ¬ j = σ1.next + 1 by omega, show ¬ j = σ1.next + 2 by omega, show ¬ j = σ1.next + 3 by omega, show ¬ j = σ1.next + 4 by omega, show ¬ j = σ1.next + 5 by omega, show ¬ j = b0 by omega], by first | omega | (simp [go_sem]; done) | (simp [go_sem]; omega), by simp (disch := omega) [get_alloc_ne, get_set_ne, get_kill_ne, go_sem, f0, f1, f2, f29, f6, gb0, nb0_0, nb0_1, nb0_2, nb0_3, nb0_4, nb0_5, ca_0, ca_1, ca1_0, ca1_1, nv, mv, m0_, m1_, m2_, m3_, m4_, m5_, sub_set, sub_killAll, hsub, ea, ea1, ea2], by first | omega | (simp [go_sem]; done) | (simp [go_sem]; omega), .inr ⟨(σ1.next + 5), rfl, by simp (disch := omega) [get_alloc_ne, get_set_ne, get_kill_ne, go_sem, f0, f1, f2, f29, f6, gb0, nb0_0, nb0_1, nb0_2, nb0_3, nb0_4, nb0_5, ca_0, ca_1, ca1_0, ca1_1, nv, mv, m0_, m1_, m2_, m3_, m4_, m5_, sub_set, sub_killAll, hsub, ea, ea1, ea2, morphC], by simp [go_sem, f0, f1, f2, f29, f6, gb0, nb0_0, nb0_1, nb0_2, nb0_3, nb0_4, nb0_5, ca_0, ca_1, ca1_0, ca1_1, nv, mv, m0_, m1_, m2_, m3_, m4_, m5_, sub_set, sub_killAll, hsub, ea, ea1, ea2], by omega, by first | (simp [go_sem]; done) | (simp [go_sem]; omega)⟩, .inr ⟨(σ1.next + 2), rfl, by simp (disch := omega) [get_alloc_ne, get_set_ne, get_kill_ne, go_sem, f0, f1, f2, f29, f6, gb0, nb0_0, nb0_1, nb0_2, nb0_3, nb0_4, nb0_5, ca_0, ca_1, ca1_0, ca1_1, nv, mv, m0_, m1_, m2_, m3_, m4_, m5_, sub_set, sub_killAll, hsub, ea, ea1, ea2], by simp [go_sem, f0, f1, f2, f29, f6, gb0, nb0_0, nb0_1, nb0_2, nb0_3, nb0_4, nb0_5, ca_0, ca_1, ca1_0, ca1_1, nv, mv, m0_, m1_, m2_, m3_, m4_, m5_, sub_set, sub_killAll, hsub, ea, ea1, ea2], by omega, by first | (simp [go_sem]; done) | (simp [go_sem]; omega)⟩, .inr ⟨(σ1.next + 3), rfl, by simp (disch := omega) [get_alloc_ne, get_set_ne, get_kill_ne, go_sem, f0, f1, f2, f29, f6, gb0, nb0_0, nb0_1, nb0_2, nb0_3, nb0_4, nb0_5, ca_0, ca_1, ca1_0, ca1_1, nv, mv, m0_, m1_, m2_, m3_, m4_, m5_, sub_set, sub_killAll, hsub, ea, ea1, ea2], by simp [go_sem, f0, f1, f2, f29, f6, gb0, nb0_0, nb0_1, nb0_2, nb0_3, nb0_4, nb0_5, ca_0, ca_1, ca1_0, ca1_1, nv, mv, m0_, m1_, m2_, m3_, m4_, m5_, sub_set, sub_killAll, hsub, ea, ea1, ea2], by omega, by first | (simp [go_sem]; done) | (simp [go_sem]; omega)⟩, by intro i hi; first | (simp [idOf] at hi; done) | (simp [idOf] at hi; omega), by intro i hi; first | (simp [idOf] at hi; done) | (simp [idOf] at hi; omega), by intro i hi; first | (simp [idOf] at hi; done) | (simp [idOf] at hi; omega), by first | exact ev1v2 | exact apart_symm ev2v1 | (intro i h1 h2; simp [idOf] at h1; done) | (intro i h1 h2; simp [idOf] at h2; done) | (intro i h1 h2; simp [idOf] at h1; simp [idOf] at h2; omega), by first | exact ev1v3 | exact apart_symm ev3v1 | (intro i h1 h2; simp [idOf] at h1; done) | (intro i h1 h2; simp [idOf] at h2; done) | (intro i h1 h2; simp [idOf] at h1; simp [idOf] at h2; omega), by first | exact ev2v3 | exact apart_symm ev3v2 | (intro i h1 h2; simp [idOf] at h1; done) | (intro i h1 h2; simp [idOf] at h2; done) | (intro i h1 h2; simp [idOf] at h1; simp [idOf] at h2; omega)⟩
    ·have Lv : (t.found.flatMap morphC).length = t.found.length * 2 := length_flatMap (f := morphC) (sz := 2) (fun _ => rfl) _
     have nv_0 : ¬ ov = σ1.next := by omega
     have nv_1 : ¬ ov = σ1.next + 1 := by omega
     have nv_2 : ¬ ov = σ1.next + 2 := by omega
     have nv_3 : ¬ ov = σ1.next + 3 := by omega
     have nv_4 : ¬ ov = σ1.next + 4 := by omega
     have nv_5 : ¬ ov = σ1.next + 5 := by omega
     have nv_b0 : ¬ ov = b0 := evb0 _ rfl
     have nb0_v : ¬ b0 = ov := fun e => evb0 _ rfl e.symm
     have ca2_0 : t.found.length ≤ 9223372036854775806 := by have c_ := la2; (try simp at c_); omega
     have ca2_1 : (t.found.length + 1) * 48 ≤ 140737488355328 := by have c_ := la2; (try simp at c_); omega
     refine EW_regionY (σ1.kill ov) 15 (.q false 0 (.q false 1 (.q false 2 (.q false 3 (.q false 4 (.q false 6 (.q false 9 (.both (.s 5 (.both (.s 7 (.s 8 (.s 10 (.q false 11 (.s 12 (.s 13 (.s 14 .done))))))) (.s 8 (.s 7 (.s 10 (.q false 11 (.s 12 (.s 13 (.s 14 .done))))))))) (.s 8 (.s 5 (.s 7 (.s 10 (.q false 11 (.s 12 (.s 13 (.s 14 .done)))))))))))))))) (by kernel_rfl) (by kernel_rfl) (sub_kill ov (fun _ _ h => h)) (fun hfin => ?_)
     have m0_ : σ1.get (σ1.next) = none := hfin _ (by omega)
     have m1_ : σ1.get (σ1.next + 1) = none := hfin _ (by omega)
     have m2_ : σ1.get (σ1.next + 2) = none := hfin _ (by omega)
     have m3_ : σ1.get (σ1.next + 3) = none := hfin _ (by omega)
     have m4_ : σ1.get (σ1.next + 4) = none := hfin _ (by omega)
     have m5_ : σ1.get (σ1.next + 5) = none := hfin _ (by omega)
     have hsub : Sub (σ1.kill ov) σ1 := (sub_kill ov (fun _ _ h => h))
     simp (maxDischargeDepth := 12) [go_sem, f0, f1, f2, f29, f6, gb0, nb0_0, nb0_1, nb0_2, nb0_3, nb0_4, nb0_5, ca_0, ca_1, ca1_0, ca1_1, gov, tov, Lv, nv_0, nv_1, nv_2, nv_3, nv_4, nv_5, nv_b0, nb0_v, ca2_0, ca2_1, m0_, m1_, m2_, m3_, m4_, m5_, sub_set, sub_killAll, hsub]
     refine ⟨?_, ?_⟩
     ·refine ⟨?_, ?_⟩
      ·exact (hM _ _).2 ⟨AV.arr (σ1.next + 5) 0 a2.length 2, AV.arr (σ1.next + 1) 0 a.length 1, AV.arr (σ1.next + 3) 0 a1.length 1, by intro j hj; have hj_ := hK j hj; simp [go_sem, hj_.1, hj_.2, show ¬ j = σ1.next by omega, show ¬ j = σ1.next + 1 by omega, show ¬ j = σ1.next + 2 by omega, show ¬ j = σ1.next + 3 by omega, show ¬ j = σ1.next + 4 by omega, show ¬ j = σ1.next + 5 by omega, show ¬ j = b0 by omega, show ¬ j = ov by omega], by first | omega | (simp [go_sem]; done) | (simp [go_sem]; omega), by simp (disch := omega) [get_alloc_ne, get_set_ne, get_kill_ne, go_sem, f0, f1, f2, f29, f6, gb0, nb0_0, nb0_1, nb0_2, nb0_3, nb0_4, nb0_5, ca_0, ca_1, ca1_0, ca1_1, gov, tov, Lv, nv_0, nv_1, nv_2, nv_3, nv_4, nv_5, nv_b0, nb0_v, ca2_0, ca2_1, m0_, m1_, m2_, m3_, m4_, m5_, sub_set, sub_killAll, hsub, ea, ea1, ea2], by first | omega | (simp [go_sem]; done) | (simp [go_sem]; omega), .inr ⟨(σ1.next + 5), rfl, by simp (disch := omega) [get_alloc_ne, get_set_ne, get_kill_ne, go_sem, f0, f1, f2, f29, f6, gb0, nb0_0, nb0_1, nb0_2, nb0_3, nb0_4, nb0_5, ca_0, ca_1, ca1_0, ca1_1, gov, tov, Lv, nv_0, nv_1, nv_2, nv_3, nv_4, nv_5, nv_b0, nb0_v, ca2_0, ca2_1, m0_, m1_, m2_, m3_, m4_, m5_, sub_set, sub_killAll, hsub, ea, ea1, ea2, morphC], by simp [go_sem, f0, f1, f2, f29, f6, gb0, nb0_0, nb0_1, nb0_2, nb0_3, nb0_4, nb0_5, ca_0, ca_1, ca1_0, ca1_1, gov, tov, Lv, nv_0, nv_1, nv_2, nv_3, nv_4, nv_5, nv_b0, nb0_v, ca2_0, ca2_1, m0_, m1_, m2_, m3_, m4_, m5_, sub_set, sub_killAll, hsub, ea, ea1, ea2], by omega, by first | (simp [go_sem]; done) | (simp [go_sem]; omega)⟩, .inr ⟨(σ1.next + 1), rfl, by simp (disch := omega) [get_alloc_ne, get_set_ne, get_kill_ne, go_sem, f0, f1, f2, f29, f6, gb0, nb0_0, nb0_1, nb0_2, nb0_3, nb0_4, nb0_5, ca_0, ca_1, ca1_0, ca1_1, gov, tov, Lv, nv_0, nv_1, nv_2, nv_3, nv_4, nv_5, nv_b0, nb0_v, ca2_0, ca2_1, m0_, m1_, m2_, m3_, m4_, m5_, sub_set, sub_killAll, hsub, ea, ea1, ea2], by simp [go_sem, f0, f1, f2, f29, f6, gb0, nb0_0, nb0_1, nb0_2, nb0_3, nb0_4, nb0_5, ca_0, ca_1, ca1_0, ca1_1, gov, tov, Lv, nv_0, nv_1, nv_2, nv_3, nv_4, nv_5, nv_b0, nb0_v, ca2_0, ca2_1, m0_, m1_, m2_, m3_, m4_, m5_, sub_set, sub_killAll, hsub, ea, ea1, ea2], by omega, by first | (simp [go_sem]; done) | (simp [go_sem]; omega)⟩, .inr ⟨(σ1.next + 3), rfl, by simp (disch := omega) [get_alloc_ne, get_set_ne, get_kill_ne, go_sem, f0, f1, f2, f29, f6, gb0, nb0_0, nb0_1, nb0_2, nb0_3, nb0_4, nb0_5, ca_0, ca_1, ca1_0, ca1_1, gov, tov, Lv, nv_0, nv_1, nv_2, nv_3, nv_4, nv_5, nv_b0, nb0_v, ca2_0, ca2_1, m0_, m1_, m2_, m3_, m4_, m5_, sub_set, sub_killAll, hsub, ea, ea1, ea2], by simp [go_sem, f0, f1, f2, f29, f6, gb0, nb0_0, nb0_1, nb0_2, nb0_3, nb0_4, nb0_5, ca_0, ca_1, ca1_0, ca1_1, gov, tov, Lv, nv_0, nv_1, nv_2, nv_3, nv_4, nv_5, nv_b0, nb0_v, ca2_0, ca2_1, m0_, m1_, m2_, m3_, m4_, m5_, sub_set, sub_killAll, hsub, ea, ea1, ea2], by omega, by first | (simp [go_sem]; done) | (simp [go_sem]; omega)⟩, by intro i hi; first | (simp [idOf] at hi; done) | (simp [idOf] at hi; omega), by intro i hi; first | (simp [idOf] at hi; done) | (simp [idOf] at hi; omega), by intro i hi; first | (simp [idOf] at hi; done) | (simp [idOf] at hi; omega), by first | exact ev1v2 | exact apart_symm ev2v1 | (intro i h1 h2; simp [idOf] at h1; done) | (intro i h1 h2; simp [idOf] at h2; done) | (intro i h1 h2; simp [idOf] at h1; simp [idOf] at h2; omega), by first | exact ev1v3 | exact apart_symm ev3v1 | (intro i h1 h2; simp [idOf] at h1; done) | (intro i h1 h2; simp [idOf] at h2; done) | (intro i h1 h2; simp [idOf] at h1; simp [idOf] at h2; omega), by first | exact ev2v3 | exact apart_symm ev3v2 | (intro i h1 h2; simp [idOf] at h1; done) | (intro i h1 h2; simp [idOf] at h2; done) | (intro i h1 h2; simp [idOf] at h1; simp [idOf] at h2; omega)⟩
      ·exact (hM _ _).2 ⟨AV.arr (σ1.next + 5) 0 a2.length 2, AV.arr (σ1.next + 2) 0 a.length 1, AV.arr (σ1.next + 3) 0 a1.length 1, by intro j hj; have hj_ := hK j hj; simp [go_sem, hj_.1, hj_.2, show ¬ j = σ1.next by omega, show ¬ j = σ1.next + 1 by omega, show ¬ j = σ1.next + 2 by omega, show ¬ j = σ1.next + 3 by omega, show ¬ j = σ1.next + 4 by omega, show ¬ j = σ1.next + 5 by omega, show ¬ j = b0 by omega, show ¬ j = ov by omega], by first | omega | (simp [go_sem]; done) | (simp [go_sem]; omega), by simp (disch := omega) [get_alloc_ne, get_set_ne, get_kill_ne, go_sem, f0, f1, f2, f29, f6, gb0, nb0_0, nb0_1, nb0_2, nb0_3, nb0_4, nb0_5, ca_0, ca_1, ca1_0, ca1_1, gov, tov, Lv, nv_0, nv_1, nv_2, nv_3, nv_4, nv_5, nv_b0, nb0_v, ca2_0, ca2_1, m0_, m1_, m2_, m3_, m4_, m5_, sub_set, sub_killAll, hsub, ea, ea1, ea2], by first | omega | (simp [go_sem]; done) | (simp [go_sem]; omega), .inr ⟨(σ1.next + 5), rfl, by simp (disch := omega) [get_alloc_ne, get_set_ne, get_kill_ne, go_sem, f0, f1, f2, f29, f6, gb0, nb0_0, nb0_1, nb0_2, nb0_3, nb0_4, nb0_5, ca_0, ca_1, ca1_0, ca1_1, gov, tov, Lv, nv_0, nv_1, nv_2, nv_3, nv_4, nv_5, nv_b0, nb0_v, ca2_0, ca2_1, m0_, m1_, m2_, m3_, m4_, m5_, sub_set, sub_killAll, hsub, ea, ea1, ea2, morphC], by simp [go_sem, f0, f1, f2, f29, f6, gb0, nb0_0, nb0_1, nb0_2, nb0_3, nb0_4, nb0_5, ca_0, ca_1, ca1_0, ca1_1, gov, tov, Lv, nv_0, nv_1, nv_2, nv_3, nv_4, nv_5, nv_b0, nb0_v, ca2_0, ca2_1, m0_, m1_, m2_, m3_, m4_, m5_, sub_set, sub_killAll, hsub, ea, ea1, ea2], by omega, by first | (simp [go_sem]; done) | (simp [go_sem]; omega)⟩, .inr ⟨(σ1.next + 2), rfl, by simp (disch := omega) [get_alloc_ne, get_set_ne, get_kill_ne, go_sem, f0, f1, f2, f29, f6, gb0, nb0_0, nb0_1, nb0_2, nb0_3, nb0_4, nb0_5, ca_0, ca_1, ca1_0, ca1_1, gov, tov, Lv, nv_0, nv_1, nv_2, nv_3, nv_4, nv_5, nv_b0, nb0_v, ca2_0, ca2_1, m0_, m1_, m2_, m3_, m4_, m5_, sub_set, sub_killAll, hsub, ea, ea1, ea2], by simp [go_sem, f0, f1, f2, f29, f6, gb0, nb0_0, nb0_1, nb0_2, nb0_3, nb0_4, nb0_5, ca_0, ca_1, ca1_0, ca1_1, gov, tov, Lv, nv_0, nv_1, nv_2, nv_3, nv_4, nv_5, nv_b0, nb0_v, ca2_0, ca2_1, m0_, m1_, m2_, m3_, m4_, m5_, sub_set, sub_killAll, hsub, ea, ea1, ea2], by omega, by first | (simp [go_sem]; done) | (simp [go_sem]; omega)⟩, .inr ⟨(σ1.next + 3), rfl, by simp (disch := omega) [get_alloc_ne, get_set_ne, get_kill_ne, go_sem, f0, f1, f2, f29, f6, gb0, nb0_0, nb0_1, nb0_2, nb0_3, nb0_4, nb0_5, ca_0, ca_1, ca1_0, ca1_1, gov, tov, Lv, nv_0, nv_1, nv_2, nv_3, nv_4, nv_5, nv_b0, nb0_v, ca2_0, ca2_1, m0_, m1_, m2_, m3_, m4_, m5_, sub_set, sub_killAll, hsub, ea, ea1, ea2], by simp [go_sem, f0, f1, f2, f29, f6, gb0, nb0_0, nb0_1, nb0_2, nb0_3, nb0_4, nb0_5, ca_0, ca_1, ca1_0, ca1_1, gov, tov, Lv, nv_0, nv_1, nv_2, nv_3, nv_4, nv_5, nv_b0, nb0_v, ca2_0, ca2_1, m0_, m1_, m2_, m3_, m4_, m5_, sub_set, sub_killAll, hsub, ea, ea1, ea2], by omega, by first | (simp [go_sem]; done) | (simp [go_sem]; omega)⟩, by intro i hi; first | (simp [idOf] at hi; done) | (simp [idOf] at hi; omega), by intro i hi; first | (simp [idOf] at hi; done) | (simp [idOf] at hi; omega), by intro i hi; first | (simp [idOf] at hi; done) | (simp [idOf] at hi; omega), by first | exact ev1v2 | exact apart_symm ev2v1 | (intro i h1 h2; simp [idOf] at h1; done) | (intro i h1 h2; simp [idOf] at h2; done) | (intro i h1 h2; simp [idOf] at h1; simp [idOf] at h2; omega), by first | exact ev1v3 | exact apart_symm ev3v1 | (intro i h1 h2; simp [idOf] at h1; done) | (intro i h1 h2; simp [idOf] at h2; done) | (intro i h1 h2; simp [idOf] at h1; simp [idOf] at h2; omega), by first | exact ev2v3 | exact apart_symm ev3v2 | (intro i h1 h2; simp [idOf] at h1; done) | (intro i h1 h2; simp [idOf] at h2; done) | (intro i h1 h2; simp [idOf] at h1; simp [idOf] at h2; omega)⟩
     ·exact (hM _ _).2 ⟨AV.arr (σ1.next + 5) 0 a2.length 2, AV.arr (σ1.next + 2) 0 a.length 1, AV.arr (σ1.next + 3) 0 a1.length 1, by intro j hj; have hj_ := hK j hj; simp [go_sem, hj_.1, hj_.2, show ¬ j = σ1.next by omega, show ¬ j = σ1.next + 1 by omega, show ¬ j = σ1.next + 2 by omega, show ¬ j = σ1.next + 3 by omega, show ¬ j = σ1.next + 4 by omega, show ¬ j = σ1.next + 5 by omega, show ¬ j = b0 by omega, show ¬ j = ov by omega], by first | omega | (simp [go_sem]; done) | (simp [go_sem]; omega), by simp (disch := omega) [get_alloc_ne, get_set_ne, get_kill_ne, go_sem, f0, f1, f2, f29, f6, gb0, nb0_0, nb0_1, nb0_2, nb0_3, nb0_4, nb0_5, ca_0, ca_1, ca1_0, ca1_1, gov, tov, Lv, nv_0, nv_1, nv_2, nv_3, nv_4, nv_5, nv_b0, nb0_v, ca2_0, ca2_1, m0_, m1_, m2_, m3_, m4_, m5_, sub_set, sub_killAll, hsub, ea, ea1, ea2], by first | omega | (simp [go_sem]; done) | (simp [go_sem]; omega), .inr ⟨(σ1.next + 5), rfl, by simp (disch := omega) [get_alloc_ne, get_set_ne, get_kill_ne, go_sem, f0, f1, f2, f29, f6, gb0, nb0_0, nb0_1, nb0_2, nb0_3, nb0_4, nb0_5, ca_0, ca_1, ca1_0, ca1_1, gov, tov, Lv, nv_0, nv_1, nv_2, nv_3, nv_4, nv_5, nv_b0, nb0_v, ca2_0, ca2_1, m0_, m1_, m2_, m3_, m4_, m5_, sub_set, sub_killAll, hsub, ea, ea1, ea2, morphC], by simp [go_sem, f0, f1, f2, f29, f6, gb0, nb0_0, nb0_1, nb0_2, nb0_3, nb0_4, nb0_5, ca_0, ca_1, ca1_0, ca1_1, gov, tov, Lv, nv_0, nv_1, nv_2, nv_3, nv_4, nv_5, nv_b0, nb0_v, ca2_0, ca2_1, m0_, m1_, m2_, m3_, m4_, m5_, sub_set, sub_killAll, hsub, ea, ea1, ea2], by omega, by first | (simp [go_sem]; done) | (simp [go_sem]; omega)⟩, .inr ⟨(σ1.next + 2), rfl, by simp (disch := omega) [get_alloc_ne, get_set_ne, get_kill_ne, go_sem, f0, f1, f2, f29, f6, gb0, nb0_0, nb0_1, nb0_2, nb0_3, nb0_4, nb0_5, ca_0, ca_1, ca1_0, ca1_1, gov, tov, Lv, nv_0, nv_1, nv_2, nv_3, nv_4, nv_5, nv_b0, nb0_v, ca2_0, ca2_1, m0_, m1_, m2_, m3_, m4_, m5_, sub_set, sub_killAll, hsub, ea, ea1, ea2], by simp [go_sem, f0, f1, f2, f29, f6, gb0, nb0_0, nb0_1, nb0_2, nb0_3, nb0_4, nb0_5, ca_0, ca_1, ca1_0, ca1_1, gov, tov, Lv, nv_0, nv_1, nv_2, nv_3, nv_4, nv_5, nv_b0, nb0_v, ca2_0, ca2_1, m0_, m1_, m2_, m3_, m4_, m5_, sub_set, sub_killAll, hsub, ea, ea1, ea2], by omega, by first | (simp [go_sem]; done) | (simp [go_sem]; omega)⟩, .inr ⟨(σ1.next + 3), rfl, by simp (disch := omega) [get_alloc_ne, get_set_ne, get_kill_ne, go_sem, f0, f1, f2, f29, f6, gb0, nb0_0, nb0_1, nb0_2, nb0_3, nb0_4, nb0_5, ca_0, ca_1, ca1_0, ca1_1, gov, tov, Lv, nv_0, nv_1, nv_2, nv_3, nv_4, nv_5, nv_b0, nb0_v, ca2_0, ca2_1, m0_, m1_, m2_, m3_, m4_, m5_, sub_set, sub_killAll, hsub, ea, ea1, ea2], by simp [go_sem, f0, f1, f2, f29, f6, gb0, nb0_0, nb0_1, nb0_2, nb0_3, nb0_4, nb0_5, ca_0, ca_1, ca1_0, ca1_1, gov, tov, Lv, nv_0, nv_1, nv_2, nv_3, nv_4, nv_5, nv_b0, nb0_v, ca2_0, ca2_1, m0_, m1_, m2_, m3_, m4_, m5_, sub_set, sub_killAll, hsub, ea, ea1, ea2], by omega, by first | (simp [go_sem]; done) | (simp [go_sem]; omega)⟩, by intro i hi; first | (simp [idOf] at hi; done) | (simp [idOf] at hi; omega), by intro i hi; first | (simp [idOf] at hi; done) | (simp [idOf] at hi; omega), by intro i hi; first | (simp [idOf] at hi; done) | (simp [idOf] at hi; omega), by first | exact ev1v2 | exact apart_symm ev2v1 | (intro i h1 h2; simp [idOf] at h1; done) | (intro i h1 h2; simp [idOf] at h2; done) | (intro i h1 h2; simp [idOf] at h1; simp [idOf] at h2; omega), by first | exact ev1v3 | exact apart_symm ev3v1 | (intro i h1 h2; simp [idOf] at h1; done) | (intro i h1 h2; simp [idOf] at h2; done) | (intro i h1 h2; simp [idOf] at h1; simp [idOf] at h2; omega), by first | exact ev2v3 | exact apart_symm ev3v2 | (intro i h1 h2; simp [idOf] at h1; done) | (intro i h1 h2; simp [idOf] at h2; done) | (intro i h1 h2; simp [idOf] at h1; simp [idOf] at h2; omega)⟩
   clear f0 f1 f2 f29 f6 hK hN gb0 ub0 av
   obtain ⟨v1, v2, v3, hK, hN, gb0, ub0, av1, av2, av3, ev1b0, ev2b0, ev3b0, ev1v2, ev1v3, ev2v3⟩ := hm
   refine SW.frzTail (ys := [intsA (a), intsA (a1)]) [v2, v3] av1 (alc_c (by first | exact ev1v2 | exact apart_symm ev2v1) (alc_c (by first | exact ev1v3 | exact apart_symm ev3v1) (alc_n))) (by simp) (frzSL_c (frzS_at av2 (fun i hi => ⟨_, by simp, hi⟩)) (frzSL_c (frzS_at av3 (fun i hi => ⟨_, by simp, hi⟩)) (frzSL_n))) ?_
   obtain ⟨τ1, hτ⟩ : ∃ x, x = tailM τ v1 [v2, v3] ((t.found.flatMap morphC) ++ [intsA (a), intsA (a1)]) := ⟨_, rfl⟩
   rw [← hτ]
   have hz : ((t.found.flatMap morphC) ++ [intsA (a), intsA (a1)]) = a2.flatMap morphC := by (first | rw [ea2] | skip); simp [List.flatMap_append, List.flatMap_cons, List.map_append, morphC, boolsA, boolssA, intsA, e3sA, strsA, attrsA, nodesA, edgesA, morphsA]
   have hK : Kept σ0 τ1 := fun i hi => by subst hτ; exact ⟨(tailM_get (fun h_ => by have := arrAt_lt av1 i h_; omega) (alc_c (fun h_ => by have := arrAt_lt av2 i h_; omega) (alc_c (fun h_ => by have := arrAt_lt av3 i h_; omega) (alc_n)))).trans (hK i hi).1, (hK i hi).2⟩
   have hN : σ0.next ≤ τ1.next := by rw [hτ]; exact hN
   have gb0 : τ1.get b0 = some [nodesA (t.t.nodes), edgesA (t.t.edges), intsA (t.p.nodes), e3sA (t.p.edges), intsA (t.g.nodes), e3sA (t.g.edges), intsA (t.partialx.nodes), intsA (t.partialx.edges), AV.bool (t.injective), AV.int (t.most), v1] := by rw [hτ, tailM_get (fun h_ => ev1b0 _ h_ rfl) (alc_c (fun h_ => ev2b0 _ h_ rfl) (alc_c (fun h_ => ev3b0 _ h_ rfl) (alc_n)))]; exact gb0
   have ub0 : b0 < τ1.next := by rw [hτ]; exact ub0
   have av1 : ArrAt σ0.next τ1 v1 33 (a2.flatMap morphC) a2.length 2 := by rw [hτ]; exact arrAt_tail [v2, v3] av1 (by simp) hz
   clear hτ hz
   obtain rfl := Option.some.inj h
   exact SW.ret ⟨AV.tup [], by simp [go_sem, gb0], rfl, boxes1 wb0 ub0 gb0 rfl (sl_d (sl_d (sl_d (sl_d (sl_d (sl_d (sl_d (sl_d (sl_d (sl_d (sl_o av1 ev1b0 (ap_n) (sl_n)))))))))))), hK, hN⟩
  have h := condF h hx1
  refine SW.skip ?_
  refine SW.seq ?_
  obtain ⟨x, hx, h⟩ := obind h
  have xlx := getN_lt hx
  have xdx := getN_flat e3C 3 (fun _ => rfl) hx
  refine SW.regX (fun f_ t_ => ∃ b7 : Nat, f_ 0 = AV.ptr b0 0 ∧ f_ 1 = intsA (o) ∧ f_ 2 = intsA (A) ∧ f_ 6 = AV.int (((A.length : Nat) : Int)) ∧ f_ 7 = AV.ptr b7 0 ∧ Kept σ0 t_ ∧ σ0.next ≤ t_.next ∧ t_.get b0 = some [nodesA (t.t.nodes), edgesA (t.t.edges), intsA (t.p.nodes), e3sA (t.p.edges), intsA (t.g.nodes), e3sA (t.g.edges), intsA (t.partialx.nodes), intsA (t.partialx.edges), AV.bool (t.injective), AV.int (t.most), v] ∧ b0 < t_.next ∧ t_.get b7 = some [AV.int (x.kind), AV.int (x.src), AV.int (x.tgt)] ∧ b7 < t_.next ∧ ArrAt σ0.next t_ v 33 (t.found.flatMap morphC) t.found.length 2 ∧ σ0.next ≤ b7 ∧ ¬ b0 = b7 ∧ (∀ i, idOf v = some i → ¬ i = b7)) (fun M hM => ?_) (fun fr5 τ2 hm => ?_)
  ·have nb0_0 : ¬ b0 = σ1.next := by omega
   simp [go_sem, f0, f1, f2, f29, f6, gb0, xlx, xdx, e3C, nb0_0]
   refine (hM _ _).2 ⟨σ1.next, ?_, ?_, ?_, ?_, ?_, by intro j hj; have hj_ := hK j hj; simp [go_sem, hj_.1, hj_.2, show ¬ j = σ1.next by omega], by first | omega | (simp [go_sem]; done) | (simp [go_sem]; omega), by simp (disch := omega) [get_alloc_ne, get_set_ne, get_kill_ne, go_sem, f0, f1, f2, f29, f6, gb0, xlx, xdx, e3C, nb0_0], by first | omega | (simp [go_sem]; done) | (simp [go_sem]; omega), by simp (disch := omega) [get_alloc_ne, get_set_ne, get_kill_ne, go_sem, f0, f1, f2, f29, f6, gb0, xlx, xdx, e3C, nb0_0], by first | omega | (simp [go_sem]; done) | (simp [go_sem]; omega), av.same' (by simp [go_sem]; try omega) (fun i hi => by have zl := arrAt_lt av i hi; have zi0 : ¬ i = σ1.next := (by omega); constructor <;> simp [go_sem, zi0]), by omega, by omega, by first | exact evb7 | (intro i hi; have := arrAt_lt av i hi; omega)⟩ <;> simp [go_sem, f0, f1, f2, f29, f6, gb0, xlx, xdx, e3C, nb0_0]
  clear f0 f1 f2 f29 f6 hK hN gb0 ub0 av
  obtain ⟨b7, f0, f1, f2, f6, f7, hK, hN, gb0, ub0, gb7, ub7, av, wb7, eb0b7, evb7⟩ := hm
  refine SW.seq ?_
  refine SW.regX (fun f_ t_ => τ2 = t_ ∧ f_ 0 = AV.ptr b0 0 ∧ f_ 1 = intsA (o) ∧ f_ 2 = intsA (A) ∧ f_ 6 = AV.int (((A.length : Nat) : Int)) ∧ f_ 7 = AV.ptr b7 0 ∧ f_ 8 = AV.int (0)) (fun M hM => ?_) (fun fr6 τz3 hm => ?_)
  ·simp [go_sem, f0, f1, f2, f6, f7, gb0, gb7]
   refine (hM _ _).2 ⟨rfl, ?_, ?_, ?_, ?_, ?_, ?_⟩ <;> simp [go_sem, f0, f1, f2, f6, f7, gb0, gb7]
  clear f0 f1 f2 f6 f7
  obtain ⟨rfl, f0, f1, f2, f6, f7, f8⟩ := hm
  obtain ⟨oi, hruni, hoi⟩ := obind h
  refine SW.lenB b0 5 gb0 rfl (fun hbigi => ?_)
  obtain ⟨KL, hKL⟩ : ∃ KL : Fr → Mem → Prop, ∀ fr' τ', KL fr' τ' ↔ (∃ x1 : List Morph, ∃ v4 : AV, oi = .done x1 ∧ Kept σ0 τ' ∧ σ0.next ≤ τ'.next ∧ τ'.get b0 = some [nodesA (t.t.nodes), edgesA (t.t.edges), intsA (t.p.nodes), e3sA (t.p.edges), intsA (t.g.nodes), e3sA (t.g.edges), intsA (t.partialx.nodes), intsA (t.partialx.edges), AV.bool (t.injective), AV.int (t.most), v4] ∧ b0 < τ'.next ∧ ArrAt σ0.next τ' v4 33 (x1.flatMap morphC) x1.length 2 ∧ (∀ i, idOf v4 = some i → ¬ i = b0)) := ⟨_, fun _ _ => Iff.rfl⟩
  refine SW.cut KL ?_ ?_
  ·refine SW.block ?_
   obtain ⟨J, hJ⟩ : ∃ J : Nat → Fr → Mem → Prop, ∀ m_ fr' τ', J m_ fr' τ' ↔ (∃ k : Nat, ∃ x1 : List Morph, ∃ v4 : AV, m_ = t.g.edges.length - k ∧ forN (b1_ref17_search_edges F t o A x (s_ref17_search_edges F)) (t.g.edges.length - k) k x1 = some oi ∧ fr' 0 = AV.ptr b0 0 ∧ fr' 1 = intsA (o) ∧ fr' 2 = intsA (A) ∧ fr' 6 = AV.int (((A.length : Nat) : Int)) ∧ fr' 7 = AV.ptr b7 0 ∧ fr' 8 = AV.int (((k : Nat) : Int)) ∧ Kept σ0 τ' ∧ σ0.next ≤ τ'.next ∧ τ'.get b0 = some [nodesA (t.t.nodes), edgesA (t.t.edges), intsA (t.p.nodes), e3sA (t.p.edges), intsA (t.g.nodes), e3sA (t.g.edges), intsA (t.partialx.nodes), intsA (t.partialx.edges), AV.bool (t.injective), AV.int (t.most), v4] ∧ b0 < τ'.next ∧ τ'.get b7 = some [AV.int (x.kind), AV.int (x.src), AV.int (x.tgt)] ∧ b7 < τ'.next ∧ ArrAt σ0.next τ' v4 33 (x1.flatMap morphC) x1.length 2 ∧ (∀ i, idOf v4 = some i → ¬ i = b0) ∧ (∀ i, idOf v4 = some i → ¬ i = b7)) := ⟨_, fun _ _ _ => Iff.rfl⟩
   refine SW.loop J (t.g.edges.length - 0) ((hJ _ _ _).2 ⟨0, t.found, v, rfl, hruni, f0, f1, f2, f6, f7, f8, hK, hN, gb0, ub0, gb7, ub7, av, evb0, evb7⟩) ?_
   clear hruni
   intro m_ fr7 τ3 hm
   rw [hJ] at hm
   clear f0 f1 f2 f6 f7 f8 hK hN gb0 ub0 gb7 ub7 av
   obtain ⟨k, x1, v4, rfl, hruni, f0, f1, f2, f6, f7, f8, hK, hN, gb0, ub0, gb7, ub7, av4, ev4b0, ev4b7⟩ := hm
   refine SW.seq ?_
   refine SW.seq ?_
   refine SW.regX (fun f_ t_ => τ3 = t_ ∧ f_ 0 = AV.ptr b0 0 ∧ f_ 1 = intsA (o) ∧ f_ 2 = intsA (A) ∧ f_ 6 = AV.int (((A.length : Nat) : Int)) ∧ f_ 7 = AV.ptr b7 0 ∧ f_ 8 = AV.int (((k : Nat) : Int)) ∧ f_ 61 = AV.bool ((decide (k < t.g.edges.length)))) (fun M hM => ?_) (fun fr8 τz4 hm => ?_)
   ·simp [go_sem, f0, f1, f2, f6, f7, f8, gb0, gb7]
    refine (hM _ _).2 ⟨rfl, ?_, ?_, ?_, ?_, ?_, ?_, ?_⟩ <;> simp [go_sem, f0, f1, f2, f6, f7, f8, gb0, gb7]
   clear f0 f1 f2 f6 f7 f8
   obtain ⟨rfl, f0, f1, f2, f6, f7, f8, f61⟩ := hm
   refine SW.cond _ f61 (fun hx2 => ?_) (fun hx2 => ?_)
   rotate_left
   ·have hk : ¬ k < t.g.edges.length := by have := of_decide_eq_false hx2; omega
    refine SW.exit rfl ?_
    exact SW.goal ((hKL _ _).2 ⟨x1, v4, forN_end hruni hk, hK, hN, gb0, ub0, av4, ev4b0⟩)
   have hkk : k < t.g.edges.length := by have := of_decide_eq_true hx2; omega
   have hwk : IntKind.i64.wrap ((k : Int) + 1) = ((k + 1 : Nat) : Int) := by rw [wrap64_of _ (by omega) (by omega)]; rfl
   obtain ⟨ci, hbi, hci⟩ := forN_step hruni hkk
   simp only [b1_ref17_search_edges] at hbi
   refine SW.skip ?_
   refine SW.seq ?_
   refine SW.block ?_
   refine SW.seq ?_
   obtain ⟨x2, hx2, hbi⟩ := obind hbi
   have xlx2 := getN_lt hx2
   have xdx2 := getN_flat e3C 3 (fun _ => rfl) hx2
   refine SW.regX (fun f_ t_ => ∃ b9 : Nat, f_ 0 = AV.ptr b0 0 ∧ f_ 1 = intsA (o) ∧ f_ 2 = intsA (A) ∧ f_ 6 = AV.int (((A.length : Nat) : Int)) ∧ f_ 7 = AV.ptr b7 0 ∧ f_ 8 = AV.int (((k : Nat) : Int)) ∧ f_ 9 = AV.ptr b9 0 ∧ Kept σ0 t_ ∧ σ0.next ≤ t_.next ∧ t_.get b0 = some [nodesA (t.t.nodes), edgesA (t.t.edges), intsA (t.p.nodes), e3sA (t.p.edges), intsA (t.g.nodes), e3sA (t.g.edges), intsA (t.partialx.nodes), intsA (t.partialx.edges), AV.bool (t.injective), AV.int (t.most), v4] ∧ b0 < t_.next ∧ t_.get b7 = some [AV.int (x.kind), AV.int (x.src), AV.int (x.tgt)] ∧ b7 < t_.next ∧ t_.get b9 = some [AV.int (x2.kind), AV.int (x2.src), AV.int (x2.tgt)] ∧ b9 < t_.next ∧ ArrAt σ0.next t_ v4 33 (x1.flatMap morphC) x1.length 2 ∧ σ0.next ≤ b9 ∧ ¬ b0 = b9 ∧ ¬ b7 = b9 ∧ (∀ i, idOf v4 = some i → ¬ i = b9)) (fun M hM => ?_) (fun fr9 τ4 hm => ?_)
   ·have nb0_0 : ¬ b0 = τ3.next := by omega
    have nb7_0 : ¬ b7 = τ3.next := by omega
    simp [go_sem, f0, f1, f2, f6, f61, f7, f8, gb0, gb7, xlx2, xdx2, e3C, nb0_0, nb7_0]
    refine (hM _ _).2 ⟨τ3.next, ?_, ?_, ?_, ?_, ?_, ?_, ?_, by intro j hj; have hj_ := hK j hj; simp [go_sem, hj_.1, hj_.2, show ¬ j = τ3.next by omega], by first | omega | (simp [go_sem]; done) | (simp [go_sem]; omega), by simp (disch := omega) [get_alloc_ne, get_set_ne, get_kill_ne, go_sem, f0, f1, f2, f6, f61, f7, f8, gb0, gb7, xlx2, xdx2, e3C, nb0_0, nb7_0], by first | omega | (simp [go_sem]; done) | (simp [go_sem]; omega), by simp (disch := omega) [get_alloc_ne, get_set_ne, get_kill_ne, go_sem, f0, f1, f2, f6, f61, f7, f8, gb0, gb7, xlx2, xdx2, e3C, nb0_0, nb7_0], by first | omega | (simp [go_sem]; done) | (simp [go_sem]; omega), by simp (disch := omega) [get_alloc_ne, get_set_ne, get_kill_ne, go_sem, f0, f1, f2, f6, f61, f7, f8, gb0, gb7, xlx2, xdx2, e3C, nb0_0, nb7_0], by first | omega | (simp [go_sem]; done) | (simp [go_sem]; omega), av4.same' (by simp [go_sem]; try omega) (fun i hi => by have zl := arrAt_lt av4 i hi; have zi0 : ¬ i = τ3.next := (by omega); constructor <;> simp [go_sem, zi0]), by omega, by omega, by omega, by first | exact ev4b9 | (intro i hi; have := arrAt_lt av4 i hi; omega)⟩ <;> simp [go_sem, f0, f1, f2, f6, f61, f7, f8, gb0, gb7, xlx2, xdx2, e3C, nb0_0, nb7_0]
   clear f0 f1 f2 f6 f61 f7 f8 hK hN gb0 ub0 gb7 ub7 av4
   obtain ⟨b9, f0, f1, f2, f6, f7, f8, f9, hK, hN, gb0, ub0, gb7, ub7, gb9, ub9, av4, wb9, eb0b9, eb7b9, ev4b9⟩ := hm
   refine SW.seq ?_
   refine SW.seq ?_
   obtain ⟨n, hn, hbi⟩ := obind hbi
   have xln := getN_lt hn
   have xdn := getN_map AV.int hn
   obtain ⟨c, hc, hbi⟩ := obind hbi
   refine SW.regX (fun f_ t_ => τ4 = t_ ∧ f_ 0 = AV.ptr b0 0 ∧ f_ 1 = intsA (o) ∧ f_ 2 = intsA (A) ∧ f_ 6 = AV.int (((A.length : Nat) : Int)) ∧ f_ 7 = AV.ptr b7 0 ∧ f_ 8 = AV.int (((k : Nat) : Int)) ∧ f_ 125 = AV.bool (c)) (fun M hM => ?_) (fun fr10 τz5 hm => ?_)
   ·refine EW_regionI τ4 (by kernel_rfl) (by kernel_rfl) (fun _ _ h => h) (fun hfin => ?_)
    rcases Bool.eq_false_or_eq_true ((decide (0 ≤ n))) with y0 | y0
    ·have y0' := y0
     try simp at y0'
     have ky0 := condT hc y0
     rcases Bool.eq_false_or_eq_true ((!decide (n = ((k : Nat) : Int)))) with y2 | y2
     ·have y2' := y2
      try simp [y0'] at y2'
      have ky2 := condT ky0 y2
      have ec := Option.some.inj ky2
      simp [go_sem, f0, f1, f2, f6, f7, f8, f9, gb0, gb7, gb9, xln, xdn, y0, y0', xln, xdn, y2, y2']
      refine (hM _ _).2 ⟨rfl, ?_, ?_, ?_, ?_, ?_, ?_, ?_⟩ <;> simp [go_sem, f0, f1, f2, f6, f7, f8, f9, gb0, gb7, gb9, xln, xdn, y0, y0', xln, xdn, y2, y2', ← ec]
     ·have y2' := y2
      try simp [y0'] at y2'
      have ky2 := condF ky0 y2
      obtain ⟨q, hq, ky2⟩ := obind ky2
      rcases Bool.eq_false_or_eq_true q with y4 | y4
      ·have y4' := y4
       try simp [y0', y2'] at y4'
       have ky4 := condT ky2 y4
       have ec := Option.some.inj ky4
       have zv4 := av4
       rcases zv4 with ⟨rfl, nv4, mv4⟩ | ⟨ov4, rfl, gov4, tov4, lov4, hiv4⟩
       ·have zyv4y0 := y0
        try rw [nv4] at zyv4y0
        try simp only [List.length_nil, Int.natCast_zero] at zyv4y0
        have zyv4y2 := y2
        try rw [nv4] at zyv4y2
        try simp only [List.length_nil, Int.natCast_zero] at zyv4y2
        have zyv4y4 := y4
        try rw [nv4] at zyv4y4
        try simp only [List.length_nil, Int.natCast_zero] at zyv4y4
        simp [go_sem, f0, f1, f2, f6, f7, f8, f9, gb0, gb7, gb9, xln, xdn, y0, y0', xln, xdn, y2, y2', y4, y4', nv4, mv4, zyv4y0, zyv4y2, zyv4y4]
        refine EWlc_frz (w_ref17_search_used F (⟨t.t, t.p, t.g, t.partialx, t.injective, t.most, x1⟩ : Gscarfjointref17_search) A ((k : Nat) : Int) _ hq) rfl (frzL_c (frz_ptrL (Nat.zero_le _) gb0 (frzL_c ((DataA.imm (DataL.flatMap gd_nodeC t.t.nodes)) _ _) (frzL_c ((DataA.imm (DataL.flatMap gd_edgeC t.t.edges)) _ _) (frzL_c ((DataA.imm (DataL.map (fun _ => .lit _) t.p.nodes)) _ _) (frzL_c ((DataA.imm (DataL.flatMap gd_e3C t.p.edges)) _ _) (frzL_c ((DataA.imm (DataL.map (fun _ => .lit _) t.g.nodes)) _ _) (frzL_c ((DataA.imm (DataL.flatMap gd_e3C t.g.edges)) _ _) (frzL_c ((DataA.imm (DataL.map (fun _ => .lit _) t.partialx.nodes)) _ _) (frzL_c ((DataA.imm (DataL.map (fun _ => .lit _) t.partialx.edges)) _ _) (frzL_c (.lit _) (frzL_c (.lit _) (frzL_c (ArrAt.frzle av4 (Nat.zero_le _) (DataL.flatMap gd_morphC x1)) (frzL_n))))))))))))) (frzL_c ((DataA.imm (DataL.map (fun _ => .lit _) A)) _ _) (frzL_c (.lit _) (frzL_n)))) (fun _ _ h => h) ?_
        simp [go_sem, f0, f1, f2, f6, f7, f8, f9, gb0, gb7, gb9, xln, xdn, y0, y0', xln, xdn, y2, y2', y4, y4', nv4, mv4, zyv4y0, zyv4y2, zyv4y4]
        refine (hM _ _).2 ⟨rfl, ?_, ?_, ?_, ?_, ?_, ?_, ?_⟩ <;> simp [go_sem, f0, f1, f2, f6, f7, f8, f9, gb0, gb7, gb9, xln, xdn, y0, y0', xln, xdn, y2, y2', y4, y4', nv4, mv4, zyv4y0, zyv4y2, zyv4y4, ← ec]
       ·have Lv4 : (x1.flatMap morphC).length = x1.length * 2 := length_flatMap (f := morphC) (sz := 2) (fun _ => rfl) _
        simp [go_sem, f0, f1, f2, f6, f7, f8, f9, gb0, gb7, gb9, xln, xdn, y0, y0', xln, xdn, y2, y2', y4, y4', gov4, tov4, Lv4]
        refine EWlc_frz (w_ref17_search_used F (⟨t.t, t.p, t.g, t.partialx, t.injective, t.most, x1⟩ : Gscarfjointref17_search) A ((k : Nat) : Int) _ hq) rfl (frzL_c (frz_ptrL (Nat.zero_le _) gb0 (frzL_c ((DataA.imm (DataL.flatMap gd_nodeC t.t.nodes)) _ _) (frzL_c ((DataA.imm (DataL.flatMap gd_edgeC t.t.edges)) _ _) (frzL_c ((DataA.imm (DataL.map (fun _ => .lit _) t.p.nodes)) _ _) (frzL_c ((DataA.imm (DataL.flatMap gd_e3C t.p.edges)) _ _) (frzL_c ((DataA.imm (DataL.map (fun _ => .lit _) t.g.nodes)) _ _) (frzL_c ((DataA.imm (DataL.flatMap gd_e3C t.g.edges)) _ _) (frzL_c ((DataA.imm (DataL.map (fun _ => .lit _) t.partialx.nodes)) _ _) (frzL_c ((DataA.imm (DataL.map (fun _ => .lit _) t.partialx.edges)) _ _) (frzL_c (.lit _) (frzL_c (.lit _) (frzL_c (ArrAt.frzle av4 (Nat.zero_le _) (DataL.flatMap gd_morphC x1)) (frzL_n))))))))))))) (frzL_c ((DataA.imm (DataL.map (fun _ => .lit _) A)) _ _) (frzL_c (.lit _) (frzL_n)))) (fun _ _ h => h) ?_
        simp [go_sem, f0, f1, f2, f6, f7, f8, f9, gb0, gb7, gb9, xln, xdn, y0, y0', xln, xdn, y2, y2', y4, y4', gov4, tov4, Lv4]
        refine (hM _ _).2 ⟨rfl, ?_, ?_, ?_, ?_, ?_, ?_, ?_⟩ <;> simp [go_sem, f0, f1, f2, f6, f7, f8, f9, gb0, gb7, gb9, xln, xdn, y0, y0', xln, xdn, y2, y2', y4, y4', gov4, tov4, Lv4, ← ec]
      ·have y4' := y4
       try simp [y0', y2'] at y4'
       have ky4 := condF ky2 y4
       rcases Bool.eq_false_or_eq_true ((!decide (x.kind = x2.kind))) with y6 | y6
       ·have y6' := y6
        try simp [y0', y2', y4'] at y6'
        have ky6 := condT ky4 y6
        have ec := Option.some.inj ky6
        have zv4 := av4
        rcases zv4 with ⟨rfl, nv4, mv4⟩ | ⟨ov4, rfl, gov4, tov4, lov4, hiv4⟩
        ·have zyv4y0 := y0
         try rw [nv4] at zyv4y0
         try simp only [List.length_nil, Int.natCast_zero] at zyv4y0
         have zyv4y2 := y2
         try rw [nv4] at zyv4y2
         try simp only [List.length_nil, Int.natCast_zero] at zyv4y2
         have zyv4y4 := y4
         try rw [nv4] at zyv4y4
         try simp only [List.length_nil, Int.natCast_zero] at zyv4y4
         have zyv4y6 := y6
         try rw [nv4] at zyv4y6
         try simp only [List.length_nil, Int.natCast_zero] at zyv4y6
         simp [go_sem, f0, f1, f2, f6, f7, f8, f9, gb0, gb7, gb9, xln, xdn, y0, y0', xln, xdn, y2, y2', y4, y4', y6, y6', nv4, mv4, zyv4y0, zyv4y2, zyv4y4, zyv4y6]
         refine EWlc_frz (w_ref17_search_used F (⟨t.t, t.p, t.g, t.partialx, t.injective, t.most, x1⟩ : Gscarfjointref17_search) A ((k : Nat) : Int) _ hq) rfl (frzL_c (frz_ptrL (Nat.zero_le _) gb0 (frzL_c ((DataA.imm (DataL.flatMap gd_nodeC t.t.nodes)) _ _) (frzL_c ((DataA.imm (DataL.flatMap gd_edgeC t.t.edges)) _ _) (frzL_c ((DataA.imm (DataL.map (fun _ => .lit _) t.p.nodes)) _ _) (frzL_c ((DataA.imm (DataL.flatMap gd_e3C t.p.edges)) _ _) (frzL_c ((DataA.imm (DataL.map (fun _ => .lit _) t.g.nodes)) _ _) (frzL_c ((DataA.imm (DataL.flatMap gd_e3C t.g.edges)) _ _) (frzL_c ((DataA.imm (DataL.map (fun _ => .lit _) t.partialx.nodes)) _ _) (frzL_c ((DataA.imm (DataL.map (fun _ => .lit _) t.partialx.edges)) _ _) (frzL_c (.lit _) (frzL_c (.lit _) (frzL_c (ArrAt.frzle av4 (Nat.zero_le _) (DataL.flatMap gd_morphC x1)) (frzL_n))))))))))))) (frzL_c ((DataA.imm (DataL.map (fun _ => .lit _) A)) _ _) (frzL_c (.lit _) (frzL_n)))) (fun _ _ h => h) ?_
         simp [go_sem, f0, f1, f2, f6, f7, f8, f9, gb0, gb7, gb9, xln, xdn, y0, y0', xln, xdn, y2, y2', y4, y4', y6, y6', nv4, mv4, zyv4y0, zyv4y2, zyv4y4, zyv4y6]
         refine (hM _ _).2 ⟨rfl, ?_, ?_, ?_, ?_, ?_, ?_, ?_⟩ <;> simp [go_sem, f0, f1, f2, f6, f7, f8, f9, gb0, gb7, gb9, xln, xdn, y0, y0', xln, xdn, y2, y2', y4, y4', y6, y6', nv4, mv4, zyv4y0, zyv4y2, zyv4y4, zyv4y6, ← ec]
        ·have Lv4 : (x1.flatMap morphC).length = x1.length * 2 := length_flatMap (f := morphC) (sz := 2) (fun _ => rfl) _
         simp [go_sem, f0, f1, f2, f6, f7, f8, f9, gb0, gb7, gb9, xln, xdn, y0, y0', xln, xdn, y2, y2', y4, y4', y6, y6', gov4, tov4, Lv4]
         refine EWlc_frz (w_ref17_search_used F (⟨t.t, t.p, t.g, t.partialx, t.injective, t.most, x1⟩ : Gscarfjointref17_search) A ((k : Nat) : Int) _ hq) rfl (frzL_c (frz_ptrL (Nat.zero_le _) gb0 (frzL_c ((DataA.imm (DataL.flatMap gd_nodeC t.t.nodes)) _ _) (frzL_c ((DataA.imm (DataL.flatMap gd_edgeC t.t.edges)) _ _) (frzL_c ((DataA.imm (DataL.map (fun _ => .lit _) t.p.nodes)) _ _) (frzL_c ((DataA.imm (DataL.flatMap gd_e3C t.p.edges)) _ _) (frzL_c ((DataA.imm (DataL.map (fun _ => .lit _) t.g.nodes)) _ _) (frzL_c ((DataA.imm (DataL.flatMap gd_e3C t.g.edges)) _ _) (frzL_c ((DataA.imm (DataL.map (fun _ => .lit _) t.partialx.nodes)) _ _) (frzL_c ((DataA.imm (DataL.map (fun _ => .lit _) t.partialx.edges)) _ _) (frzL_c (.lit _) (frzL_c (.lit _) (frzL_c (ArrAt.frzle av4 (Nat.zero_le _) (DataL.flatMap gd_morphC x1)) (frzL_n))))))))))))) (frzL_c ((DataA.imm (DataL.map (fun _ => .lit _) A)) _ _) (frzL_c (.lit _) (frzL_n)))) (fun _ _ h => h) ?_
         simp [go_sem, f0, f1, f2, f6, f7, f8, f9, gb0, gb7, gb9, xln, xdn, y0, y0', xln, xdn, y2, y2', y4, y4', y6, y6', gov4, tov4, Lv4]
         refine (hM _ _).2 ⟨rfl, ?_, ?_, ?_, ?_, ?_, ?_, ?_⟩ <;> simp [go_sem, f0, f1, f2, f6, f7, f8, f9, gb0, gb7, gb9, xln, xdn, y0, y0', xln, xdn, y2, y2', y4, y4', y6, y6', gov4, tov4, Lv4, ← ec]
       ·have y6' := y6
        try simp [y0', y2', y4'] at y6'
        have ky6 := condF ky4 y6
        obtain ⟨n2, hn2, ky6⟩ := obind ky6
        have xpn2 := getI_pos hn2
        have xln2 := getI_lt hn2
        have xin2 := getI_N hn2
        have xdn2 := getN_map AV.int xin2
        rcases Bool.eq_false_or_eq_true ((!decide (x2.src = n2))) with y8 | y8
        ·have y8' := y8
         try simp [y0', y2', y4', y6'] at y8'
         have ky8 := condT ky6 y8
         have ec := Option.some.inj ky8
         have zv4 := av4
         rcases zv4 with ⟨rfl, nv4, mv4⟩ | ⟨ov4, rfl, gov4, tov4, lov4, hiv4⟩
         ·have zyv4y0 := y0
          try rw [nv4] at zyv4y0
          try simp only [List.length_nil, Int.natCast_zero] at zyv4y0
          have zyv4y2 := y2
          try rw [nv4] at zyv4y2
          try simp only [List.length_nil, Int.natCast_zero] at zyv4y2
          have zyv4y4 := y4
          try rw [nv4] at zyv4y4
          try simp only [List.length_nil, Int.natCast_zero] at zyv4y4
          have zyv4y6 := y6
          try rw [nv4] at zyv4y6
          try simp only [List.length_nil, Int.natCast_zero] at zyv4y6
          have zyv4y8 := y8
          try rw [nv4] at zyv4y8
          try simp only [List.length_nil, Int.natCast_zero] at zyv4y8
          simp [go_sem, f0, f1, f2, f6, f7, f8, f9, gb0, gb7, gb9, xln, xdn, y0, y0', xln, xdn, y2, y2', y4, y4', y6, y6', xpn2, xln2, xdn2, y8, y8', nv4, mv4, zyv4y0, zyv4y2, zyv4y4, zyv4y6, zyv4y8]
          refine EWlc_frz (w_ref17_search_used F (⟨t.t, t.p, t.g, t.partialx, t.injective, t.most, x1⟩ : Gscarfjointref17_search) A ((k : Nat) : Int) _ hq) rfl (frzL_c (frz_ptrL (Nat.zero_le _) gb0 (frzL_c ((DataA.imm (DataL.flatMap gd_nodeC t.t.nodes)) _ _) (frzL_c ((DataA.imm (DataL.flatMap gd_edgeC t.t.edges)) _ _) (frzL_c ((DataA.imm (DataL.map (fun _ => .lit _) t.p.nodes)) _ _) (frzL_c ((DataA.imm (DataL.flatMap gd_e3C t.p.edges)) _ _) (frzL_c ((DataA.imm (DataL.map (fun _ => .lit _) t.g.nodes)) _ _) (frzL_c ((DataA.imm (DataL.flatMap gd_e3C t.g.edges)) _ _) (frzL_c ((DataA.imm (DataL.map (fun _ => .lit _) t.partialx.nodes)) _ _) (frzL_c ((DataA.imm (DataL.map (fun _ => .lit _) t.partialx.edges)) _ _) (frzL_c (.lit _) (frzL_c (.lit _) (frzL_c (ArrAt.frzle av4 (Nat.zero_le _) (DataL.flatMap gd_morphC x1)) (frzL_n))))))))))))) (frzL_c ((DataA.imm (DataL.map (fun _ => .lit _) A)) _ _) (frzL_c (.lit _) (frzL_n)))) (fun _ _ h => h) ?_
          simp [go_sem, f0, f1, f2, f6, f7, f8, f9, gb0, gb7, gb9, xln, xdn, y0, y0', xln, xdn, y2, y2', y4, y4', y6, y6', xpn2, xln2, xdn2, y8, y8', nv4, mv4, zyv4y0, zyv4y2, zyv4y4, zyv4y6, zyv4y8]
          refine (hM _ _).2 ⟨rfl, ?_, ?_, ?_, ?_, ?_, ?_, ?_⟩ <;> simp [go_sem, f0, f1, f2, f6, f7, f8, f9, gb0, gb7, gb9, xln, xdn, y0, y0', xln, xdn, y2, y2', y4, y4', y6, y6', xpn2, xln2, xdn2, y8, y8', nv4, mv4, zyv4y0, zyv4y2, zyv4y4, zyv4y6, zyv4y8, ← ec]
         ·have Lv4 : (x1.flatMap morphC).length = x1.length * 2 := length_flatMap (f := morphC) (sz := 2) (fun _ => rfl) _
          simp [go_sem, f0, f1, f2, f6, f7, f8, f9, gb0, gb7, gb9, xln, xdn, y0, y0', xln, xdn, y2, y2', y4, y4', y6, y6', xpn2, xln2, xdn2, y8, y8', gov4, tov4, Lv4]
          refine EWlc_frz (w_ref17_search_used F (⟨t.t, t.p, t.g, t.partialx, t.injective, t.most, x1⟩ : Gscarfjointref17_search) A ((k : Nat) : Int) _ hq) rfl (frzL_c (frz_ptrL (Nat.zero_le _) gb0 (frzL_c ((DataA.imm (DataL.flatMap gd_nodeC t.t.nodes)) _ _) (frzL_c ((DataA.imm (DataL.flatMap gd_edgeC t.t.edges)) _ _) (frzL_c ((DataA.imm (DataL.map (fun _ => .lit _) t.p.nodes)) _ _) (frzL_c ((DataA.imm (DataL.flatMap gd_e3C t.p.edges)) _ _) (frzL_c ((DataA.imm (DataL.map (fun _ => .lit _) t.g.nodes)) _ _) (frzL_c ((DataA.imm (DataL.flatMap gd_e3C t.g.edges)) _ _) (frzL_c ((DataA.imm (DataL.map (fun _ => .lit _) t.partialx.nodes)) _ _) (frzL_c ((DataA.imm (DataL.map (fun _ => .lit _) t.partialx.edges)) _ _) (frzL_c (.lit _) (frzL_c (.lit _) (frzL_c (ArrAt.frzle av4 (Nat.zero_le _) (DataL.flatMap gd_morphC x1)) (frzL_n))))))))))))) (frzL_c ((DataA.imm (DataL.map (fun _ => .lit _) A)) _ _) (frzL_c (.lit _) (frzL_n)))) (fun _ _ h => h) ?_
          simp [go_sem, f0, f1, f2, f6, f7, f8, f9, gb0, gb7, gb9, xln, xdn, y0, y0', xln, xdn, y2, y2', y4, y4', y6, y6', xpn2, xln2, xdn2, y8, y8', gov4, tov4, Lv4]
          refine (hM _ _).2 ⟨rfl, ?_, ?_, ?_, ?_, ?_, ?_, ?_⟩ <;> simp [go_sem, f0, f1, f2, f6, f7, f8, f9, gb0, gb7, gb9, xln, xdn, y0, y0', xln, xdn, y2, y2', y4, y4', y6, y6', xpn2, xln2, xdn2, y8, y8', gov4, tov4, Lv4, ← ec]
        ·have y8' := y8
         try simp [y0', y2', y4', y6'] at y8'
         have ky8 := condF ky6 y8
         obtain ⟨n3, hn3, ky8⟩ := obind ky8
         have xpn3 := getI_pos hn3
         have xln3 := getI_lt hn3
         have xin3 := getI_N hn3
         have xdn3 := getN_map AV.int xin3
         have ec := Option.some.inj ky8
         have zv4 := av4
         rcases zv4 with ⟨rfl, nv4, mv4⟩ | ⟨ov4, rfl, gov4, tov4, lov4, hiv4⟩
         ·have zyv4y0 := y0
          try rw [nv4] at zyv4y0
          try simp only [List.length_nil, Int.natCast_zero] at zyv4y0
          have zyv4y2 := y2
          try rw [nv4] at zyv4y2
          try simp only [List.length_nil, Int.natCast_zero] at zyv4y2
          have zyv4y4 := y4
          try rw [nv4] at zyv4y4
          try simp only [List.length_nil, Int.natCast_zero] at zyv4y4
          have zyv4y6 := y6
          try rw [nv4] at zyv4y6
          try simp only [List.length_nil, Int.natCast_zero] at zyv4y6
          have zyv4y8 := y8
          try rw [nv4] at zyv4y8
          try simp only [List.length_nil, Int.natCast_zero] at zyv4y8
          simp [go_sem, f0, f1, f2, f6, f7, f8, f9, gb0, gb7, gb9, xln, xdn, y0, y0', xln, xdn, y2, y2', y4, y4', y6, y6', xpn2, xln2, xdn2, y8, y8', xpn3, xln3, xdn3, nv4, mv4, zyv4y0, zyv4y2, zyv4y4, zyv4y6, zyv4y8]
          refine EWlc_frz (w_ref17_search_used F (⟨t.t, t.p, t.g, t.partialx, t.injective, t.most, x1⟩ : Gscarfjointref17_search) A ((k : Nat) : Int) _ hq) rfl (frzL_c (frz_ptrL (Nat.zero_le _) gb0 (frzL_c ((DataA.imm (DataL.flatMap gd_nodeC t.t.nodes)) _ _) (frzL_c ((DataA.imm (DataL.flatMap gd_edgeC t.t.edges)) _ _) (frzL_c ((DataA.imm (DataL.map (fun _ => .lit _) t.p.nodes)) _ _) (frzL_c ((DataA.imm (DataL.flatMap gd_e3C t.p.edges)) _ _) (frzL_c ((DataA.imm (DataL.map (fun _ => .lit _) t.g.nodes)) _ _) (frzL_c ((DataA.imm (DataL.flatMap gd_e3C t.g.edges)) _ _) (frzL_c ((DataA.imm (DataL.map (fun _ => .lit _) t.partialx.nodes)) _ _) (frzL_c ((DataA.imm (DataL.map (fun _ => .lit _) t.partialx.edges)) _ _) (frzL_c (.lit _) (frzL_c (.lit _) (frzL_c (ArrAt.frzle av4 (Nat.zero_le _) (DataL.flatMap gd_morphC x1)) (frzL_n))))))))))))) (frzL_c ((DataA.imm (DataL.map (fun _ => .lit _) A)) _ _) (frzL_c (.lit _) (frzL_n)))) (fun _ _ h => h) ?_
          simp [go_sem, f0, f1, f2, f6, f7, f8, f9, gb0, gb7, gb9, xln, xdn, y0, y0', xln, xdn, y2, y2', y4, y4', y6, y6', xpn2, xln2, xdn2, y8, y8', xpn3, xln3, xdn3, nv4, mv4, zyv4y0, zyv4y2, zyv4y4, zyv4y6, zyv4y8]
          refine (hM _ _).2 ⟨rfl, ?_, ?_, ?_, ?_, ?_, ?_, ?_⟩ <;> simp [go_sem, f0, f1, f2, f6, f7, f8, f9, gb0, gb7, gb9, xln, xdn, y0, y0', xln, xdn, y2, y2', y4, y4', y6, y6', xpn2, xln2, xdn2, y8, y8', xpn3, xln3, xdn3, nv4, mv4, zyv4y0, zyv4y2, zyv4y4, zyv4y6, zyv4y8, ← ec]
         ·have Lv4 : (x1.flatMap morphC).length = x1.length * 2 := length_flatMap (f := morphC) (sz := 2) (fun _ => rfl) _
          simp [go_sem, f0, f1, f2, f6, f7, f8, f9, gb0, gb7, gb9, xln, xdn, y0, y0', xln, xdn, y2, y2', y4, y4', y6, y6', xpn2, xln2, xdn2, y8, y8', xpn3, xln3, xdn3, gov4, tov4, Lv4]
          refine EWlc_frz (w_ref17_search_used F (⟨t.t, t.p, t.g, t.partialx, t.injective, t.most, x1⟩ : Gscarfjointref17_search) A ((k : Nat) : Int) _ hq) rfl (frzL_c (frz_ptrL (Nat.zero_le _) gb0 (frzL_c ((DataA.imm (DataL.flatMap gd_nodeC t.t.nodes)) _ _) (frzL_c ((DataA.imm (DataL.flatMap gd_edgeC t.t.edges)) _ _) (frzL_c ((DataA.imm (DataL.map (fun _ => .lit _) t.p.nodes)) _ _) (frzL_c ((DataA.imm (DataL.flatMap gd_e3C t.p.edges)) _ _) (frzL_c ((DataA.imm (DataL.map (fun _ => .lit _) t.g.nodes)) _ _) (frzL_c ((DataA.imm (DataL.flatMap gd_e3C t.g.edges)) _ _) (frzL_c ((DataA.imm (DataL.map (fun _ => .lit _) t.partialx.nodes)) _ _) (frzL_c ((DataA.imm (DataL.map (fun _ => .lit _) t.partialx.edges)) _ _) (frzL_c (.lit _) (frzL_c (.lit _) (frzL_c (ArrAt.frzle av4 (Nat.zero_le _) (DataL.flatMap gd_morphC x1)) (frzL_n))))))))))))) (frzL_c ((DataA.imm (DataL.map (fun _ => .lit _) A)) _ _) (frzL_c (.lit _) (frzL_n)))) (fun _ _ h => h) ?_
          simp [go_sem, f0, f1, f2, f6, f7, f8, f9, gb0, gb7, gb9, xln, xdn, y0, y0', xln, xdn, y2, y2', y4, y4', y6, y6', xpn2, xln2, xdn2, y8, y8', xpn3, xln3, xdn3, gov4, tov4, Lv4]
          refine (hM _ _).2 ⟨rfl, ?_, ?_, ?_, ?_, ?_, ?_, ?_⟩ <;> simp [go_sem, f0, f1, f2, f6, f7, f8, f9, gb0, gb7, gb9, xln, xdn, y0, y0', xln, xdn, y2, y2', y4, y4', y6, y6', xpn2, xln2, xdn2, y8, y8', xpn3, xln3, xdn3, gov4, tov4, Lv4, ← ec]
    ·have y0' := y0
     try simp at y0'
     have ky0 := condF hc y0
     obtain ⟨q1, hq1, ky0⟩ := obind ky0
     rcases Bool.eq_false_or_eq_true q1 with y2 | y2
     ·have y2' := y2
      try simp [y0'] at y2'
      have ky2 := condT ky0 y2
      have ec := Option.some.inj ky2
      have zv4 := av4
      rcases zv4 with ⟨rfl, nv4, mv4⟩ | ⟨ov4, rfl, gov4, tov4, lov4, hiv4⟩
      ·have zyv4y0 := y0
       try rw [nv4] at zyv4y0
       try simp only [List.length_nil, Int.natCast_zero] at zyv4y0
       have zyv4y2 := y2
       try rw [nv4] at zyv4y2
       try simp only [List.length_nil, Int.natCast_zero] at zyv4y2
       simp [go_sem, f0, f1, f2, f6, f7, f8, f9, gb0, gb7, gb9, xln, xdn, y0, y0', y2, y2', nv4, mv4, zyv4y0, zyv4y2]
       refine EWlc_frz (w_ref17_search_used F (⟨t.t, t.p, t.g, t.partialx, t.injective, t.most, x1⟩ : Gscarfjointref17_search) A ((k : Nat) : Int) _ hq1) rfl (frzL_c (frz_ptrL (Nat.zero_le _) gb0 (frzL_c ((DataA.imm (DataL.flatMap gd_nodeC t.t.nodes)) _ _) (frzL_c ((DataA.imm (DataL.flatMap gd_edgeC t.t.edges)) _ _) (frzL_c ((DataA.imm (DataL.map (fun _ => .lit _) t.p.nodes)) _ _) (frzL_c ((DataA.imm (DataL.flatMap gd_e3C t.p.edges)) _ _) (frzL_c ((DataA.imm (DataL.map (fun _ => .lit _) t.g.nodes)) _ _) (frzL_c ((DataA.imm (DataL.flatMap gd_e3C t.g.edges)) _ _) (frzL_c ((DataA.imm (DataL.map (fun _ => .lit _) t.partialx.nodes)) _ _) (frzL_c ((DataA.imm (DataL.map (fun _ => .lit _) t.partialx.edges)) _ _) (frzL_c (.lit _) (frzL_c (.lit _) (frzL_c (ArrAt.frzle av4 (Nat.zero_le _) (DataL.flatMap gd_morphC x1)) (frzL_n))))))))))))) (frzL_c ((DataA.imm (DataL.map (fun _ => .lit _) A)) _ _) (frzL_c (.lit _) (frzL_n)))) (fun _ _ h => h) ?_
       simp [go_sem, f0, f1, f2, f6, f7, f8, f9, gb0, gb7, gb9, xln, xdn, y0, y0', y2, y2', nv4, mv4, zyv4y0, zyv4y2]
       refine (hM _ _).2 ⟨rfl, ?_, ?_, ?_, ?_, ?_, ?_, ?_⟩ <;> simp [go_sem, f0, f1, f2, f6, f7, f8, f9, gb0, gb7, gb9, xln, xdn, y0, y0', y2, y2', nv4, mv4, zyv4y0, zyv4y2, ← ec]
      ·have Lv4 : (x1.flatMap morphC).length = x1.length * 2 := length_flatMap (f := morphC) (sz := 2) (fun _ => rfl) _
       simp [go_sem, f0, f1, f2, f6, f7, f8, f9, gb0, gb7, gb9, xln, xdn, y0, y0', y2, y2', gov4, tov4, Lv4]
       refine EWlc_frz (w_ref17_search_used F (⟨t.t, t.p, t.g, t.partialx, t.injective, t.most, x1⟩ : Gscarfjointref17_search) A ((k : Nat) : Int) _ hq1) rfl (frzL_c (frz_ptrL (Nat.zero_le _) gb0 (frzL_c ((DataA.imm (DataL.flatMap gd_nodeC t.t.nodes)) _ _) (frzL_c ((DataA.imm (DataL.flatMap gd_edgeC t.t.edges)) _ _) (frzL_c ((DataA.imm (DataL.map (fun _ => .lit _) t.p.nodes)) _ _) (frzL_c ((DataA.imm (DataL.flatMap gd_e3C t.p.edges)) _ _) (frzL_c ((DataA.imm (DataL.map (fun _ => .lit _) t.g.nodes)) _ _) (frzL_c ((DataA.imm (DataL.flatMap gd_e3C t.g.edges)) _ _) (frzL_c ((DataA.imm (DataL.map (fun _ => .lit _) t.partialx.nodes)) _ _) (frzL_c ((DataA.imm (DataL.map (fun _ => .lit _) t.partialx.edges)) _ _) (frzL_c (.lit _) (frzL_c (.lit _) (frzL_c (ArrAt.frzle av4 (Nat.zero_le _) (DataL.flatMap gd_morphC x1)) (frzL_n))))))))))))) (frzL_c ((DataA.imm (DataL.map (fun _ => .lit _) A)) _ _) (frzL_c (.lit _) (frzL_n)))) (fun _ _ h => h) ?_
       simp [go_sem, f0, f1, f2, f6, f7, f8, f9, gb0, gb7, gb9, xln, xdn, y0, y0', y2, y2', gov4, tov4, Lv4]
       refine (hM _ _).2 ⟨rfl, ?_, ?_, ?_, ?_, ?_, ?_, ?_⟩ <;> simp [go_sem, f0, f1, f2, f6, f7, f8, f9, gb0, gb7, gb9, xln, xdn, y0, y0', y2, y2', gov4, tov4, Lv4, ← ec]
     ·have y2' := y2
      try simp [y0'] at y2'
      have ky2 := condF ky0 y2
      rcases Bool.eq_false_or_eq_true ((!decide (x.kind = x2.kind))) with y4 | y4
      ·have y4' := y4
       try simp [y0', y2'] at y4'
       have ky4 := condT ky2 y4
       have ec := Option.some.inj ky4
       have zv4 := av4
       rcases zv4 with ⟨rfl, nv4, mv4⟩ | ⟨ov4, rfl, gov4, tov4, lov4, hiv4⟩
       ·have zyv4y0 := y0
        try rw [nv4] at zyv4y0
        try simp only [List.length_nil, Int.natCast_zero] at zyv4y0
        have zyv4y2 := y2
        try rw [nv4] at zyv4y2
        try simp only [List.length_nil, Int.natCast_zero] at zyv4y2
        have zyv4y4 := y4
        try rw [nv4] at zyv4y4
        try simp only [List.length_nil, Int.natCast_zero] at zyv4y4
        simp [go_sem, f0, f1, f2, f6, f7, f8, f9, gb0, gb7, gb9, xln, xdn, y0, y0', y2, y2', y4, y4', nv4, mv4, zyv4y0, zyv4y2, zyv4y4]
        refine EWlc_frz (w_ref17_search_used F (⟨t.t, t.p, t.g, t.partialx, t.injective, t.most, x1⟩ : Gscarfjointref17_search) A ((k : Nat) : Int) _ hq1) rfl (frzL_c (frz_ptrL (Nat.zero_le _) gb0 (frzL_c ((DataA.imm (DataL.flatMap gd_nodeC t.t.nodes)) _ _) (frzL_c ((DataA.imm (DataL.flatMap gd_edgeC t.t.edges)) _ _) (frzL_c ((DataA.imm (DataL.map (fun _ => .lit _) t.p.nodes)) _ _) (frzL_c ((DataA.imm (DataL.flatMap gd_e3C t.p.edges)) _ _) (frzL_c ((DataA.imm (DataL.map (fun _ => .lit _) t.g.nodes)) _ _) (frzL_c ((DataA.imm (DataL.flatMap gd_e3C t.g.edges)) _ _) (frzL_c ((DataA.imm (DataL.map (fun _ => .lit _) t.partialx.nodes)) _ _) (frzL_c ((DataA.imm (DataL.map (fun _ => .lit _) t.partialx.edges)) _ _) (frzL_c (.lit _) (frzL_c (.lit _) (frzL_c (ArrAt.frzle av4 (Nat.zero_le _) (DataL.flatMap gd_morphC x1)) (frzL_n))))))))))))) (frzL_c ((DataA.imm (DataL.map (fun _ => .lit _) A)) _ _) (frzL_c (.lit _) (frzL_n)))) (fun _ _ h => h) ?_
        simp [go_sem, f0, f1, f2, f6, f7, f8, f9, gb0, gb7, gb9, xln, xdn, y0, y0', y2, y2', y4, y4', nv4, mv4, zyv4y0, zyv4y2, zyv4y4]
        refine (hM _ _).2 ⟨rfl, ?_, ?_, ?_, ?_, ?_, ?_, ?_⟩ <;> simp [go_sem, f0, f1, f2, f6, f7, f8, f9, gb0, gb7, gb9, xln, xdn, y0, y0', y2, y2', y4, y4', nv4, mv4, zyv4y0, zyv4y2, zyv4y4, ← ec]
       ·have Lv4 : (x1.flatMap morphC).length = x1.length * 2 := length_flatMap (f := morphC) (sz := 2) (fun _ => rfl) _
        simp [go_sem, f0, f1, f2, f6, f7, f8, f9, gb0, gb7, gb9, xln, xdn, y0, y0', y2, y2', y4, y4', gov4, tov4, Lv4]
        refine EWlc_frz (w_ref17_search_used F (⟨t.t, t.p, t.g, t.partialx, t.injective, t.most, x1⟩ : Gscarfjointref17_search) A ((k : Nat) : Int) _ hq1) rfl (frzL_c (frz_ptrL (Nat.zero_le _) gb0 (frzL_c ((DataA.imm (DataL.flatMap gd_nodeC t.t.nodes)) _ _) (frzL_c ((DataA.imm (DataL.flatMap gd_edgeC t.t.edges)) _ _) (frzL_c ((DataA.imm (DataL.map (fun _ => .lit _) t.p.nodes)) _ _) (frzL_c ((DataA.imm (DataL.flatMap gd_e3C t.p.edges)) _ _) (frzL_c ((DataA.imm (DataL.map (fun _ => .lit _) t.g.nodes)) _ _) (frzL_c ((DataA.imm (DataL.flatMap gd_e3C t.g.edges)) _ _) (frzL_c ((DataA.imm (DataL.map (fun _ => .lit _) t.partialx.nodes)) _ _) (frzL_c ((DataA.imm (DataL.map (fun _ => .lit _) t.partialx.edges)) _ _) (frzL_c (.lit _) (frzL_c (.lit _) (frzL_c (ArrAt.frzle av4 (Nat.zero_le _) (DataL.flatMap gd_morphC x1)) (frzL_n))))))))))))) (frzL_c ((DataA.imm (DataL.map (fun _ => .lit _) A)) _ _) (frzL_c (.lit _) (frzL_n)))) (fun _ _ h => h) ?_
        simp [go_sem, f0, f1, f2, f6, f7, f8, f9, gb0, gb7, gb9, xln, xdn, y0, y0', y2, y2', y4, y4', gov4, tov4, Lv4]
        refine (hM _ _).2 ⟨rfl, ?_, ?_, ?_, ?_, ?_, ?_, ?_⟩ <;> simp [go_sem, f0, f1, f2, f6, f7, f8, f9, gb0, gb7, gb9, xln, xdn, y0, y0', y2, y2', y4, y4', gov4, tov4, Lv4, ← ec]
      ·have y4' := y4
       try simp [y0', y2'] at y4'
       have ky4 := condF ky2 y4
       obtain ⟨n4, hn4, ky4⟩ := obind ky4
       have xpn4 := getI_pos hn4
       have xln4 := getI_lt hn4
       have xin4 := getI_N hn4
       have xdn4 := getN_map AV.int xin4
       rcases Bool.eq_false_or_eq_true ((!decide (x2.src = n4))) with y6 | y6
       ·have y6' := y6
        try simp [y0', y2', y4'] at y6'
        have ky6 := condT ky4 y6
        have ec := Option.some.inj ky6
        have zv4 := av4
        rcases zv4 with ⟨rfl, nv4, mv4⟩ | ⟨ov4, rfl, gov4, tov4, lov4, hiv4⟩
        ·have zyv4y0 := y0
         try rw [nv4] at zyv4y0
         try simp only [List.length_nil, Int.natCast_zero] at zyv4y0
         have zyv4y2 := y2
         try rw [nv4] at zyv4y2
         try simp only [List.length_nil, Int.natCast_zero] at zyv4y2
         have zyv4y4 := y4
         try rw [nv4] at zyv4y4
         try simp only [List.length_nil, Int.natCast_zero] at zyv4y4
         have zyv4y6 := y6
         try rw [nv4] at zyv4y6
         try simp only [List.length_nil, Int.natCast_zero] at zyv4y6
         simp [go_sem, f0, f1, f2, f6, f7, f8, f9, gb0, gb7, gb9, xln, xdn, y0, y0', y2, y2', y4, y4', xpn4, xln4, xdn4, y6, y6', nv4, mv4, zyv4y0, zyv4y2, zyv4y4, zyv4y6]
         refine EWlc_frz (w_ref17_search_used F (⟨t.t, t.p, t.g, t.partialx, t.injective, t.most, x1⟩ : Gscarfjointref17_search) A ((k : Nat) : Int) _ hq1) rfl (frzL_c (frz_ptrL (Nat.zero_le _) gb0 (frzL_c ((DataA.imm (DataL.flatMap gd_nodeC t.t.nodes)) _ _) (frzL_c ((DataA.imm (DataL.flatMap gd_edgeC t.t.edges)) _ _) (frzL_c ((DataA.imm (DataL.map (fun _ => .lit _) t.p.nodes)) _ _) (frzL_c ((DataA.imm (DataL.flatMap gd_e3C t.p.edges)) _ _) (frzL_c ((DataA.imm (DataL.map (fun _ => .lit _) t.g.nodes)) _ _) (frzL_c ((DataA.imm (DataL.flatMap gd_e3C t.g.edges)) _ _) (frzL_c ((DataA.imm (DataL.map (fun _ => .lit _) t.partialx.nodes)) _ _) (frzL_c ((DataA.imm (DataL.map (fun _ => .lit _) t.partialx.edges)) _ _) (frzL_c (.lit _) (frzL_c (.lit _) (frzL_c (ArrAt.frzle av4 (Nat.zero_le _) (DataL.flatMap gd_morphC x1)) (frzL_n))))))))))))) (frzL_c ((DataA.imm (DataL.map (fun _ => .lit _) A)) _ _) (frzL_c (.lit _) (frzL_n)))) (fun _ _ h => h) ?_
         simp [go_sem, f0, f1, f2, f6, f7, f8, f9, gb0, gb7, gb9, xln, xdn, y0, y0', y2, y2', y4, y4', xpn4, xln4, xdn4, y6, y6', nv4, mv4, zyv4y0, zyv4y2, zyv4y4, zyv4y6]
         refine (hM _ _).2 ⟨rfl, ?_, ?_, ?_, ?_, ?_, ?_, ?_⟩ <;> simp [go_sem, f0, f1, f2, f6, f7, f8, f9, gb0, gb7, gb9, xln, xdn, y0, y0', y2, y2', y4, y4', xpn4, xln4, xdn4, y6, y6', nv4, mv4, zyv4y0, zyv4y2, zyv4y4, zyv4y6, ← ec]
        ·have Lv4 : (x1.flatMap morphC).length = x1.length * 2 := length_flatMap (f := morphC) (sz := 2) (fun _ => rfl) _
         simp [go_sem, f0, f1, f2, f6, f7, f8, f9, gb0, gb7, gb9, xln, xdn, y0, y0', y2, y2', y4, y4', xpn4, xln4, xdn4, y6, y6', gov4, tov4, Lv4]
         refine EWlc_frz (w_ref17_search_used F (⟨t.t, t.p, t.g, t.partialx, t.injective, t.most, x1⟩ : Gscarfjointref17_search) A ((k : Nat) : Int) _ hq1) rfl (frzL_c (frz_ptrL (Nat.zero_le _) gb0 (frzL_c ((DataA.imm (DataL.flatMap gd_nodeC t.t.nodes)) _ _) (frzL_c ((DataA.imm (DataL.flatMap gd_edgeC t.t.edges)) _ _) (frzL_c ((DataA.imm (DataL.map (fun _ => .lit _) t.p.nodes)) _ _) (frzL_c ((DataA.imm (DataL.flatMap gd_e3C t.p.edges)) _ _) (frzL_c ((DataA.imm (DataL.map (fun _ => .lit _) t.g.nodes)) _ _) (frzL_c ((DataA.imm (DataL.flatMap gd_e3C t.g.edges)) _ _) (frzL_c ((DataA.imm (DataL.map (fun _ => .lit _) t.partialx.nodes)) _ _) (frzL_c ((DataA.imm (DataL.map (fun _ => .lit _) t.partialx.edges)) _ _) (frzL_c (.lit _) (frzL_c (.lit _) (frzL_c (ArrAt.frzle av4 (Nat.zero_le _) (DataL.flatMap gd_morphC x1)) (frzL_n))))))))))))) (frzL_c ((DataA.imm (DataL.map (fun _ => .lit _) A)) _ _) (frzL_c (.lit _) (frzL_n)))) (fun _ _ h => h) ?_
         simp [go_sem, f0, f1, f2, f6, f7, f8, f9, gb0, gb7, gb9, xln, xdn, y0, y0', y2, y2', y4, y4', xpn4, xln4, xdn4, y6, y6', gov4, tov4, Lv4]
         refine (hM _ _).2 ⟨rfl, ?_, ?_, ?_, ?_, ?_, ?_, ?_⟩ <;> simp [go_sem, f0, f1, f2, f6, f7, f8, f9, gb0, gb7, gb9, xln, xdn, y0, y0', y2, y2', y4, y4', xpn4, xln4, xdn4, y6, y6', gov4, tov4, Lv4, ← ec]
       ·have y6' := y6
        try simp [y0', y2', y4'] at y6'
        have ky6 := condF ky4 y6
        obtain ⟨n5, hn5, ky6⟩ := obind ky6
        have xpn5 := getI_pos hn5
        have xln5 := getI_lt hn5
        have xin5 := getI_N hn5
        have xdn5 := getN_map AV.int xin5
        have ec := Option.some.inj ky6
        have zv4 := av4
        rcases zv4 with ⟨rfl, nv4, mv4⟩ | ⟨ov4, rfl, gov4, tov4, lov4, hiv4⟩
        ·have zyv4y0 := y0
         try rw [nv4] at zyv4y0
         try simp only [List.length_nil, Int.natCast_zero] at zyv4y0
         have zyv4y2 := y2
         try rw [nv4] at zyv4y2
         try simp only [List.length_nil, Int.natCast_zero] at zyv4y2
         have zyv4y4 := y4
         try rw [nv4] at zyv4y4
         try simp only [List.length_nil, Int.natCast_zero] at zyv4y4
         have zyv4y6 := y6
         try rw [nv4] at zyv4y6
         try simp only [List.length_nil, Int.natCast_zero] at zyv4y6
         simp [go_sem, f0, f1, f2, f6, f7, f8, f9, gb0, gb7, gb9, xln, xdn, y0, y0', y2, y2', y4, y4', xpn4, xln4, xdn4, y6, y6', xpn5, xln5, xdn5, nv4, mv4, zyv4y0, zyv4y2, zyv4y4, zyv4y6]
         refine EWlc_frz (w_ref17_search_used F (⟨t.t, t.p, t.g, t.partialx, t.injective, t.most, x1⟩ : Gscarfjointref17_search) A ((k : Nat) : Int) _ hq1) rfl (frzL_c (frz_ptrL (Nat.zero_le _) gb0 (frzL_c ((DataA.imm (DataL.flatMap gd_nodeC t.t.nodes)) _ _) (frzL_c ((DataA.imm (DataL.flatMap gd_edgeC t.t.edges)) _ _) (frzL_c ((DataA.imm (DataL.map (fun _ => .lit _) t.p.nodes)) _ _) (frzL_c ((DataA.imm (DataL.flatMap gd_e3C t.p.edges)) _ _) (frzL_c ((DataA.imm (DataL.map (fun _ => .lit _) t.g.nodes)) _ _) (frzL_c ((DataA.imm (DataL.flatMap gd_e3C t.g.edges)) _ _) (frzL_c ((DataA.imm (DataL.map (fun _ => .lit _) t.partialx.nodes)) _ _) (frzL_c ((DataA.imm (DataL.map (fun _ => .lit _) t.partialx.edges)) _ _) (frzL_c (.lit _) (frzL_c (.lit _) (frzL_c (ArrAt.frzle av4 (Nat.zero_le _) (DataL.flatMap gd_morphC x1)) (frzL_n))))))))))))) (frzL_c ((DataA.imm (DataL.map (fun _ => .lit _) A)) _ _) (frzL_c (.lit _) (frzL_n)))) (fun _ _ h => h) ?_
         simp [go_sem, f0, f1, f2, f6, f7, f8, f9, gb0, gb7, gb9, xln, xdn, y0, y0', y2, y2', y4, y4', xpn4, xln4, xdn4, y6, y6', xpn5, xln5, xdn5, nv4, mv4, zyv4y0, zyv4y2, zyv4y4, zyv4y6]
         refine (hM _ _).2 ⟨rfl, ?_, ?_, ?_, ?_, ?_, ?_, ?_⟩ <;> simp [go_sem, f0, f1, f2, f6, f7, f8, f9, gb0, gb7, gb9, xln, xdn, y0, y0', y2, y2', y4, y4', xpn4, xln4, xdn4, y6, y6', xpn5, xln5, xdn5, nv4, mv4, zyv4y0, zyv4y2, zyv4y4, zyv4y6, ← ec]
        ·have Lv4 : (x1.flatMap morphC).length = x1.length * 2 := length_flatMap (f := morphC) (sz := 2) (fun _ => rfl) _
         simp [go_sem, f0, f1, f2, f6, f7, f8, f9, gb0, gb7, gb9, xln, xdn, y0, y0', y2, y2', y4, y4', xpn4, xln4, xdn4, y6, y6', xpn5, xln5, xdn5, gov4, tov4, Lv4]
         refine EWlc_frz (w_ref17_search_used F (⟨t.t, t.p, t.g, t.partialx, t.injective, t.most, x1⟩ : Gscarfjointref17_search) A ((k : Nat) : Int) _ hq1) rfl (frzL_c (frz_ptrL (Nat.zero_le _) gb0 (frzL_c ((DataA.imm (DataL.flatMap gd_nodeC t.t.nodes)) _ _) (frzL_c ((DataA.imm (DataL.flatMap gd_edgeC t.t.edges)) _ _) (frzL_c ((DataA.imm (DataL.map (fun _ => .lit _) t.p.nodes)) _ _) (frzL_c ((DataA.imm (DataL.flatMap gd_e3C t.p.edges)) _ _) (frzL_c ((DataA.imm (DataL.map (fun _ => .lit _) t.g.nodes)) _ _) (frzL_c ((DataA.imm (DataL.flatMap gd_e3C t.g.edges)) _ _) (frzL_c ((DataA.imm (DataL.map (fun _ => .lit _) t.partialx.nodes)) _ _) (frzL_c ((DataA.imm (DataL.map (fun _ => .lit _) t.partialx.edges)) _ _) (frzL_c (.lit _) (frzL_c (.lit _) (frzL_c (ArrAt.frzle av4 (Nat.zero_le _) (DataL.flatMap gd_morphC x1)) (frzL_n))))))))))))) (frzL_c ((DataA.imm (DataL.map (fun _ => .lit _) A)) _ _) (frzL_c (.lit _) (frzL_n)))) (fun _ _ h => h) ?_
         simp [go_sem, f0, f1, f2, f6, f7, f8, f9, gb0, gb7, gb9, xln, xdn, y0, y0', y2, y2', y4, y4', xpn4, xln4, xdn4, y6, y6', xpn5, xln5, xdn5, gov4, tov4, Lv4]
         refine (hM _ _).2 ⟨rfl, ?_, ?_, ?_, ?_, ?_, ?_, ?_⟩ <;> simp [go_sem, f0, f1, f2, f6, f7, f8, f9, gb0, gb7, gb9, xln, xdn, y0, y0', y2, y2', y4, y4', xpn4, xln4, xdn4, y6, y6', xpn5, xln5, xdn5, gov4, tov4, Lv4, ← ec]
   clear f0 f1 f2 f6 f7 f8 f9
   obtain ⟨rfl, f0, f1, f2, f6, f7, f8, f125⟩ := hm
   refine SW.cond _ f125 (fun hx3 => ?_) (fun hx3 => ?_)
   ·have hbi := condT hbi hx3
    refine SW.exit rfl ?_
    refine SW.regX (fun f_ t_ => τ4 = t_ ∧ f_ 0 = AV.ptr b0 0 ∧ f_ 1 = intsA (o) ∧ f_ 2 = intsA (A) ∧ f_ 6 = AV.int (((A.length : Nat) : Int)) ∧ f_ 7 = AV.ptr b7 0 ∧ f_ 8 = AV.int (((k + 1 : Nat) : Int))) (fun M hM => ?_) (fun fr11 τz6 hm => ?_)
    ·simp [go_sem, f0, f1, f125, f2, f6, f7, f8, gb0, gb7, hwk]
     refine (hM _ _).2 ⟨rfl, ?_, ?_, ?_, ?_, ?_, ?_⟩ <;> simp [go_sem, f0, f1, f125, f2, f6, f7, f8, gb0, gb7, hwk]
    clear f0 f1 f125 f2 f6 f7 f8
    obtain ⟨rfl, f0, f1, f2, f6, f7, f8⟩ := hm
    obtain rfl := Option.some.inj hbi
    exact SW.goal ⟨t.g.edges.length - (k + 1), by omega, (hJ _ _ _).2 ⟨k + 1, x1, v4, rfl, hci, f0, f1, f2, f6, f7, f8, hK, hN, gb0, ub0, gb7, ub7, av4, ev4b0, ev4b7⟩⟩
   have hbi := condF hbi hx3
   refine SW.skip ?_
   refine SW.region0 ?_
   obtain ⟨a3, ha3, hbi⟩ := obind hbi
   obtain ⟨la3, ea3⟩ := catL_spec ha3
   obtain ⟨a4, ha4, hbi⟩ := obind hbi
   obtain ⟨la4, ea4⟩ := catL_spec ha4
   refine SW.opsX 8 (fun f_ t_ => ∃ v5 : AV, f_ 0 = AV.ptr b0 0 ∧ f_ 1 = intsA (o) ∧ f_ 2 = intsA (A) ∧ f_ 6 = AV.int (((A.length : Nat) : Int)) ∧ f_ 7 = AV.ptr b7 0 ∧ f_ 8 = AV.int (((k : Nat) : Int)) ∧ f_ 126 = AV.ptr b0 0 ∧ f_ 127 = intsA (o) ∧ f_ 133 = v5 ∧ Kept σ0 t_ ∧ σ0.next ≤ t_.next ∧ t_.get b0 = some [nodesA (t.t.nodes), edgesA (t.t.edges), intsA (t.p.nodes), e3sA (t.p.edges), intsA (t.g.nodes), e3sA (t.g.edges), intsA (t.partialx.nodes), intsA (t.partialx.edges), AV.bool (t.injective), AV.int (t.most), v4] ∧ b0 < t_.next ∧ t_.get b7 = some [AV.int (x.kind), AV.int (x.src), AV.int (x.tgt)] ∧ b7 < t_.next ∧ ArrAt σ0.next t_ v5 3 (a4.map AV.int) a4.length 1 ∧ ArrAt σ0.next t_ v4 33 (x1.flatMap morphC) x1.length 2 ∧ (∀ i, idOf v5 = some i → ¬ i = b0) ∧ (∀ i, idOf v5 = some i → ¬ i = b7) ∧ Apart v5 v4) (fun M hM => ?_) (fun fr12 τ5 hm => ?_)
   ·have nb0_0 : ¬ b0 = τ4.next := by omega
    have nb0_1 : ¬ b0 = τ4.next + 1 := by omega
    have nb0_2 : ¬ b0 = τ4.next + 2 := by omega
    have nb0_3 : ¬ b0 = τ4.next + 3 := by omega
    have nb7_0 : ¬ b7 = τ4.next := by omega
    have nb7_1 : ¬ b7 = τ4.next + 1 := by omega
    have nb7_2 : ¬ b7 = τ4.next + 2 := by omega
    have nb7_3 : ¬ b7 = τ4.next + 3 := by omega
    have ca3_0 : A.length ≤ 9223372036854775807 := by have c_ := la3; (try simp at c_); omega
    have ca3_1 : A.length * 8 ≤ 140737488355328 := by have c_ := la3; (try simp at c_); omega
    have ca4_0 : A.length + 1 ≤ 9223372036854775807 := by have c_ := la4; rw [ea3] at c_; (try simp at c_); omega
    have ca4_1 : (A.length + 1) * 8 ≤ 140737488355328 := by have c_ := la4; rw [ea3] at c_; (try simp at c_); omega
    simp [go_sem, f0, f1, f125, f2, f6, f7, f8, gb0, gb7, nb0_0, nb0_1, nb0_2, nb0_3, nb7_0, nb7_1, nb7_2, nb7_3, ca3_0, ca3_1, ca4_0, ca4_1]
    refine (hM _ _).2 ⟨AV.arr (τ4.next + 3) 0 a4.length 1, ?_, ?_, ?_, ?_, ?_, ?_, ?_, ?_, ?_, by intro j hj; have hj_ := hK j hj; simp [go_sem, hj_.1, hj_.2, show ¬ j = τ4.next by omega, show ¬ j = τ4.next + 1 by omega, show ¬ j = τ4.next + 2 by omega, show ¬ j = τ4.next + 3 by omega], by first | omega | (simp [go_sem]; done) | (simp [go_sem]; omega), by simp (disch := omega) [get_alloc_ne, get_set_ne, get_kill_ne, go_sem, f0, f1, f125, f2, f6, f7, f8, gb0, gb7, nb0_0, nb0_1, nb0_2, nb0_3, nb7_0, nb7_1, nb7_2, nb7_3, ca3_0, ca3_1, ca4_0, ca4_1, ea3, ea4], by first | omega | (simp [go_sem]; done) | (simp [go_sem]; omega), by simp (disch := omega) [get_alloc_ne, get_set_ne, get_kill_ne, go_sem, f0, f1, f125, f2, f6, f7, f8, gb0, gb7, nb0_0, nb0_1, nb0_2, nb0_3, nb7_0, nb7_1, nb7_2, nb7_3, ca3_0, ca3_1, ca4_0, ca4_1, ea3, ea4], by first | omega | (simp [go_sem]; done) | (simp [go_sem]; omega), .inr ⟨(τ4.next + 3), rfl, by simp (disch := omega) [get_alloc_ne, get_set_ne, get_kill_ne, go_sem, f0, f1, f125, f2, f6, f7, f8, gb0, gb7, nb0_0, nb0_1, nb0_2, nb0_3, nb7_0, nb7_1, nb7_2, nb7_3, ca3_0, ca3_1, ca4_0, ca4_1, ea3, ea4], by simp [go_sem, f0, f1, f125, f2, f6, f7, f8, gb0, gb7, nb0_0, nb0_1, nb0_2, nb0_3, nb7_0, nb7_1, nb7_2, nb7_3, ca3_0, ca3_1, ca4_0, ca4_1, ea3, ea4], by omega, by first | (simp [go_sem]; done) | (simp [go_sem]; omega)⟩, av4.same' (by simp [go_sem]; try omega) (fun i hi => by have zl := arrAt_lt av4 i hi; have zi0 : ¬ i = τ4.next := (by omega); have zi1 : ¬ i = τ4.next + 1 := (by omega); have zi2 : ¬ i = τ4.next + 2 := (by omega); have zi3 : ¬ i = τ4.next + 3 := (by omega); constructor <;> simp [go_sem, zi0, zi1, zi2, zi3]), by intro i hi; first | (simp [idOf] at hi; done) | (simp [idOf] at hi; omega), by intro i hi; first | (simp [idOf] at hi; done) | (simp [idOf] at hi; omega), by first | exact ev5v4 | exact apart_symm ev4v5 | (intro i h1 h2; simp [idOf] at h1; done) | (intro i h1 h2; simp [idOf] at h2; done) | (intro i h1 h2; simp [idOf] at h1; have := arrAt_lt av4 i h2; omega)⟩ <;> simp [go_sem, f0, f1, f125, f2, f6, f7, f8, gb0, gb7, nb0_0, nb0_1, nb0_2, nb0_3, nb7_0, nb7_1, nb7_2, nb7_3, ca3_0, ca3_1, ca4_0, ca4_1, ea3, ea4]
   clear f0 f1 f125 f2 f6 f7 f8 hK hN gb0 ub0 gb7 ub7 av4
   obtain ⟨v5, f0, f1, f2, f6, f7, f8, f126, f127, f133, hK, hN, gb0, ub0, gb7, ub7, av5, av4, ev5b0, ev5b7, ev5v4⟩ := hm
   refine SW.frzT 133 av5 f133 ?_
   obtain ⟨fr13, hfr⟩ : ∃ x, x = upd fr12 133 (AV.imm a4.length (a4.map AV.int)) := ⟨_, rfl⟩
   rw [show upd fr12 133 _ = fr13 from hfr.symm]
   have f0 : fr13 0 = AV.ptr b0 0 := by rw [hfr]; simp [upd, f0]
   have f1 : fr13 1 = intsA (o) := by rw [hfr]; simp [upd, f1]
   have f2 : fr13 2 = intsA (A) := by rw [hfr]; simp [upd, f2]
   have f6 : fr13 6 = AV.int (((A.length : Nat) : Int)) := by rw [hfr]; simp [upd, f6]
   have f7 : fr13 7 = AV.ptr b7 0 := by rw [hfr]; simp [upd, f7]
   have f8 : fr13 8 = AV.int (((k : Nat) : Int)) := by rw [hfr]; simp [upd, f8]
   have f126 : fr13 126 = AV.ptr b0 0 := by rw [hfr]; simp [upd, f126]
   have f127 : fr13 127 = intsA (o) := by rw [hfr]; simp [upd, f127]
   have f133 : fr13 133 = intsA (a4) := by rw [hfr]; exact if_pos rfl
   clear hfr
   obtain ⟨τ6, hτ⟩ : ∃ x, x = (τ5.killA v5) := ⟨_, rfl⟩
   rw [← hτ]
   have hK : Kept σ0 τ6 := by rw [hτ]; exact hK.killA av5
   have hN : σ0.next ≤ τ6.next := by rw [hτ]; simp only [next_set, killA_next]; exact hN
   have gb0 : τ6.get b0 = some [nodesA (t.t.nodes), edgesA (t.t.edges), intsA (t.p.nodes), e3sA (t.p.edges), intsA (t.g.nodes), e3sA (t.g.edges), intsA (t.partialx.nodes), intsA (t.partialx.edges), AV.bool (t.injective), AV.int (t.most), v4] := by rw [hτ, killA_get _ _ (fun h => ev5b0 _ h rfl)]; exact gb0
   have ub0 : b0 < τ6.next := by rw [hτ]; simp only [next_set, killA_next]; exact ub0
   have gb7 : τ6.get b7 = some [AV.int (x.kind), AV.int (x.src), AV.int (x.tgt)] := by rw [hτ, killA_get _ _ (fun h => ev5b7 _ h rfl)]; exact gb7
   have ub7 : b7 < τ6.next := by rw [hτ]; simp only [next_set, killA_next]; exact ub7
   have av4 : ArrAt σ0.next τ6 v4 33 (x1.flatMap morphC) x1.length 2 := by rw [hτ]; exact av4.killA (by first | exact ev4v5 | exact apart_symm ev5v4)
   clear hτ
   obtain ⟨rx, hrx, hbi⟩ := obind hbi
   refine SW.opsX 1 (fun f_ t_ => ∃ v7 : AV, f_ 0 = AV.ptr b0 0 ∧ f_ 1 = intsA (o) ∧ f_ 2 = intsA (A) ∧ f_ 6 = AV.int (((A.length : Nat) : Int)) ∧ f_ 7 = AV.ptr b7 0 ∧ f_ 8 = AV.int (((k : Nat) : Int)) ∧ Kept σ0 t_ ∧ σ0.next ≤ t_.next ∧ t_.get b0 = some [nodesA (t.t.nodes), edgesA (t.t.edges), intsA (t.p.nodes), e3sA (t.p.edges), intsA (t.g.nodes), e3sA (t.g.edges), intsA (t.partialx.nodes), intsA (t.partialx.edges), AV.bool (t.injective), AV.int (t.most), v7] ∧ b0 < t_.next ∧ t_.get b7 = some [AV.int (x.kind), AV.int (x.src), AV.int (x.tgt)] ∧ b7 < t_.next ∧ ArrAt σ0.next t_ v7 33 (rx.flatMap morphC) rx.length 2 ∧ (∀ i, idOf v7 = some i → ¬ i = b0) ∧ (∀ i, idOf v7 = some i → ¬ i = b7)) (fun M hM => ?_) (fun fr14 τ7 hm => ?_)
   ·simp [go_sem, f0, f1, f126, f127, f133, f2, f6, f7, f8, gb0, gb7]
    refine EWcall_of (callA_io (n1 := σ0.next) (ags := [.inl 0, .inr (intsA (o)), .inr (intsA (a4))]) (sss := [sl_Gscarfjointref17_search (⟨t.t, t.p, t.g, t.partialx, t.injective, t.most, x1⟩ : Gscarfjointref17_search)]) (fun σ0_ σ1_ bs_ hK_ hN_ hl_ hB_ => ic_ref17_search_edges F (⟨t.t, t.p, t.g, t.partialx, t.injective, t.most, x1⟩ : Gscarfjointref17_search) o a4 _ hrx σ0_ σ1_ bs_ hl_ hK_ hN_ hB_) (ok_sl_Gscarfjointref17_search _) (oka_p Nat.zero_lt_one (oka_d (noId_imm _ _) (oka_d (noId_imm _ _) (oka_n)))) (boxes1 wb0 ub0 gb0 rfl (sl_d (sl_d (sl_d (sl_d (sl_d (sl_d (sl_d (sl_d (sl_d (sl_d (sl_o av4 ev4b0 (ap_n) (sl_n))))))))))))) rfl) ?_
    rintro xq τc ⟨rfl, hB_, kc, nc⟩
    have kf : ∀ i, i < τ6.next → ¬ i = b0 → (idOf v4 = some i → False) → τc.get i = τ6.get i ∧ τc.ty i = τ6.ty i := fun i hi hb_ h0_ => kc i hi (fun hm => hb_ (List.mem_singleton.1 hm)) (foot1 gb0 (ft_d rfl (ft_d rfl (ft_d rfl (ft_d rfl (ft_d rfl (ft_d rfl (ft_d rfl (ft_d rfl (ft_d rfl (ft_d rfl (ft_o h0_ (ft_n)))))))))))))
    have ga_ := And.intro gb0 ub0
    have hK : Kept σ0 τc := fun i hi => by have kq := kf i (Nat.lt_of_lt_of_le hi hN) (by omega) (fun h_ => by have := arrAt_lt av4 i h_; omega); exact ⟨kq.1.trans (hK i hi).1, kq.2.trans (hK i hi).2⟩
    have hN0 := hN
    have hN := Nat.le_trans hN nc
    clear ga_
    obtain ⟨wb0, ub0_, xs_, gb0, hs_0⟩ := boxes1_of hB_
    clear hB_
    obtain ⟨_, rfl, hs_1⟩ := slots_dat hs_0
    clear hs_0
    obtain ⟨_, rfl, hs_2⟩ := slots_dat hs_1
    clear hs_1
    obtain ⟨_, rfl, hs_3⟩ := slots_dat hs_2
    clear hs_2
    obtain ⟨_, rfl, hs_4⟩ := slots_dat hs_3
    clear hs_3
    obtain ⟨_, rfl, hs_5⟩ := slots_dat hs_4
    clear hs_4
    obtain ⟨_, rfl, hs_6⟩ := slots_dat hs_5
    clear hs_5
    obtain ⟨_, rfl, hs_7⟩ := slots_dat hs_6
    clear hs_6
    obtain ⟨_, rfl, hs_8⟩ := slots_dat hs_7
    clear hs_7
    obtain ⟨_, rfl, hs_9⟩ := slots_dat hs_8
    clear hs_8
    obtain ⟨_, rfl, hs_10⟩ := slots_dat hs_9
    clear hs_9
    obtain ⟨v6, _, rfl, av6, iv6, pv6, hs_11⟩ := slots_own hs_10
    clear hs_10
    obtain rfl := slots_nil hs_11
    clear hs_11
    have gb0 : τc.get b0 = some [nodesA (t.t.nodes), edgesA (t.t.edges), intsA (t.p.nodes), e3sA (t.p.edges), intsA (t.g.nodes), e3sA (t.g.edges), intsA (t.partialx.nodes), intsA (t.partialx.edges), AV.bool (t.injective), AV.int (t.most), v6] := gb0
    have ev6b0 : ∀ i, idOf v6 = some i → ¬ i = b0 := fun i hi h => iv6 i hi (List.mem_singleton.2 h)
    have ev6b7 : ∀ i, idOf v6 = some i → ¬ i = b7 := fun i hi => by have := arrAt_lt av6 i hi; omega
    have gb7 := (kf b7 ub7 (by first | exact eb7b0 | exact fun e => eb0b7 e.symm) (fun h_ => ev4b7 _ h_ rfl)).1.trans gb7
    have vb7_ := ub7
    have ub7 := Nat.lt_of_lt_of_le ub7 nc
    have ub0 := ub0_
    have av6 := av6.lo (n1 := σ0.next) (by omega)
    simp [go_sem, f0, f1, f126, f127, f133, f2, f6, f7, f8, gb0, gb7]
    refine (hM _ _).2 ⟨v6, ?_, ?_, ?_, ?_, ?_, ?_, by intro j hj; have hj_ := hK j hj; simp [go_sem, hj_.1, hj_.2], by first | omega | (simp [go_sem]; done) | (simp [go_sem]; omega), by simp (disch := omega) [get_alloc_ne, get_set_ne, get_kill_ne, go_sem, f0, f1, f126, f127, f133, f2, f6, f7, f8, gb0, gb7], by first | omega | (simp [go_sem]; done) | (simp [go_sem]; omega), by simp (disch := omega) [get_alloc_ne, get_set_ne, get_kill_ne, go_sem, f0, f1, f126, f127, f133, f2, f6, f7, f8, gb0, gb7], by first | omega | (simp [go_sem]; done) | (simp [go_sem]; omega), av6, by first | exact ev6b0 | (intro i hi; have := arrAt_lt av6 i hi; omega), by first | exact ev6b7 | (intro i hi; have := arrAt_lt av6 i hi; omega)⟩ <;> simp [go_sem, f0, f1, f126, f127, f133, f2, f6, f7, f8, gb0, gb7]
   clear f0 f1 f126 f127 f133 f2 f6 f7 f8 hK hN gb0 ub0 gb7 ub7 av4
   obtain ⟨v7, f0, f1, f2, f6, f7, f8, hK, hN, gb0, ub0, gb7, ub7, av7, ev7b0, ev7b7⟩ := hm
   refine SW.opsEnd rfl ?_
   refine SW.blk ?_
   refine SW.regX (fun f_ t_ => τ7 = t_ ∧ f_ 0 = AV.ptr b0 0 ∧ f_ 1 = intsA (o) ∧ f_ 2 = intsA (A) ∧ f_ 6 = AV.int (((A.length : Nat) : Int)) ∧ f_ 7 = AV.ptr b7 0 ∧ f_ 8 = AV.int (((k + 1 : Nat) : Int))) (fun M hM => ?_) (fun fr15 τz7 hm => ?_)
   ·simp [go_sem, f0, f1, f2, f6, f7, f8, gb0, gb7, hwk]
    refine (hM _ _).2 ⟨rfl, ?_, ?_, ?_, ?_, ?_, ?_⟩ <;> simp [go_sem, f0, f1, f2, f6, f7, f8, gb0, gb7, hwk]
   clear f0 f1 f2 f6 f7 f8
   obtain ⟨rfl, f0, f1, f2, f6, f7, f8⟩ := hm
   obtain rfl := Option.some.inj hbi
   exact SW.goal ⟨t.g.edges.length - (k + 1), by omega, (hJ _ _ _).2 ⟨k + 1, rx, v7, rfl, hci, f0, f1, f2, f6, f7, f8, hK, hN, gb0, ub0, gb7, ub7, av7, ev7b0, ev7b7⟩⟩
  intro fr16 τ8 hm
  rw [hKL] at hm
  clear hKL hruni
  clear f0 f1 f2 f6 f7 f8 hK hN gb0 ub0 gb7 ub7 av
  obtain ⟨x1, v4, rfl, hK, hN, gb0, ub0, av4, ev4b0⟩ := hm
  simp only [Out.on] at hoi
  obtain rfl := Option.some.inj hoi
  exact SW.nil ⟨AV.tup [], by simp [go_sem, gb0], rfl, boxes1 wb0 ub0 gb0 rfl (sl_d (sl_d (sl_d (sl_d (sl_d (sl_d (sl_d (sl_d (sl_d (sl_d (sl_o av4 ev4b0 (ap_n) (sl_n)))))))))))), hK, hN⟩
end Go.Proofs.YtdacgjleiloooaaGreat
