/-
  Plain functions and the walks that lead to them, by a program of ours (gen.py): (*scarfjoint/scarfjointref17.search).nodes, scarfjoint/scarfjointref17.run.
-/
import Derived.Test.YtdacgjleiloooaaGreatGd
import Derived.Test.YtdacgjleiloooaaGreatGT
import Derived.Test.YtdacgjleiloooaaGreatB3
import Derived.Test.YtdacgjleiloooaaGreatGS
import Derived.Test.YtdacgjleiloooaaGreatGa13
import Derived.Test.YtdacgjleiloooaaGreatGa14
import Derived.Test.YtdacgjleiloooaaGreatGa5
set_option linter.unusedSimpArgs false
set_option linter.unusedVariables false
namespace Go.Proofs.YtdacgjleiloooaaGreat
open Go Go.Ew Go.Proofs Go.RowKit
set_option maxRecDepth 100000
set_option maxHeartbeats 4000000 in
theorem ic_ref17_search_nodes : ∀ (F : Nat) (t : Gscarfjointref17_search) (o : List Int) (r : ((List Morph))) (_ : s_ref17_search_nodes F t o = some r) (σ0 σ1 : Mem) (bs : List Nat) (hl : bs.length = 1) (hK : Kept σ0 σ1) (hN : σ0.next ≤ σ1.next) (hB : BoxesAt σ0.next σ0.next σ1 bs [sl_Gscarfjointref17_search t]), CallA Tryz.prog 64 (List.map (argA bs) [.inl 0, .inr (intsA (o))]) σ1 (fun y τ => y = AV.tup [] ∧ BoxesAt σ0.next σ0.next τ bs [sl_Gscarfjointref17_search (⟨t.t, t.p, t.g, t.partialx, t.injective, t.most, r⟩ : Gscarfjointref17_search)] ∧ Kept σ0 τ ∧ σ0.next ≤ τ.next)
 | 0, _, _, _, h, _, _, _, _, _, _, _ => by cases h
 | F + 1, t, o, r, h, σ0, σ1, bs, hl, hK, hN, hB => by
  obtain ⟨b0, rfl⟩ := boxes1_len hl hB
  clear hl
  obtain ⟨wb0, ub0, xs_, gb0, hs_0⟩ := boxes1_of hB
  clear hB
  obtain ⟨_, rfl, hs_1⟩ := slots_dat hs_0
  clear hs_0
  obtain ⟨_, rfl, hs_2⟩ := slots_dat hs_1
  clear hs_1
  obtain ⟨_, rfl, hs_3⟩ := slots_dat hs_2
  clear hs_2
  obtain ⟨_, rfl, hs_4⟩ := slots_dat hs_3
  clear hs_3
  obtain ⟨_, rfl, hs_5⟩ := slots_dat hs_4
  clear hs_4
  obtain ⟨_, rfl, hs_6⟩ := slots_dat hs_5
  clear hs_5
  obtain ⟨_, rfl, hs_7⟩ := slots_dat hs_6
  clear hs_6
  obtain ⟨_, rfl, hs_8⟩ := slots_dat hs_7
  clear hs_7
  obtain ⟨_, rfl, hs_9⟩ := slots_dat hs_8
  clear hs_8
  obtain ⟨_, rfl, hs_10⟩ := slots_dat hs_9
  clear hs_9
  obtain ⟨v, _, rfl, av, iv, pv, hs_11⟩ := slots_own hs_10
  clear hs_10
  obtain rfl := slots_nil hs_11
  clear hs_11
  have evb0 : ∀ i, idOf v = some i → ¬ i = b0 := fun i hi h => iv i hi (List.mem_singleton.2 h)
  clear iv pv
  show CallA Tryz.prog 64 [AV.ptr b0 0, intsA (o)] σ1 _
  refine callA_of_SW (N := 104) Tryz.func64 (by kernel_rfl) rfl (by rw [Tryz.ntmps64]; rfl) ?_
  rw [Tryz.results64]
  obtain ⟨fr0, hfr⟩ : ∃ fr, fr = initFr [AV.ptr b0 0, intsA (o)] := ⟨_, rfl⟩
  rw [← hfr]
  have f0 : fr0 0 = AV.ptr b0 0 := by rw [hfr]; rfl
  have f1 : fr0 1 = intsA (o) := by rw [hfr]; rfl
  clear hfr
  simp only [s_ref17_search_nodes] at h
  refine SW.seq ?_
  refine SW.seq ?_
  obtain ⟨c, hc, h⟩ := obind h
  refine SW.regX (fun f_ t_ => σ1 = t_ ∧ f_ 0 = AV.ptr b0 0 ∧ f_ 1 = intsA (o) ∧ f_ 21 = AV.bool (c)) (fun M hM => ?_) (fun fr1 τz hm => ?_)
  ·refine EW_regionI σ1 (by kernel_rfl) (by kernel_rfl) (fun _ _ h => h) (fun hfin => ?_)
   rcases Bool.eq_false_or_eq_true ((decide (t.most < ((t.found.length : Nat) : Int)))) with y0 | y0
   ·have y0' := y0
    try simp at y0'
    have ky0 := condT hc y0
    have ec := Option.some.inj ky0
    have zv := av
    rcases zv with ⟨rfl, nv, mv⟩ | ⟨ov, rfl, gov, tov, lov, hiv⟩
    ·have zyvy0 := y0
     try rw [nv] at zyvy0
     try simp only [List.length_nil, Int.natCast_zero] at zyvy0
     simp [go_sem, f0, f1, gb0, y0, y0', nv, mv, zyvy0]
     refine (hM _ _).2 ⟨rfl, ?_, ?_, ?_⟩ <;> simp [go_sem, f0, f1, gb0, y0, y0', nv, mv, zyvy0, ← ec]
    ·have Lv : (t.found.flatMap morphC).length = t.found.length * 2 := length_flatMap (f := morphC) (sz := 2) (fun _ => rfl) _
     simp [go_sem, f0, f1, gb0, y0, y0', gov, tov, Lv]
     refine (hM _ _).2 ⟨rfl, ?_, ?_, ?_⟩ <;> simp [go_sem, f0, f1, gb0, y0, y0', gov, tov, Lv, ← ec]
   ·have y0' := y0
    try simp at y0'
    have ky0 := condF hc y0
    obtain ⟨q, hq, ky0⟩ := obind ky0
    have ec := Option.some.inj ky0
    have zv := av
    rcases zv with ⟨rfl, nv, mv⟩ | ⟨ov, rfl, gov, tov, lov, hiv⟩
    ·have zyvy0 := y0
     try rw [nv] at zyvy0
     try simp only [List.length_nil, Int.natCast_zero] at zyvy0
     simp [go_sem, f0, f1, gb0, y0, y0', nv, mv, zyvy0]
     refine EWlc_frz (w_ref17_search_fits t o _ hq) rfl (frzL_c (frz_ptrL (Nat.zero_le _) gb0 (frzL_c ((DataA.imm (DataL.flatMap gd_nodeC t.t.nodes)) _ _) (frzL_c ((DataA.imm (DataL.flatMap gd_edgeC t.t.edges)) _ _) (frzL_c ((DataA.imm (DataL.map (fun _ => .lit _) t.p.nodes)) _ _) (frzL_c ((DataA.imm (DataL.flatMap gd_e3C t.p.edges)) _ _) (frzL_c ((DataA.imm (DataL.map (fun _ => .lit _) t.g.nodes)) _ _) (frzL_c ((DataA.imm (DataL.flatMap gd_e3C t.g.edges)) _ _) (frzL_c ((DataA.imm (DataL.map (fun _ => .lit _) t.partialx.nodes)) _ _) (frzL_c ((DataA.imm (DataL.map (fun _ => .lit _) t.partialx.edges)) _ _) (frzL_c (.lit _) (frzL_c (.lit _) (frzL_c (ArrAt.frzle av (Nat.zero_le _) (DataL.flatMap gd_morphC t.found)) (frzL_n))))))))))))) (frzL_c ((DataA.imm (DataL.map (fun _ => .lit _) o)) _ _) (frzL_n))) (fun _ _ h => h) ?_
     simp [go_sem, f0, f1, gb0, y0, y0', nv, mv, zyvy0]
     refine (hM _ _).2 ⟨rfl, ?_, ?_, ?_⟩ <;> simp [go_sem, f0, f1, gb0, y0, y0', nv, mv, zyvy0, ← ec]
    ·have Lv : (t.found.flatMap morphC).length = t.found.length * 2 := length_flatMap (f := morphC) (sz := 2) (fun _ => rfl) _
     simp [go_sem, f0, f1, gb0, y0, y0', gov, tov, Lv]
     refine EWlc_frz (w_ref17_search_fits t o _ hq) rfl (frzL_c (frz_ptrL (Nat.zero_le _) gb0 (frzL_c ((DataA.imm (DataL.flatMap gd_nodeC t.t.nodes)) _ _) (frzL_c ((DataA.imm (DataL.flatMap gd_edgeC t.t.edges)) _ _) (frzL_c ((DataA.imm (DataL.map (fun _ => .lit _) t.p.nodes)) _ _) (frzL_c ((DataA.imm (DataL.flatMap gd_e3C t.p.edges)) _ _) (frzL_c ((DataA.imm (DataL.map (fun _ => .lit _) t.g.nodes)) _ _) (frzL_c ((DataA.imm (DataL.flatMap gd_e3C t.g.edges)) _ _) (frzL_c ((DataA.imm (DataL.map (fun _ => .lit _) t.partialx.nodes)) _ _) (frzL_c ((DataA.imm (DataL.map (fun _ => .lit _) t.partialx.edges)) _ _) (frzL_c (.lit _) (frzL_c (.lit _) (frzL_c (ArrAt.frzle av (Nat.zero_le _) (DataL.flatMap gd_morphC t.found)) (frzL_n))))))))))))) (frzL_c ((DataA.imm (DataL.map (fun _ => .lit _) o)) _ _) (frzL_n))) (fun _ _ h => h) ?_
     simp [go_sem, f0, f1, gb0, y0, y0', gov, tov, Lv]
     refine (hM _ _).2 ⟨rfl, ?_, ?_, ?_⟩ <;> simp [go_sem, f0, f1, gb0, y0, y0', gov, tov, Lv, ← ec]
  clear f0 f1
  obtain ⟨rfl, f0, f1, f21⟩ := hm
  refine SW.cond _ f21 (fun hx => ?_) (fun hx => ?_)
  ·have h := condT h hx
   obtain rfl := Option.some.inj h
   exact SW.ret ⟨AV.tup [], by simp [go_sem, f0, f1, f21, gb0], rfl, boxes1 wb0 ub0 gb0 rfl (sl_d (sl_d (sl_d (sl_d (sl_d (sl_d (sl_d (sl_d (sl_d (sl_d (sl_o av evb0 (ap_n) (sl_n)))))))))))), hK, hN⟩
  have h := condF h hx
  refine SW.skip ?_
  refine SW.seq ?_
  refine SW.regX (fun f_ t_ => σ1 = t_ ∧ f_ 0 = AV.ptr b0 0 ∧ f_ 1 = intsA (o) ∧ f_ 4 = AV.int (((o.length : Nat) : Int))) (fun M hM => ?_) (fun fr2 τz1 hm => ?_)
  ·simp [go_sem, f0, f1, f21, gb0]
   refine (hM _ _).2 ⟨rfl, ?_, ?_, ?_⟩ <;> simp [go_sem, f0, f1, f21, gb0]
  clear f0 f1 f21
  obtain ⟨rfl, f0, f1, f4⟩ := hm
  refine SW.seq ?_
  refine SW.seq ?_
  refine SW.regX (fun f_ t_ => σ1 = t_ ∧ f_ 0 = AV.ptr b0 0 ∧ f_ 1 = intsA (o) ∧ f_ 4 = AV.int (((o.length : Nat) : Int)) ∧ f_ 31 = AV.bool ((decide (o.length = t.p.nodes.length)))) (fun M hM => ?_) (fun fr3 τz2 hm => ?_)
  ·simp [go_sem, f0, f1, f4, gb0]
   refine (hM _ _).2 ⟨rfl, ?_, ?_, ?_, ?_⟩ <;> simp [go_sem, f0, f1, f4, gb0]
  clear f0 f1 f4
  obtain ⟨rfl, f0, f1, f4, f31⟩ := hm
  refine SW.cond _ f31 (fun hx1 => ?_) (fun hx1 => ?_)
  ·have h := condT h hx1
   refine SW.seq ?_
   refine SW.region0 ?_
   refine SW.opsX 2 (fun f_ t_ => σ1 = t_ ∧ f_ 32 = AV.ptr b0 0 ∧ f_ 33 = intsA (o)) (fun M hM => ?_) (fun fr4 τz3 hm => ?_)
   ·simp [go_sem, f0, f1, f31, f4, gb0]
    refine (hM _ _).2 ⟨rfl, ?_, ?_⟩ <;> simp [go_sem, f0, f1, f31, f4, gb0]
   clear f0 f1 f31 f4
   obtain ⟨rfl, f32, f33⟩ := hm
   obtain ⟨rx, hrx, h⟩ := obind h
   refine SW.opsX 1 (fun f_ t_ => ∃ v2 : AV, Kept σ0 t_ ∧ σ0.next ≤ t_.next ∧ t_.get b0 = some [nodesA (t.t.nodes), edgesA (t.t.edges), intsA (t.p.nodes), e3sA (t.p.edges), intsA (t.g.nodes), e3sA (t.g.edges), intsA (t.partialx.nodes), intsA (t.partialx.edges), AV.bool (t.injective), AV.int (t.most), v2] ∧ b0 < t_.next ∧ ArrAt σ0.next t_ v2 33 (rx.flatMap morphC) rx.length 2 ∧ (∀ i, idOf v2 = some i → ¬ i = b0)) (fun M hM => ?_) (fun fr5 τ hm => ?_)
   ·simp [go_sem, f32, f33, gb0]
    refine EWcall_of (callA_killR [] (by rw [killAll_nil]; exact callA_io (n1 := σ0.next) (ags := [.inl 0, .inr (intsA (o)), .inr (intsA (([] : List Int)))]) (sss := [sl_Gscarfjointref17_search t]) (fun σ0_ σ1_ bs_ hK_ hN_ hl_ hB_ => ic_ref17_search_edges F t o ([] : List Int) _ hrx σ0_ σ1_ bs_ hl_ hK_ hN_ hB_) (ok_sl_Gscarfjointref17_search _) (oka_p Nat.zero_lt_one (oka_d (noId_imm _ _) (oka_d (noId_imm _ _) (oka_n)))) (boxes1 wb0 ub0 gb0 rfl (sl_d (sl_d (sl_d (sl_d (sl_d (sl_d (sl_d (sl_d (sl_d (sl_d (sl_o av evb0 (ap_n) (sl_n))))))))))))) rfl) (frzSL_c (.keep _) (frzSL_c (.keep _) (frzSL_c (.nil) (frzSL_n))))) ?_
    rintro xq τc ⟨rfl, hB_, kc, nc⟩
    have kf : ∀ i, i < σ1.next → ¬ i = b0 → (idOf v = some i → False) → τc.get i = σ1.get i ∧ τc.ty i = σ1.ty i := fun i hi hb_ h0_ => kc i hi (fun hm => hb_ (List.mem_singleton.1 hm)) (foot1 gb0 (ft_d rfl (ft_d rfl (ft_d rfl (ft_d rfl (ft_d rfl (ft_d rfl (ft_d rfl (ft_d rfl (ft_d rfl (ft_d rfl (ft_o h0_ (ft_n)))))))))))))
    have ga_ := And.intro gb0 ub0
    have hK : Kept σ0 τc := fun i hi => by have kq := kf i (Nat.lt_of_lt_of_le hi hN) (by omega) (fun h_ => by have := arrAt_lt av i h_; omega); exact ⟨kq.1.trans (hK i hi).1, kq.2.trans (hK i hi).2⟩
    have hN0 := hN
    have hN := Nat.le_trans hN nc
    clear ga_
    obtain ⟨wb0, ub0_, xs_, gb0, hs_0⟩ := boxes1_of hB_
    clear hB_
    obtain ⟨_, rfl, hs_1⟩ := slots_dat hs_0
    clear hs_0
    obtain ⟨_, rfl, hs_2⟩ := slots_dat hs_1
    clear hs_1
    obtain ⟨_, rfl, hs_3⟩ := slots_dat hs_2
    clear hs_2
    obtain ⟨_, rfl, hs_4⟩ := slots_dat hs_3
    clear hs_3
    obtain ⟨_, rfl, hs_5⟩ := slots_dat hs_4
    clear hs_4
    obtain ⟨_, rfl, hs_6⟩ := slots_dat hs_5
    clear hs_5
    obtain ⟨_, rfl, hs_7⟩ := slots_dat hs_6
    clear hs_6
    obtain ⟨_, rfl, hs_8⟩ := slots_dat hs_7
    clear hs_7
    obtain ⟨_, rfl, hs_9⟩ := slots_dat hs_8
    clear hs_8
    obtain ⟨_, rfl, hs_10⟩ := slots_dat hs_9
    clear hs_9
    obtain ⟨v1, _, rfl, av1, iv1, pv1, hs_11⟩ := slots_own hs_10
    clear hs_10
    obtain rfl := slots_nil hs_11
    clear hs_11
    have gb0 : τc.get b0 = some [nodesA (t.t.nodes), edgesA (t.t.edges), intsA (t.p.nodes), e3sA (t.p.edges), intsA (t.g.nodes), e3sA (t.g.edges), intsA (t.partialx.nodes), intsA (t.partialx.edges), AV.bool (t.injective), AV.int (t.most), v1] := gb0
    have ev1b0 : ∀ i, idOf v1 = some i → ¬ i = b0 := fun i hi h => iv1 i hi (List.mem_singleton.2 h)
    have ub0 := ub0_
    have av1 := av1.lo (n1 := σ0.next) (by omega)
    simp [go_sem, f32, f33, gb0]
    exact (hM _ _).2 ⟨v1, by intro j hj; have hj_ := hK j hj; simp [go_sem, hj_.1, hj_.2], by first | omega | (simp [go_sem]; done) | (simp [go_sem]; omega), by simp (disch := omega) [get_alloc_ne, get_set_ne, get_kill_ne, go_sem, f32, f33, gb0], by first | omega | (simp [go_sem]; done) | (simp [go_sem]; omega), av1, by first | exact ev1b0 | (intro i hi; have := arrAt_lt av1 i hi; omega)⟩
   clear f32 f33 hK hN gb0 ub0 av
   obtain ⟨v2, hK, hN, gb0, ub0, av2, ev2b0⟩ := hm
   refine SW.opsEnd rfl ?_
   obtain rfl := Option.some.inj h
   exact SW.ret ⟨AV.tup [], by simp [go_sem, gb0], rfl, boxes1 wb0 ub0 gb0 rfl (sl_d (sl_d (sl_d (sl_d (sl_d (sl_d (sl_d (sl_d (sl_d (sl_d (sl_o av2 ev2b0 (ap_n) (sl_n)))))))))))), hK, hN⟩
  have h := condF h hx1
  refine SW.skip ?_
  refine SW.seq ?_
  refine SW.regX (fun f_ t_ => σ1 = t_ ∧ f_ 0 = AV.ptr b0 0 ∧ f_ 1 = intsA (o) ∧ f_ 4 = AV.int (((o.length : Nat) : Int)) ∧ f_ 5 = AV.int (0)) (fun M hM => ?_) (fun fr6 τz4 hm => ?_)
  ·simp [go_sem, f0, f1, f31, f4, gb0]
   refine (hM _ _).2 ⟨rfl, ?_, ?_, ?_, ?_⟩ <;> simp [go_sem, f0, f1, f31, f4, gb0]
  clear f0 f1 f31 f4
  obtain ⟨rfl, f0, f1, f4, f5⟩ := hm
  obtain ⟨oi, hruni, hoi⟩ := obind h
  refine SW.lenB b0 4 gb0 rfl (fun hbigi => ?_)
  obtain ⟨KL, hKL⟩ : ∃ KL : Fr → Mem → Prop, ∀ fr' τ', KL fr' τ' ↔ (∃ x : List Morph, ∃ v3 : AV, oi = .done x ∧ Kept σ0 τ' ∧ σ0.next ≤ τ'.next ∧ τ'.get b0 = some [nodesA (t.t.nodes), edgesA (t.t.edges), intsA (t.p.nodes), e3sA (t.p.edges), intsA (t.g.nodes), e3sA (t.g.edges), intsA (t.partialx.nodes), intsA (t.partialx.edges), AV.bool (t.injective), AV.int (t.most), v3] ∧ b0 < τ'.next ∧ ArrAt σ0.next τ' v3 33 (x.flatMap morphC) x.length 2 ∧ (∀ i, idOf v3 = some i → ¬ i = b0)) := ⟨_, fun _ _ => Iff.rfl⟩
  refine SW.cut KL ?_ ?_
  ·refine SW.block ?_
   obtain ⟨J, hJ⟩ : ∃ J : Nat → Fr → Mem → Prop, ∀ m_ fr' τ', J m_ fr' τ' ↔ (∃ a : Nat, ∃ x : List Morph, ∃ v3 : AV, m_ = t.g.nodes.length - a ∧ forN (b1_ref17_search_nodes F t o (s_ref17_search_nodes F)) (t.g.nodes.length - a) a x = some oi ∧ fr' 0 = AV.ptr b0 0 ∧ fr' 1 = intsA (o) ∧ fr' 4 = AV.int (((o.length : Nat) : Int)) ∧ fr' 5 = AV.int (((a : Nat) : Int)) ∧ Kept σ0 τ' ∧ σ0.next ≤ τ'.next ∧ τ'.get b0 = some [nodesA (t.t.nodes), edgesA (t.t.edges), intsA (t.p.nodes), e3sA (t.p.edges), intsA (t.g.nodes), e3sA (t.g.edges), intsA (t.partialx.nodes), intsA (t.partialx.edges), AV.bool (t.injective), AV.int (t.most), v3] ∧ b0 < τ'.next ∧ ArrAt σ0.next τ' v3 33 (x.flatMap morphC) x.length 2 ∧ (∀ i, idOf v3 = some i → ¬ i = b0)) := ⟨_, fun _ _ _ => Iff.rfl⟩
   refine SW.loop J (t.g.nodes.length - 0) ((hJ _ _ _).2 ⟨0, t.found, v, rfl, hruni, f0, f1, f4, f5, hK, hN, gb0, ub0, av, evb0⟩) ?_
   clear hruni
   intro m_ fr7 τ1 hm
   rw [hJ] at hm
   clear f0 f1 f4 f5 hK hN gb0 ub0 av
   obtain ⟨a, x, v3, rfl, hruni, f0, f1, f4, f5, hK, hN, gb0, ub0, av3, ev3b0⟩ := hm
   refine SW.seq ?_
   refine SW.seq ?_
   refine SW.regX (fun f_ t_ => τ1 = t_ ∧ f_ 0 = AV.ptr b0 0 ∧ f_ 1 = intsA (o) ∧ f_ 4 = AV.int (((o.length : Nat) : Int)) ∧ f_ 5 = AV.int (((a : Nat) : Int)) ∧ f_ 42 = AV.bool ((decide (a < t.g.nodes.length)))) (fun M hM => ?_) (fun fr8 τz5 hm => ?_)
   ·simp [go_sem, f0, f1, f4, f5, gb0]
    refine (hM _ _).2 ⟨rfl, ?_, ?_, ?_, ?_, ?_⟩ <;> simp [go_sem, f0, f1, f4, f5, gb0]
   clear f0 f1 f4 f5
   obtain ⟨rfl, f0, f1, f4, f5, f42⟩ := hm
   refine SW.cond _ f42 (fun hx2 => ?_) (fun hx2 => ?_)
   rotate_left
   ·have hk : ¬ a < t.g.nodes.length := by have := of_decide_eq_false hx2; omega
    refine SW.exit rfl ?_
    exact SW.goal ((hKL _ _).2 ⟨x, v3, forN_end hruni hk, hK, hN, gb0, ub0, av3, ev3b0⟩)
   have hka : a < t.g.nodes.length := by have := of_decide_eq_true hx2; omega
   have hwa : IntKind.i64.wrap ((a : Int) + 1) = ((a + 1 : Nat) : Int) := by rw [wrap64_of _ (by omega) (by omega)]; rfl
   obtain ⟨ci, hbi, hci⟩ := forN_step hruni hka
   simp only [b1_ref17_search_nodes] at hbi
   refine SW.skip ?_
   refine SW.seq ?_
   refine SW.block ?_
   refine SW.seq ?_
   refine SW.seq ?_
   obtain ⟨n, hn, hbi⟩ := obind hbi
   have xln := getN_lt hn
   have xdn := getN_map AV.int hn
   obtain ⟨c1, hc1, hbi⟩ := obind hbi
   refine SW.regX (fun f_ t_ => τ1 = t_ ∧ f_ 0 = AV.ptr b0 0 ∧ f_ 1 = intsA (o) ∧ f_ 4 = AV.int (((o.length : Nat) : Int)) ∧ f_ 5 = AV.int (((a : Nat) : Int)) ∧ f_ 95 = AV.bool (c1)) (fun M hM => ?_) (fun fr9 τz6 hm => ?_)
   ·refine EW_regionI τ1 (by kernel_rfl) (by kernel_rfl) (fun _ _ h => h) (fun hfin => ?_)
    rcases Bool.eq_false_or_eq_true ((decide (0 ≤ n))) with y0 | y0
    ·have y0' := y0
     try simp at y0'
     have ky0 := condT hc1 y0
     rcases Bool.eq_false_or_eq_true ((!decide (n = ((a : Nat) : Int)))) with y2 | y2
     ·have y2' := y2
      try simp [y0'] at y2'
      have ky2 := condT ky0 y2
      have ec1 := Option.some.inj ky2
      simp [go_sem, f0, f1, f4, f42, f5, gb0, xln, xdn, y0, y0', xln, xdn, y2, y2']
      refine (hM _ _).2 ⟨rfl, ?_, ?_, ?_, ?_, ?_⟩ <;> simp [go_sem, f0, f1, f4, f42, f5, gb0, xln, xdn, y0, y0', xln, xdn, y2, y2', ← ec1]
     ·have y2' := y2
      try simp [y0'] at y2'
      have ky2 := condF ky0 y2
      obtain ⟨q1, hq1, ky2⟩ := obind ky2
      rcases Bool.eq_false_or_eq_true q1 with y4 | y4
      ·have y4' := y4
       try simp [y0', y2'] at y4'
       have ky4 := condT ky2 y4
       have ec1 := Option.some.inj ky4
       have zv3 := av3
       rcases zv3 with ⟨rfl, nv3, mv3⟩ | ⟨ov3, rfl, gov3, tov3, lov3, hiv3⟩
       ·have zyv3y0 := y0
        try rw [nv3] at zyv3y0
        try simp only [List.length_nil, Int.natCast_zero] at zyv3y0
        have zyv3y2 := y2
        try rw [nv3] at zyv3y2
        try simp only [List.length_nil, Int.natCast_zero] at zyv3y2
        have zyv3y4 := y4
        try rw [nv3] at zyv3y4
        try simp only [List.length_nil, Int.natCast_zero] at zyv3y4
        simp [go_sem, f0, f1, f4, f42, f5, gb0, xln, xdn, y0, y0', xln, xdn, y2, y2', y4, y4', nv3, mv3, zyv3y0, zyv3y2, zyv3y4]
        refine EWlc_frz (w_ref17_search_used F (⟨t.t, t.p, t.g, t.partialx, t.injective, t.most, x⟩ : Gscarfjointref17_search) o ((a : Nat) : Int) _ hq1) rfl (frzL_c (frz_ptrL (Nat.zero_le _) gb0 (frzL_c ((DataA.imm (DataL.flatMap gd_nodeC t.t.nodes)) _ _) (frzL_c ((DataA.imm (DataL.flatMap gd_edgeC t.t.edges)) _ _) (frzL_c ((DataA.imm (DataL.map (fun _ => .lit _) t.p.nodes)) _ _) (frzL_c ((DataA.imm (DataL.flatMap gd_e3C t.p.edges)) _ _) (frzL_c ((DataA.imm (DataL.map (fun _ => .lit _) t.g.nodes)) _ _) (frzL_c ((DataA.imm (DataL.flatMap gd_e3C t.g.edges)) _ _) (frzL_c ((DataA.imm (DataL.map (fun _ => .lit _) t.partialx.nodes)) _ _) (frzL_c ((DataA.imm (DataL.map (fun _ => .lit _) t.partialx.edges)) _ _) (frzL_c (.lit _) (frzL_c (.lit _) (frzL_c (ArrAt.frzle av3 (Nat.zero_le _) (DataL.flatMap gd_morphC x)) (frzL_n))))))))))))) (frzL_c ((DataA.imm (DataL.map (fun _ => .lit _) o)) _ _) (frzL_c (.lit _) (frzL_n)))) (fun _ _ h => h) ?_
        simp [go_sem, f0, f1, f4, f42, f5, gb0, xln, xdn, y0, y0', xln, xdn, y2, y2', y4, y4', nv3, mv3, zyv3y0, zyv3y2, zyv3y4]
        refine (hM _ _).2 ⟨rfl, ?_, ?_, ?_, ?_, ?_⟩ <;> simp [go_sem, f0, f1, f4, f42, f5, gb0, xln, xdn, y0, y0', xln, xdn, y2, y2', y4, y4', nv3, mv3, zyv3y0, zyv3y2, zyv3y4, ← ec1]
       ·have Lv3 : (x.flatMap morphC).length = x.length * 2 := length_flatMap (f := morphC) (sz := 2) (fun _ => rfl) _
        simp [go_sem, f0, f1, f4, f42, f5, gb0, xln, xdn, y0, y0', xln, xdn, y2, y2', y4, y4', gov3, tov3, Lv3]
        refine EWlc_frz (w_ref17_search_used F (⟨t.t, t.p, t.g, t.partialx, t.injective, t.most, x⟩ : Gscarfjointref17_search) o ((a : Nat) : Int) _ hq1) rfl (frzL_c (frz_ptrL (Nat.zero_le _) gb0 (frzL_c ((DataA.imm (DataL.flatMap gd_nodeC t.t.nodes)) _ _) (frzL_c ((DataA.imm (DataL.flatMap gd_edgeC t.t.edges)) _ _) (frzL_c ((DataA.imm (DataL.map (fun _ => .lit _) t.p.nodes)) _ _) (frzL_c ((DataA.imm (DataL.flatMap gd_e3C t.p.edges)) _ _) (frzL_c ((DataA.imm (DataL.map (fun _ => .lit _) t.g.nodes)) _ _) (frzL_c ((DataA.imm (DataL.flatMap gd_e3C t.g.edges)) _ _) (frzL_c ((DataA.imm (DataL.map (fun _ => .lit _) t.partialx.nodes)) _ _) (frzL_c ((DataA.imm (DataL.map (fun _ => .lit _) t.partialx.edges)) _ _) (frzL_c (.lit _) (frzL_c (.lit _) (frzL_c (ArrAt.frzle av3 (Nat.zero_le _) (DataL.flatMap gd_morphC x)) (frzL_n))))))))))))) (frzL_c ((DataA.imm (DataL.map (fun _ => .lit _) o)) _ _) (frzL_c (.lit _) (frzL_n)))) (fun _ _ h => h) ?_
        simp [go_sem, f0, f1, f4, f42, f5, gb0, xln, xdn, y0, y0', xln, xdn, y2, y2', y4, y4', gov3, tov3, Lv3]
        refine (hM _ _).2 ⟨rfl, ?_, ?_, ?_, ?_, ?_⟩ <;> simp [go_sem, f0, f1, f4, f42, f5, gb0, xln, xdn, y0, y0', xln, xdn, y2, y2', y4, y4', gov3, tov3, Lv3, ← ec1]
      ·have y4' := y4
       try simp [y0', y2'] at y4'
       have ky4 := condF ky2 y4
       obtain ⟨n2, hn2, ky4⟩ := obind ky4
       have xln2 := getN_lt hn2
       have xdn2 := getN_map AV.int hn2
       obtain ⟨n3, hn3, ky4⟩ := obind ky4
       have xln3 := getN_lt hn3
       have xdn3 := getN_map AV.int hn3
       obtain ⟨q2, hq2, ky4⟩ := obind ky4
       have ec1 := Option.some.inj ky4
       have zv3 := av3
       rcases zv3 with ⟨rfl, nv3, mv3⟩ | ⟨ov3, rfl, gov3, tov3, lov3, hiv3⟩
       ·have zyv3y0 := y0
        try rw [nv3] at zyv3y0
        try simp only [List.length_nil, Int.natCast_zero] at zyv3y0
        have zyv3y2 := y2
        try rw [nv3] at zyv3y2
        try simp only [List.length_nil, Int.natCast_zero] at zyv3y2
        have zyv3y4 := y4
        try rw [nv3] at zyv3y4
        try simp only [List.length_nil, Int.natCast_zero] at zyv3y4
        simp [go_sem, f0, f1, f4, f42, f5, gb0, xln, xdn, y0, y0', xln, xdn, y2, y2', y4, y4', xln2, xdn2, xln3, xdn3, nv3, mv3, zyv3y0, zyv3y2, zyv3y4]
        refine EWlc_frz (w_ref17_search_used F (⟨t.t, t.p, t.g, t.partialx, t.injective, t.most, x⟩ : Gscarfjointref17_search) o ((a : Nat) : Int) _ hq1) rfl (frzL_c (frz_ptrL (Nat.zero_le _) gb0 (frzL_c ((DataA.imm (DataL.flatMap gd_nodeC t.t.nodes)) _ _) (frzL_c ((DataA.imm (DataL.flatMap gd_edgeC t.t.edges)) _ _) (frzL_c ((DataA.imm (DataL.map (fun _ => .lit _) t.p.nodes)) _ _) (frzL_c ((DataA.imm (DataL.flatMap gd_e3C t.p.edges)) _ _) (frzL_c ((DataA.imm (DataL.map (fun _ => .lit _) t.g.nodes)) _ _) (frzL_c ((DataA.imm (DataL.flatMap gd_e3C t.g.edges)) _ _) (frzL_c ((DataA.imm (DataL.map (fun _ => .lit _) t.partialx.nodes)) _ _) (frzL_c ((DataA.imm (DataL.map (fun _ => .lit _) t.partialx.edges)) _ _) (frzL_c (.lit _) (frzL_c (.lit _) (frzL_c (ArrAt.frzle av3 (Nat.zero_le _) (DataL.flatMap gd_morphC x)) (frzL_n))))))))))))) (frzL_c ((DataA.imm (DataL.map (fun _ => .lit _) o)) _ _) (frzL_c (.lit _) (frzL_n)))) (fun _ _ h => h) ?_
        simp [go_sem, f0, f1, f4, f42, f5, gb0, xln, xdn, y0, y0', xln, xdn, y2, y2', y4, y4', xln2, xdn2, xln3, xdn3, nv3, mv3, zyv3y0, zyv3y2, zyv3y4]
        refine EWlc_pure (w_ref04_Below1 F t.t n2 n3 _ hq2) (fun _ _ h => h) ?_
        simp [go_sem, f0, f1, f4, f42, f5, gb0, xln, xdn, y0, y0', xln, xdn, y2, y2', y4, y4', xln2, xdn2, xln3, xdn3, nv3, mv3, zyv3y0, zyv3y2, zyv3y4]
        refine (hM _ _).2 ⟨rfl, ?_, ?_, ?_, ?_, ?_⟩ <;> simp [go_sem, f0, f1, f4, f42, f5, gb0, xln, xdn, y0, y0', xln, xdn, y2, y2', y4, y4', xln2, xdn2, xln3, xdn3, nv3, mv3, zyv3y0, zyv3y2, zyv3y4, ← ec1]
       ·have Lv3 : (x.flatMap morphC).length = x.length * 2 := length_flatMap (f := morphC) (sz := 2) (fun _ => rfl) _
        simp [go_sem, f0, f1, f4, f42, f5, gb0, xln, xdn, y0, y0', xln, xdn, y2, y2', y4, y4', xln2, xdn2, xln3, xdn3, gov3, tov3, Lv3]
        refine EWlc_frz (w_ref17_search_used F (⟨t.t, t.p, t.g, t.partialx, t.injective, t.most, x⟩ : Gscarfjointref17_search) o ((a : Nat) : Int) _ hq1) rfl (frzL_c (frz_ptrL (Nat.zero_le _) gb0 (frzL_c ((DataA.imm (DataL.flatMap gd_nodeC t.t.nodes)) _ _) (frzL_c ((DataA.imm (DataL.flatMap gd_edgeC t.t.edges)) _ _) (frzL_c ((DataA.imm (DataL.map (fun _ => .lit _) t.p.nodes)) _ _) (frzL_c ((DataA.imm (DataL.flatMap gd_e3C t.p.edges)) _ _) (frzL_c ((DataA.imm (DataL.map (fun _ => .lit _) t.g.nodes)) _ _) (frzL_c ((DataA.imm (DataL.flatMap gd_e3C t.g.edges)) _ _) (frzL_c ((DataA.imm (DataL.map (fun _ => .lit _) t.partialx.nodes)) _ _) (frzL_c ((DataA.imm (DataL.map (fun _ => .lit _) t.partialx.edges)) _ _) (frzL_c (.lit _) (frzL_c (.lit _) (frzL_c (ArrAt.frzle av3 (Nat.zero_le _) (DataL.flatMap gd_morphC x)) (frzL_n))))))))))))) (frzL_c ((DataA.imm (DataL.map (fun _ => .lit _) o)) _ _) (frzL_c (.lit _) (frzL_n)))) (fun _ _ h => h) ?_
        simp [go_sem, f0, f1, f4, f42, f5, gb0, xln, xdn, y0, y0', xln, xdn, y2, y2', y4, y4', xln2, xdn2, xln3, xdn3, gov3, tov3, Lv3]
        refine EWlc_pure (w_ref04_Below1 F t.t n2 n3 _ hq2) (fun _ _ h => h) ?_
        simp [go_sem, f0, f1, f4, f42, f5, gb0, xln, xdn, y0, y0', xln, xdn, y2, y2', y4, y4', xln2, xdn2, xln3, xdn3, gov3, tov3, Lv3]
        refine (hM _ _).2 ⟨rfl, ?_, ?_, ?_, ?_, ?_⟩ <;> simp [go_sem, f0, f1, f4, f42, f5, gb0, xln, xdn, y0, y0', xln, xdn, y2, y2', y4, y4', xln2, xdn2, xln3, xdn3, gov3, tov3, Lv3, ← ec1]
    ·have y0' := y0
     try simp at y0'
     have ky0 := condF hc1 y0
     obtain ⟨q3, hq3, ky0⟩ := obind ky0
     rcases Bool.eq_false_or_eq_true q3 with y2 | y2
     ·have y2' := y2
      try simp [y0'] at y2'
      have ky2 := condT ky0 y2
      have ec1 := Option.some.inj ky2
      have zv3 := av3
      rcases zv3 with ⟨rfl, nv3, mv3⟩ | ⟨ov3, rfl, gov3, tov3, lov3, hiv3⟩
      ·have zyv3y0 := y0
       try rw [nv3] at zyv3y0
       try simp only [List.length_nil, Int.natCast_zero] at zyv3y0
       have zyv3y2 := y2
       try rw [nv3] at zyv3y2
       try simp only [List.length_nil, Int.natCast_zero] at zyv3y2
       simp [go_sem, f0, f1, f4, f42, f5, gb0, xln, xdn, y0, y0', y2, y2', nv3, mv3, zyv3y0, zyv3y2]
       refine EWlc_frz (w_ref17_search_used F (⟨t.t, t.p, t.g, t.partialx, t.injective, t.most, x⟩ : Gscarfjointref17_search) o ((a : Nat) : Int) _ hq3) rfl (frzL_c (frz_ptrL (Nat.zero_le _) gb0 (frzL_c ((DataA.imm (DataL.flatMap gd_nodeC t.t.nodes)) _ _) (frzL_c ((DataA.imm (DataL.flatMap gd_edgeC t.t.edges)) _ _) (frzL_c ((DataA.imm (DataL.map (fun _ => .lit _) t.p.nodes)) _ _) (frzL_c ((DataA.imm (DataL.flatMap gd_e3C t.p.edges)) _ _) (frzL_c ((DataA.imm (DataL.map (fun _ => .lit _) t.g.nodes)) _ _) (frzL_c ((DataA.imm (DataL.flatMap gd_e3C t.g.edges)) _ _) (frzL_c ((DataA.imm (DataL.map (fun _ => .lit _) t.partialx.nodes)) _ _) (frzL_c ((DataA.imm (DataL.map (fun _ => .lit _) t.partialx.edges)) _ _) (frzL_c (.lit _) (frzL_c (.lit _) (frzL_c (ArrAt.frzle av3 (Nat.zero_le _) (DataL.flatMap gd_morphC x)) (frzL_n))))))))))))) (frzL_c ((DataA.imm (DataL.map (fun _ => .lit _) o)) _ _) (frzL_c (.lit _) (frzL_n)))) (fun _ _ h => h) ?_
       simp [go_sem, f0, f1, f4, f42, f5, gb0, xln, xdn, y0, y0', y2, y2', nv3, mv3, zyv3y0, zyv3y2]
       refine (hM _ _).2 ⟨rfl, ?_, ?_, ?_, ?_, ?_⟩ <;> simp [go_sem, f0, f1, f4, f42, f5, gb0, xln, xdn, y0, y0', y2, y2', nv3, mv3, zyv3y0, zyv3y2, ← ec1]
      ·have Lv3 : (x.flatMap morphC).length = x.length * 2 := length_flatMap (f := morphC) (sz := 2) (fun _ => rfl) _
       simp [go_sem, f0, f1, f4, f42, f5, gb0, xln, xdn, y0, y0', y2, y2', gov3, tov3, Lv3]
       refine EWlc_frz (w_ref17_search_used F (⟨t.t, t.p, t.g, t.partialx, t.injective, t.most, x⟩ : Gscarfjointref17_search) o ((a : Nat) : Int) _ hq3) rfl (frzL_c (frz_ptrL (Nat.zero_le _) gb0 (frzL_c ((DataA.imm (DataL.flatMap gd_nodeC t.t.nodes)) _ _) (frzL_c ((DataA.imm (DataL.flatMap gd_edgeC t.t.edges)) _ _) (frzL_c ((DataA.imm (DataL.map (fun _ => .lit _) t.p.nodes)) _ _) (frzL_c ((DataA.imm (DataL.flatMap gd_e3C t.p.edges)) _ _) (frzL_c ((DataA.imm (DataL.map (fun _ => .lit _) t.g.nodes)) _ _) (frzL_c ((DataA.imm (DataL.flatMap gd_e3C t.g.edges)) _ _) (frzL_c ((DataA.imm (DataL.map (fun _ => .lit _) t.partialx.nodes)) _ _) (frzL_c ((DataA.imm (DataL.map (fun _ => .lit _) t.partialx.edges)) _ _) (frzL_c (.lit _) (frzL_c (.lit _) (frzL_c (ArrAt.frzle av3 (Nat.zero_le _) (DataL.flatMap gd_morphC x)) (frzL_n))))))))))))) (frzL_c ((DataA.imm (DataL.map (fun _ => .lit _) o)) _ _) (frzL_c (.lit _) (frzL_n)))) (fun _ _ h => h) ?_
       simp [go_sem, f0, f1, f4, f42, f5, gb0, xln, xdn, y0, y0', y2, y2', gov3, tov3, Lv3]
       refine (hM _ _).2 ⟨rfl, ?_, ?_, ?_, ?_, ?_⟩ <;> simp [go_sem, f0, f1, f4, f42, f5, gb0, xln, xdn, y0, y0', y2, y2', gov3, tov3, Lv3, ← ec1]
     ·have y2' := y2
      try simp [y0'] at y2'
      have ky2 := condF ky0 y2
      obtain ⟨n4, hn4, ky2⟩ := obind ky2
      have xln4 := getN_lt hn4
      have xdn4 := getN_map AV.int hn4
      obtain ⟨n5, hn5, ky2⟩ := obind ky2
      have xln5 := getN_lt hn5
      have xdn5 := getN_map AV.int hn5
      obtain ⟨q4, hq4, ky2⟩ := obind ky2
      have ec1 := Option.some.inj ky2
      have zv3 := av3
      rcases zv3 with ⟨rfl, nv3, mv3⟩ | ⟨ov3, rfl, gov3, tov3, lov3, hiv3⟩
      ·have zyv3y0 := y0
       try rw [nv3] at zyv3y0
       try simp only [List.length_nil, Int.natCast_zero] at zyv3y0
       have zyv3y2 := y2
       try rw [nv3] at zyv3y2
       try simp only [List.length_nil, Int.natCast_zero] at zyv3y2
       simp [go_sem, f0, f1, f4, f42, f5, gb0, xln, xdn, y0, y0', y2, y2', xln4, xdn4, xln5, xdn5, nv3, mv3, zyv3y0, zyv3y2]
       refine EWlc_frz (w_ref17_search_used F (⟨t.t, t.p, t.g, t.partialx, t.injective, t.most, x⟩ : Gscarfjointref17_search) o ((a : Nat) : Int) _ hq3) rfl (frzL_c (frz_ptrL (Nat.zero_le _) gb0 (frzL_c ((DataA.imm (DataL.flatMap gd_nodeC t.t.nodes)) _ _) (frzL_c ((DataA.imm (DataL.flatMap gd_edgeC t.t.edges)) _ _) (frzL_c ((DataA.imm (DataL.map (fun _ => .lit _) t.p.nodes)) _ _) (frzL_c ((DataA.imm (DataL.flatMap gd_e3C t.p.edges)) _ _) (frzL_c ((DataA.imm (DataL.map (fun _ => .lit _) t.g.nodes)) _ _) (frzL_c ((DataA.imm (DataL.flatMap gd_e3C t.g.edges)) _ _) (frzL_c ((DataA.imm (DataL.map (fun _ => .lit _) t.partialx.nodes)) _ _) (frzL_c ((DataA.imm (DataL.map (fun _ => .lit _) t.partialx.edges)) _ _) (frzL_c (.lit _) (frzL_c (.lit _) (frzL_c (ArrAt.frzle av3 (Nat.zero_le _) (DataL.flatMap gd_morphC x)) (frzL_n))))))))))))) (frzL_c ((DataA.imm (DataL.map (fun _ => .lit _) o)) _ _) (frzL_c (.lit _) (frzL_n)))) (fun _ _ h => h) ?_
       simp [go_sem, f0, f1, f4, f42, f5, gb0, xln, xdn, y0, y0', y2, y2', xln4, xdn4, xln5, xdn5, nv3, mv3, zyv3y0, zyv3y2]
       refine EWlc_pure (w_ref04_Below1 F t.t n4 n5 _ hq4) (fun _ _ h => h) ?_
       simp [go_sem, f0, f1, f4, f42, f5, gb0, xln, xdn, y0, y0', y2, y2', xln4, xdn4, xln5, xdn5, nv3, mv3, zyv3y0, zyv3y2]
       refine (hM _ _).2 ⟨rfl, ?_, ?_, ?_, ?_, ?_⟩ <;> simp [go_sem, f0, f1, f4, f42, f5, gb0, xln, xdn, y0, y0', y2, y2', xln4, xdn4, xln5, xdn5, nv3, mv3, zyv3y0, zyv3y2, ← ec1]
      ·have Lv3 : (x.flatMap morphC).length = x.length * 2 := length_flatMap (f := morphC) (sz := 2) (fun _ => rfl) _
       simp [go_sem, f0, f1, f4, f42, f5, gb0, xln, xdn, y0, y0', y2, y2', xln4, xdn4, xln5, xdn5, gov3, tov3, Lv3]
       refine EWlc_frz (w_ref17_search_used F (⟨t.t, t.p, t.g, t.partialx, t.injective, t.most, x⟩ : Gscarfjointref17_search) o ((a : Nat) : Int) _ hq3) rfl (frzL_c (frz_ptrL (Nat.zero_le _) gb0 (frzL_c ((DataA.imm (DataL.flatMap gd_nodeC t.t.nodes)) _ _) (frzL_c ((DataA.imm (DataL.flatMap gd_edgeC t.t.edges)) _ _) (frzL_c ((DataA.imm (DataL.map (fun _ => .lit _) t.p.nodes)) _ _) (frzL_c ((DataA.imm (DataL.flatMap gd_e3C t.p.edges)) _ _) (frzL_c ((DataA.imm (DataL.map (fun _ => .lit _) t.g.nodes)) _ _) (frzL_c ((DataA.imm (DataL.flatMap gd_e3C t.g.edges)) _ _) (frzL_c ((DataA.imm (DataL.map (fun _ => .lit _) t.partialx.nodes)) _ _) (frzL_c ((DataA.imm (DataL.map (fun _ => .lit _) t.partialx.edges)) _ _) (frzL_c (.lit _) (frzL_c (.lit _) (frzL_c (ArrAt.frzle av3 (Nat.zero_le _) (DataL.flatMap gd_morphC x)) (frzL_n))))))))))))) (frzL_c ((DataA.imm (DataL.map (fun _ => .lit _) o)) _ _) (frzL_c (.lit _) (frzL_n)))) (fun _ _ h => h) ?_
       simp [go_sem, f0, f1, f4, f42, f5, gb0, xln, xdn, y0, y0', y2, y2', xln4, xdn4, xln5, xdn5, gov3, tov3, Lv3]
       refine EWlc_pure (w_ref04_Below1 F t.t n4 n5 _ hq4) (fun _ _ h => h) ?_
       simp [go_sem, f0, f1, f4, f42, f5, gb0, xln, xdn, y0, y0', y2, y2', xln4, xdn4, xln5, xdn5, gov3, tov3, Lv3]
       refine (hM _ _).2 ⟨rfl, ?_, ?_, ?_, ?_, ?_⟩ <;> simp [go_sem, f0, f1, f4, f42, f5, gb0, xln, xdn, y0, y0', y2, y2', xln4, xdn4, xln5, xdn5, gov3, tov3, Lv3, ← ec1]
   clear f0 f1 f4 f42 f5
   obtain ⟨rfl, f0, f1, f4, f5, f95⟩ := hm
   refine SW.cond _ f95 (fun hx3 => ?_) (fun hx3 => ?_)
   ·have hbi := condT hbi hx3
    refine SW.exit rfl ?_
    refine SW.regX (fun f_ t_ => τ1 = t_ ∧ f_ 0 = AV.ptr b0 0 ∧ f_ 1 = intsA (o) ∧ f_ 4 = AV.int (((o.length : Nat) : Int)) ∧ f_ 5 = AV.int (((a + 1 : Nat) : Int))) (fun M hM => ?_) (fun fr10 τz7 hm => ?_)
    ·simp [go_sem, f0, f1, f4, f5, f95, gb0, hwa]
     refine (hM _ _).2 ⟨rfl, ?_, ?_, ?_, ?_⟩ <;> simp [go_sem, f0, f1, f4, f5, f95, gb0, hwa]
    clear f0 f1 f4 f5 f95
    obtain ⟨rfl, f0, f1, f4, f5⟩ := hm
    obtain rfl := Option.some.inj hbi
    exact SW.goal ⟨t.g.nodes.length - (a + 1), by omega, (hJ _ _ _).2 ⟨a + 1, x, v3, rfl, hci, f0, f1, f4, f5, hK, hN, gb0, ub0, av3, ev3b0⟩⟩
   have hbi := condF hbi hx3
   refine SW.skip ?_
   refine SW.region0 ?_
   obtain ⟨a1, ha1, hbi⟩ := obind hbi
   obtain ⟨la1, ea1⟩ := catL_spec ha1
   obtain ⟨a2, ha2, hbi⟩ := obind hbi
   obtain ⟨la2, ea2⟩ := catL_spec ha2
   refine SW.opsX 7 (fun f_ t_ => ∃ v4 : AV, f_ 0 = AV.ptr b0 0 ∧ f_ 1 = intsA (o) ∧ f_ 4 = AV.int (((o.length : Nat) : Int)) ∧ f_ 5 = AV.int (((a : Nat) : Int)) ∧ f_ 96 = AV.ptr b0 0 ∧ f_ 102 = v4 ∧ Kept σ0 t_ ∧ σ0.next ≤ t_.next ∧ t_.get b0 = some [nodesA (t.t.nodes), edgesA (t.t.edges), intsA (t.p.nodes), e3sA (t.p.edges), intsA (t.g.nodes), e3sA (t.g.edges), intsA (t.partialx.nodes), intsA (t.partialx.edges), AV.bool (t.injective), AV.int (t.most), v3] ∧ b0 < t_.next ∧ ArrAt σ0.next t_ v4 3 (a2.map AV.int) a2.length 1 ∧ ArrAt σ0.next t_ v3 33 (x.flatMap morphC) x.length 2 ∧ (∀ i, idOf v4 = some i → ¬ i = b0) ∧ Apart v4 v3) (fun M hM => ?_) (fun fr11 τ2 hm => ?_)
   ·have nb0_0 : ¬ b0 = τ1.next := by omega
    have nb0_1 : ¬ b0 = τ1.next + 1 := by omega
    have nb0_2 : ¬ b0 = τ1.next + 2 := by omega
    have nb0_3 : ¬ b0 = τ1.next + 3 := by omega
    have ca1_0 : o.length ≤ 9223372036854775807 := by have c_ := la1; (try simp at c_); omega
    have ca1_1 : o.length * 8 ≤ 140737488355328 := by have c_ := la1; (try simp at c_); omega
    have ca2_0 : o.length + 1 ≤ 9223372036854775807 := by have c_ := la2; rw [ea1] at c_; (try simp at c_); omega
    have ca2_1 : (o.length + 1) * 8 ≤ 140737488355328 := by have c_ := la2; rw [ea1] at c_; (try simp at c_); omega
    simp [go_sem, f0, f1, f4, f5, f95, gb0, nb0_0, nb0_1, nb0_2, nb0_3, ca1_0, ca1_1, ca2_0, ca2_1]
    refine (hM _ _).2 ⟨AV.arr (τ1.next + 3) 0 a2.length 1, ?_, ?_, ?_, ?_, ?_, ?_, by intro j hj; have hj_ := hK j hj; simp [go_sem, hj_.1, hj_.2, show ¬ j = τ1.next by omega, show ¬ j = τ1.next + 1 by omega, show ¬ j = τ1.next + 2 by omega, show ¬ j = τ1.next + 3 by omega], by first | omega | (simp [go_sem]; done) | (simp [go_sem]; omega), by simp (disch := omega) [get_alloc_ne, get_set_ne, get_kill_ne, go_sem, f0, f1, f4, f5, f95, gb0, nb0_0, nb0_1, nb0_2, nb0_3, ca1_0, ca1_1, ca2_0, ca2_1, ea1, ea2], by first | omega | (simp [go_sem]; done) | (simp [go_sem]; omega), .inr ⟨(τ1.next + 3), rfl, by simp (disch := omega) [get_alloc_ne, get_set_ne, get_kill_ne, go_sem, f0, f1, f4, f5, f95, gb0, nb0_0, nb0_1, nb0_2, nb0_3, ca1_0, ca1_1, ca2_0, ca2_1, ea1, ea2], by simp [go_sem, f0, f1, f4, f5, f95, gb0, nb0_0, nb0_1, nb0_2, nb0_3, ca1_0, ca1_1, ca2_0, ca2_1, ea1, ea2], by omega, by first | (simp [go_sem]; done) | (simp [go_sem]; omega)⟩, av3.same' (by simp [go_sem]; try omega) (fun i hi => by have zl := arrAt_lt av3 i hi; have zi0 : ¬ i = τ1.next := (by omega); have zi1 : ¬ i = τ1.next + 1 := (by omega); have zi2 : ¬ i = τ1.next + 2 := (by omega); have zi3 : ¬ i = τ1.next + 3 := (by omega); constructor <;> simp [go_sem, zi0, zi1, zi2, zi3]), by intro i hi; first | (simp [idOf] at hi; done) | (simp [idOf] at hi; omega), by first | exact ev4v3 | exact apart_symm ev3v4 | (intro i h1 h2; simp [idOf] at h1; done) | (intro i h1 h2; simp [idOf] at h2; done) | (intro i h1 h2; simp [idOf] at h1; have := arrAt_lt av3 i h2; omega)⟩ <;> simp [go_sem, f0, f1, f4, f5, f95, gb0, nb0_0, nb0_1, nb0_2, nb0_3, ca1_0, ca1_1, ca2_0, ca2_1, ea1, ea2]
   clear f0 f1 f4 f5 f95 hK hN gb0 ub0 av3
   obtain ⟨v4, f0, f1, f4, f5, f96, f102, hK, hN, gb0, ub0, av4, av3, ev4b0, ev4v3⟩ := hm
   refine SW.frzT 102 av4 f102 ?_
   obtain ⟨fr12, hfr⟩ : ∃ x, x = upd fr11 102 (AV.imm a2.length (a2.map AV.int)) := ⟨_, rfl⟩
   rw [show upd fr11 102 _ = fr12 from hfr.symm]
   have f0 : fr12 0 = AV.ptr b0 0 := by rw [hfr]; simp [upd, f0]
   have f1 : fr12 1 = intsA (o) := by rw [hfr]; simp [upd, f1]
   have f4 : fr12 4 = AV.int (((o.length : Nat) : Int)) := by rw [hfr]; simp [upd, f4]
   have f5 : fr12 5 = AV.int (((a : Nat) : Int)) := by rw [hfr]; simp [upd, f5]
   have f96 : fr12 96 = AV.ptr b0 0 := by rw [hfr]; simp [upd, f96]
   have f102 : fr12 102 = intsA (a2) := by rw [hfr]; exact if_pos rfl
   clear hfr
   obtain ⟨τ3, hτ⟩ : ∃ x, x = (τ2.killA v4) := ⟨_, rfl⟩
   rw [← hτ]
   have hK : Kept σ0 τ3 := by rw [hτ]; exact hK.killA av4
   have hN : σ0.next ≤ τ3.next := by rw [hτ]; simp only [next_set, killA_next]; exact hN
   have gb0 : τ3.get b0 = some [nodesA (t.t.nodes), edgesA (t.t.edges), intsA (t.p.nodes), e3sA (t.p.edges), intsA (t.g.nodes), e3sA (t.g.edges), intsA (t.partialx.nodes), intsA (t.partialx.edges), AV.bool (t.injective), AV.int (t.most), v3] := by rw [hτ, killA_get _ _ (fun h => ev4b0 _ h rfl)]; exact gb0
   have ub0 : b0 < τ3.next := by rw [hτ]; simp only [next_set, killA_next]; exact ub0
   have av3 : ArrAt σ0.next τ3 v3 33 (x.flatMap morphC) x.length 2 := by rw [hτ]; exact av3.killA (by first | exact ev3v4 | exact apart_symm ev4v3)
   clear hτ
   obtain ⟨rx1, hrx1, hbi⟩ := obind hbi
   refine SW.opsX 1 (fun f_ t_ => ∃ v6 : AV, f_ 0 = AV.ptr b0 0 ∧ f_ 1 = intsA (o) ∧ f_ 4 = AV.int (((o.length : Nat) : Int)) ∧ f_ 5 = AV.int (((a : Nat) : Int)) ∧ Kept σ0 t_ ∧ σ0.next ≤ t_.next ∧ t_.get b0 = some [nodesA (t.t.nodes), edgesA (t.t.edges), intsA (t.p.nodes), e3sA (t.p.edges), intsA (t.g.nodes), e3sA (t.g.edges), intsA (t.partialx.nodes), intsA (t.partialx.edges), AV.bool (t.injective), AV.int (t.most), v6] ∧ b0 < t_.next ∧ ArrAt σ0.next t_ v6 33 (rx1.flatMap morphC) rx1.length 2 ∧ (∀ i, idOf v6 = some i → ¬ i = b0)) (fun M hM => ?_) (fun fr13 τ4 hm => ?_)
   ·simp [go_sem, f0, f1, f102, f4, f5, f96, gb0]
    refine EWcall_of (callA_io (n1 := σ0.next) (ags := [.inl 0, .inr (intsA (a2))]) (sss := [sl_Gscarfjointref17_search (⟨t.t, t.p, t.g, t.partialx, t.injective, t.most, x⟩ : Gscarfjointref17_search)]) (fun σ0_ σ1_ bs_ hK_ hN_ hl_ hB_ => ic_ref17_search_nodes F (⟨t.t, t.p, t.g, t.partialx, t.injective, t.most, x⟩ : Gscarfjointref17_search) a2 _ hrx1 σ0_ σ1_ bs_ hl_ hK_ hN_ hB_) (ok_sl_Gscarfjointref17_search _) (oka_p Nat.zero_lt_one (oka_d (noId_imm _ _) (oka_n))) (boxes1 wb0 ub0 gb0 rfl (sl_d (sl_d (sl_d (sl_d (sl_d (sl_d (sl_d (sl_d (sl_d (sl_d (sl_o av3 ev3b0 (ap_n) (sl_n))))))))))))) rfl) ?_
    rintro xq τc1 ⟨rfl, hB_, kc, nc⟩
    have kf : ∀ i, i < τ3.next → ¬ i = b0 → (idOf v3 = some i → False) → τc1.get i = τ3.get i ∧ τc1.ty i = τ3.ty i := fun i hi hb_ h0_ => kc i hi (fun hm => hb_ (List.mem_singleton.1 hm)) (foot1 gb0 (ft_d rfl (ft_d rfl (ft_d rfl (ft_d rfl (ft_d rfl (ft_d rfl (ft_d rfl (ft_d rfl (ft_d rfl (ft_d rfl (ft_o h0_ (ft_n)))))))))))))
    have ga_ := And.intro gb0 ub0
    have hK : Kept σ0 τc1 := fun i hi => by have kq := kf i (Nat.lt_of_lt_of_le hi hN) (by omega) (fun h_ => by have := arrAt_lt av3 i h_; omega); exact ⟨kq.1.trans (hK i hi).1, kq.2.trans (hK i hi).2⟩
    have hN0 := hN
    have hN := Nat.le_trans hN nc
    clear ga_
    obtain ⟨wb0, ub0_, xs_, gb0, hs_0⟩ := boxes1_of hB_
    clear hB_
    obtain ⟨_, rfl, hs_1⟩ := slots_dat hs_0
    clear hs_0
    obtain ⟨_, rfl, hs_2⟩ := slots_dat hs_1
    clear hs_1
    obtain ⟨_, rfl, hs_3⟩ := slots_dat hs_2
    clear hs_2
    obtain ⟨_, rfl, hs_4⟩ := slots_dat hs_3
    clear hs_3
    obtain ⟨_, rfl, hs_5⟩ := slots_dat hs_4
    clear hs_4
    obtain ⟨_, rfl, hs_6⟩ := slots_dat hs_5
    clear hs_5
    obtain ⟨_, rfl, hs_7⟩ := slots_dat hs_6
    clear hs_6
    obtain ⟨_, rfl, hs_8⟩ := slots_dat hs_7
    clear hs_7
    obtain ⟨_, rfl, hs_9⟩ := slots_dat hs_8
    clear hs_8
    obtain ⟨_, rfl, hs_10⟩ := slots_dat hs_9
    clear hs_9
    obtain ⟨v5, _, rfl, av5, iv5, pv5, hs_11⟩ := slots_own hs_10
    clear hs_10
    obtain rfl := slots_nil hs_11
    clear hs_11
    have gb0 : τc1.get b0 = some [nodesA (t.t.nodes), edgesA (t.t.edges), intsA (t.p.nodes), e3sA (t.p.edges), intsA (t.g.nodes), e3sA (t.g.edges), intsA (t.partialx.nodes), intsA (t.partialx.edges), AV.bool (t.injective), AV.int (t.most), v5] := gb0
    have ev5b0 : ∀ i, idOf v5 = some i → ¬ i = b0 := fun i hi h => iv5 i hi (List.mem_singleton.2 h)
    have ub0 := ub0_
    have av5 := av5.lo (n1 := σ0.next) (by omega)
    simp [go_sem, f0, f1, f102, f4, f5, f96, gb0]
    refine (hM _ _).2 ⟨v5, ?_, ?_, ?_, ?_, by intro j hj; have hj_ := hK j hj; simp [go_sem, hj_.1, hj_.2], by first | omega | (simp [go_sem]; done) | (simp [go_sem]; omega), by simp (disch := omega) [get_alloc_ne, get_set_ne, get_kill_ne, go_sem, f0, f1, f102, f4, f5, f96, gb0], by first | omega | (simp [go_sem]; done) | (simp [go_sem]; omega), av5, by first | exact ev5b0 | (intro i hi; have := arrAt_lt av5 i hi; omega)⟩ <;> simp [go_sem, f0, f1, f102, f4, f5, f96, gb0]
   clear f0 f1 f102 f4 f5 f96 hK hN gb0 ub0 av3
   obtain ⟨v6, f0, f1, f4, f5, hK, hN, gb0, ub0, av6, ev6b0⟩ := hm
   refine SW.opsEnd rfl ?_
   refine SW.blk ?_
   refine SW.regX (fun f_ t_ => τ4 = t_ ∧ f_ 0 = AV.ptr b0 0 ∧ f_ 1 = intsA (o) ∧ f_ 4 = AV.int (((o.length : Nat) : Int)) ∧ f_ 5 = AV.int (((a + 1 : Nat) : Int))) (fun M hM => ?_) (fun fr14 τz8 hm => ?_)
   ·simp [go_sem, f0, f1, f4, f5, gb0, hwa]
    refine (hM _ _).2 ⟨rfl, ?_, ?_, ?_, ?_⟩ <;> simp [go_sem, f0, f1, f4, f5, gb0, hwa]
   clear f0 f1 f4 f5
   obtain ⟨rfl, f0, f1, f4, f5⟩ := hm
   obtain rfl := Option.some.inj hbi
   exact SW.goal ⟨t.g.nodes.length - (a + 1), by omega, (hJ _ _ _).2 ⟨a + 1, rx1, v6, rfl, hci, f0, f1, f4, f5, hK, hN, gb0, ub0, av6, ev6b0⟩⟩
  intro fr15 τ5 hm
  rw [hKL] at hm
  clear hKL hruni
  clear f0 f1 f4 f5 hK hN gb0 ub0 av
  obtain ⟨x, v3, rfl, hK, hN, gb0, ub0, av3, ev3b0⟩ := hm
  simp only [Out.on] at hoi
  obtain rfl := Option.some.inj hoi
  exact SW.nil ⟨AV.tup [], by simp [go_sem, gb0], rfl, boxes1 wb0 ub0 gb0 rfl (sl_d (sl_d (sl_d (sl_d (sl_d (sl_d (sl_d (sl_d (sl_d (sl_d (sl_o av3 ev3b0 (ap_n) (sl_n)))))))))))), hK, hN⟩
def O_ref17_run (r : ((List Morph))) (n : Nat) (x : AV) (τ : Mem) : Prop := ∃ v0_ : AV, x = v0_ ∧ ArrAt n τ v0_ 33 (r.flatMap morphC) r.length 2
set_option maxHeartbeats 4000000 in
theorem o_ref17_run (F : Nat) (t : Types) (p : Graph) (g : Graph) (partialx : Morph) (injective : Bool) (most : Int) (r : ((List Morph))) (h : s_ref17_run F t p g partialx injective most = some r) (σ0 : Mem) : CallA Tryz.prog 43 [AV.agg [nodesA (t.nodes), edgesA (t.edges)], AV.agg [intsA (p.nodes), e3sA (p.edges)], AV.agg [intsA (g.nodes), e3sA (g.edges)], AV.agg [intsA (partialx.nodes), intsA (partialx.edges)], AV.bool (injective), AV.int (most)] σ0 (fun x τ => O_ref17_run r σ0.next x τ ∧ Kept σ0 τ ∧ σ0.next ≤ τ.next) := by
 refine callA_of_SW (N := 28) Tryz.func43 (by kernel_rfl) rfl (by rw [Tryz.ntmps43]; rfl) ?_
 rw [Tryz.results43]
 obtain ⟨fr0, hfr⟩ : ∃ fr, fr = initFr [AV.agg [nodesA (t.nodes), edgesA (t.edges)], AV.agg [intsA (p.nodes), e3sA (p.edges)], AV.agg [intsA (g.nodes), e3sA (g.edges)], AV.agg [intsA (partialx.nodes), intsA (partialx.edges)], AV.bool (injective), AV.int (most)] := ⟨_, rfl⟩
 rw [← hfr]
 have f0 : fr0 0 = AV.agg [nodesA (t.nodes), edgesA (t.edges)] := by rw [hfr]; rfl
 have f1 : fr0 1 = AV.agg [intsA (p.nodes), e3sA (p.edges)] := by rw [hfr]; rfl
 have f2 : fr0 2 = AV.agg [intsA (g.nodes), e3sA (g.edges)] := by rw [hfr]; rfl
 have f3 : fr0 3 = AV.agg [intsA (partialx.nodes), intsA (partialx.edges)] := by rw [hfr]; rfl
 have f4 : fr0 4 = AV.bool (injective) := by rw [hfr]; rfl
 have f5 : fr0 5 = AV.int (most) := by rw [hfr]; rfl
 clear hfr
 simp only [s_ref17_run] at h
 refine SW.seq ?_
 refine SW.regX (fun f_ t_ => ∃ b6 : Nat, ∃ b7 : Nat, ∃ b8 : Nat, ∃ b9 : Nat, f_ 4 = AV.bool (injective) ∧ f_ 5 = AV.int (most) ∧ f_ 6 = AV.ptr b6 0 ∧ f_ 7 = AV.ptr b7 0 ∧ f_ 8 = AV.ptr b8 0 ∧ f_ 9 = AV.ptr b9 0 ∧ Kept σ0 t_ ∧ σ0.next ≤ t_.next ∧ t_.get b6 = some [nodesA (t.nodes), edgesA (t.edges)] ∧ b6 < t_.next ∧ t_.get b7 = some [intsA (p.nodes), e3sA (p.edges)] ∧ b7 < t_.next ∧ t_.get b8 = some [intsA (g.nodes), e3sA (g.edges)] ∧ b8 < t_.next ∧ t_.get b9 = some [intsA (partialx.nodes), intsA (partialx.edges)] ∧ b9 < t_.next ∧ σ0.next ≤ b6 ∧ σ0.next ≤ b7 ∧ ¬ b6 = b7 ∧ σ0.next ≤ b8 ∧ ¬ b6 = b8 ∧ ¬ b7 = b8 ∧ σ0.next ≤ b9 ∧ ¬ b6 = b9 ∧ ¬ b7 = b9 ∧ ¬ b8 = b9) (fun M hM => ?_) (fun fr1 τ hm => ?_)
 ·simp [go_sem, f0, f1, f2, f3, f4, f5]
  refine (hM _ _).2 ⟨σ0.next, (σ0.next + 1), (σ0.next + 2), (σ0.next + 3), ?_, ?_, ?_, ?_, ?_, ?_, by intro j hj; simp [go_sem, show ¬ j = σ0.next by omega, show ¬ j = σ0.next + 1 by omega, show ¬ j = σ0.next + 2 by omega, show ¬ j = σ0.next + 3 by omega], by first | omega | (simp [go_sem]; done) | (simp [go_sem]; omega), by simp (disch := omega) [get_alloc_ne, get_set_ne, get_kill_ne, go_sem, f0, f1, f2, f3, f4, f5], by first | omega | (simp [go_sem]; done) | (simp [go_sem]; omega), by simp (disch := omega) [get_alloc_ne, get_set_ne, get_kill_ne, go_sem, f0, f1, f2, f3, f4, f5], by first | omega | (simp [go_sem]; done) | (simp [go_sem]; omega), by simp (disch := omega) [get_alloc_ne, get_set_ne, get_kill_ne, go_sem, f0, f1, f2, f3, f4, f5], by first | omega | (simp [go_sem]; done) | (simp [go_sem]; omega), by simp (disch := omega) [get_alloc_ne, get_set_ne, get_kill_ne, go_sem, f0, f1, f2, f3, f4, f5], by first | omega | (simp [go_sem]; done) | (simp [go_sem]; omega), by omega, by omega, by omega, by omega, by omega, by omega, by omega, by omega, by omega, by omega⟩ <;> simp [go_sem, f0, f1, f2, f3, f4, f5]
 clear f0 f1 f2 f3 f4 f5
 obtain ⟨b6, b7, b8, b9, f4, f5, f6, f7, f8, f9, hK, hN, gb6, ub6, gb7, ub7, gb8, ub8, gb9, ub9, wb6, wb7, eb6b7, wb8, eb6b8, eb7b8, wb9, eb6b9, eb7b9, eb8b9⟩ := hm
 refine SW.seq ?_
 refine SW.regX (fun f_ t_ => ∃ b21 : Nat, f_ 13 = AV.ptr b21 0 ∧ Kept σ0 t_ ∧ σ0.next ≤ t_.next ∧ t_.get b21 = some [nodesA (t.nodes), edgesA (t.edges), intsA (p.nodes), e3sA (p.edges), intsA (g.nodes), e3sA (g.edges), intsA (partialx.nodes), intsA (partialx.edges), AV.bool (injective), AV.int (most), AV.nils] ∧ b21 < t_.next ∧ σ0.next ≤ b21) (fun M hM => ?_) (fun fr2 τ1 hm => ?_)
 ·have nb6_0 : ¬ b6 = τ.next := by omega
  have nb7_0 : ¬ b7 = τ.next := by omega
  have nb8_0 : ¬ b8 = τ.next := by omega
  have nb9_0 : ¬ b9 = τ.next := by omega
  simp [go_sem, f4, f5, f6, f7, f8, f9, gb6, gb7, gb8, gb9, nb6_0, nb7_0, nb8_0, nb9_0]
  refine (hM _ _).2 ⟨τ.next, ?_, by intro j hj; have hj_ := hK j hj; simp [go_sem, hj_.1, hj_.2, show ¬ j = τ.next by omega], by first | omega | (simp [go_sem]; done) | (simp [go_sem]; omega), by simp (disch := omega) [get_alloc_ne, get_set_ne, get_kill_ne, go_sem, f4, f5, f6, f7, f8, f9, gb6, gb7, gb8, gb9, nb6_0, nb7_0, nb8_0, nb9_0], by first | omega | (simp [go_sem]; done) | (simp [go_sem]; omega), by omega⟩ <;> simp [go_sem, f4, f5, f6, f7, f8, f9, gb6, gb7, gb8, gb9, nb6_0, nb7_0, nb8_0, nb9_0]
 clear f4 f5 f6 f7 f8 f9 hK hN gb6 ub6 gb7 ub7 gb8 ub8 gb9 ub9
 obtain ⟨b21, f13, hK, hN, gb21, ub21, wb21⟩ := hm
 refine SW.seq ?_
 refine SW.region0 ?_
 refine SW.opsX 1 (fun f_ t_ => τ1 = t_ ∧ f_ 13 = AV.ptr b21 0 ∧ f_ 22 = AV.ptr b21 0) (fun M hM => ?_) (fun fr3 τz hm => ?_)
 ·simp [go_sem, f13, gb21]
  refine (hM _ _).2 ⟨rfl, ?_, ?_⟩ <;> simp [go_sem, f13, gb21]
 clear f13
 obtain ⟨rfl, f13, f22⟩ := hm
 obtain ⟨rx, hrx, h⟩ := obind h
 refine SW.opsX 1 (fun f_ t_ => ∃ v1 : AV, f_ 13 = AV.ptr b21 0 ∧ Kept σ0 t_ ∧ σ0.next ≤ t_.next ∧ t_.get b21 = some [nodesA (t.nodes), edgesA (t.edges), intsA (p.nodes), e3sA (p.edges), intsA (g.nodes), e3sA (g.edges), intsA (partialx.nodes), intsA (partialx.edges), AV.bool (injective), AV.int (most), v1] ∧ b21 < t_.next ∧ ArrAt σ0.next t_ v1 33 (rx.flatMap morphC) rx.length 2 ∧ (∀ i, idOf v1 = some i → ¬ i = b21)) (fun M hM => ?_) (fun fr4 τ2 hm => ?_)
 ·simp [go_sem, f13, f22, gb21]
  refine EWcall_of (callA_killR [] (by rw [killAll_nil]; exact callA_io (n1 := σ0.next) (ags := [.inl 0, .inr (intsA (([] : List Int)))]) (sss := [sl_Gscarfjointref17_search (⟨t, p, g, partialx, injective, most, ([] : List Morph)⟩ : Gscarfjointref17_search)]) (fun σ0_ σ1_ bs_ hK_ hN_ hl_ hB_ => ic_ref17_search_nodes F (⟨t, p, g, partialx, injective, most, ([] : List Morph)⟩ : Gscarfjointref17_search) ([] : List Int) _ hrx σ0_ σ1_ bs_ hl_ hK_ hN_ hB_) (ok_sl_Gscarfjointref17_search _) (oka_p Nat.zero_lt_one (oka_d (noId_imm _ _) (oka_n))) (boxes1 wb21 ub21 gb21 rfl (sl_d (sl_d (sl_d (sl_d (sl_d (sl_d (sl_d (sl_d (sl_d (sl_d (sl_o arrAt_nils (fun i h => by cases h) (ap_n) (sl_n))))))))))))) rfl) (frzSL_c (.keep _) (frzSL_c (.nil) (frzSL_n)))) ?_
  rintro xq τc ⟨rfl, hB_, kc, nc⟩
  have kf : ∀ i, i < τ1.next → ¬ i = b21 → τc.get i = τ1.get i ∧ τc.ty i = τ1.ty i := fun i hi hb_  => kc i hi (fun hm => hb_ (List.mem_singleton.1 hm)) (foot1 gb21 (ft_d rfl (ft_d rfl (ft_d rfl (ft_d rfl (ft_d rfl (ft_d rfl (ft_d rfl (ft_d rfl (ft_d rfl (ft_d rfl (ft_d rfl (ft_n)))))))))))))
  have ga_ := And.intro gb21 ub21
  have hK : Kept σ0 τc := fun i hi => by have kq := kf i (Nat.lt_of_lt_of_le hi hN) (by omega) ; exact ⟨kq.1.trans (hK i hi).1, kq.2.trans (hK i hi).2⟩
  have hN0 := hN
  have hN := Nat.le_trans hN nc
  clear ga_
  obtain ⟨wb21, ub21_, xs_, gb21, hs_0⟩ := boxes1_of hB_
  clear hB_
  obtain ⟨_, rfl, hs_1⟩ := slots_dat hs_0
  clear hs_0
  obtain ⟨_, rfl, hs_2⟩ := slots_dat hs_1
  clear hs_1
  obtain ⟨_, rfl, hs_3⟩ := slots_dat hs_2
  clear hs_2
  obtain ⟨_, rfl, hs_4⟩ := slots_dat hs_3
  clear hs_3
  obtain ⟨_, rfl, hs_5⟩ := slots_dat hs_4
  clear hs_4
  obtain ⟨_, rfl, hs_6⟩ := slots_dat hs_5
  clear hs_5
  obtain ⟨_, rfl, hs_7⟩ := slots_dat hs_6
  clear hs_6
  obtain ⟨_, rfl, hs_8⟩ := slots_dat hs_7
  clear hs_7
  obtain ⟨_, rfl, hs_9⟩ := slots_dat hs_8
  clear hs_8
  obtain ⟨_, rfl, hs_10⟩ := slots_dat hs_9
  clear hs_9
  obtain ⟨v, _, rfl, av, iv, pv, hs_11⟩ := slots_own hs_10
  clear hs_10
  obtain rfl := slots_nil hs_11
  clear hs_11
  have gb21 : τc.get b21 = some [nodesA (t.nodes), edgesA (t.edges), intsA (p.nodes), e3sA (p.edges), intsA (g.nodes), e3sA (g.edges), intsA (partialx.nodes), intsA (partialx.edges), AV.bool (injective), AV.int (most), v] := gb21
  have evb21 : ∀ i, idOf v = some i → ¬ i = b21 := fun i hi h => iv i hi (List.mem_singleton.2 h)
  have ub21 := ub21_
  have av := av.lo (n1 := σ0.next) (by omega)
  simp [go_sem, f13, f22, gb21]
  refine (hM _ _).2 ⟨v, ?_, by intro j hj; have hj_ := hK j hj; simp [go_sem, hj_.1, hj_.2], by first | omega | (simp [go_sem]; done) | (simp [go_sem]; omega), by simp (disch := omega) [get_alloc_ne, get_set_ne, get_kill_ne, go_sem, f13, f22, gb21], by first | omega | (simp [go_sem]; done) | (simp [go_sem]; omega), av, by first | exact evb21 | (intro i hi; have := arrAt_lt av i hi; omega)⟩ <;> simp [go_sem, f13, f22, gb21]
 clear f13 f22 hK hN gb21 ub21
 obtain ⟨v1, f13, hK, hN, gb21, ub21, av1, ev1b21⟩ := hm
 refine SW.opsEnd rfl ?_
 refine SW.seq ?_
 refine SW.regX (fun f_ t_ => τ2 = t_ ∧ f_ 12 = v1) (fun M hM => ?_) (fun fr5 τz1 hm => ?_)
 ·have zv1 := av1
  rcases zv1 with ⟨rfl, nv1, mv1⟩ | ⟨ov1, rfl, gov1, tov1, lov1, hiv1⟩
  ·simp [go_sem, f13, gb21, nv1, mv1]
   refine (hM _ _).2 ⟨rfl, ?_⟩ <;> simp [go_sem, f13, gb21, nv1, mv1]
  ·have Lv1 : (rx.flatMap morphC).length = rx.length * 2 := length_flatMap (f := morphC) (sz := 2) (fun _ => rfl) _
   simp [go_sem, f13, gb21, gov1, tov1, Lv1]
   refine (hM _ _).2 ⟨rfl, ?_⟩ <;> simp [go_sem, f13, gb21, gov1, tov1, Lv1]
 clear f13
 obtain ⟨rfl, f12⟩ := hm
 obtain rfl := Option.some.inj h
 exact SW.ret ⟨v1, by simp [go_sem, f12], ⟨v1, rfl, av1⟩, hK, hN⟩
theorem w_ref17_run (F : Nat) (t : Types) (p : Graph) (g : Graph) (partialx : Morph) (injective : Bool) (most : Int) (r : ((List Morph))) (h : s_ref17_run F t p g partialx injective most = some r) : PureA Tryz.prog 43 [AV.agg [nodesA (t.nodes), edgesA (t.edges)], AV.agg [intsA (p.nodes), e3sA (p.edges)], AV.agg [intsA (g.nodes), e3sA (g.edges)], AV.agg [intsA (partialx.nodes), intsA (partialx.edges)], AV.bool (injective), AV.int (most)] (morphsA (r)) := pureA_of_own' (O := O_ref17_run r) (fun σ0 => o_ref17_run F t p g partialx injective most r h σ0) (by rintro n x τ ⟨v0_, hx, av0_⟩; rw [hx]; exact av0_.frz (DataL.flatMap gd_morphC r))
end Go.Proofs.YtdacgjleiloooaaGreat
