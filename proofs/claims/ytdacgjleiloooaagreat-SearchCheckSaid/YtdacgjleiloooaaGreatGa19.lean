/-
  Plain functions and the walks that lead to them, by a program of ours (gen.py): scarfjoint/scarfjointref17.distinct.
-/
import Derived.Test.YtdacgjleiloooaaGreatGd
import Derived.Test.YtdacgjleiloooaaGreatGT
import Derived.Test.YtdacgjleiloooaaGreatB3
import Derived.Test.YtdacgjleiloooaaGreatGS
set_option linter.unusedSimpArgs false
set_option linter.unusedVariables false
namespace Go.Proofs.YtdacgjleiloooaaGreat
open Go Go.Ew Go.Proofs Go.RowKit
set_option maxRecDepth 100000
set_option maxHeartbeats 4000000 in
theorem w_ref17_distinct (l : List Int) (r : (Bool)) (h : s_ref17_distinct l = some r) : PureA Tryz.prog 71 [intsA (l)] (AV.bool (r)) := by
  refine pureA_of_SW (N := 25) Tryz.func71 (by kernel_rfl) rfl (by rw [Tryz.ntmps71]; rfl) (fun σ0 => ?_)
  rw [Tryz.results71]
  obtain ⟨fr0, hfr⟩ : ∃ fr, fr = initFr [intsA (l)] := ⟨_, rfl⟩
  rw [← hfr]
  have f0 : fr0 0 = intsA (l) := by rw [hfr]; rfl
  clear hfr
  simp only [s_ref17_distinct] at h
  refine SW.seq ?_
  -- region 0
  refine SW.regX (fun f_ t_ => σ0 = t_ ∧ f_ 0 = intsA (l)) (fun M hM => ?_) (fun fr1 τz hm => ?_)
  · simp [go_sem, f0]
    refine (hM _ _).2 ⟨rfl, ?_⟩ <;> simp [go_sem, f0]
  clear f0
  obtain ⟨rfl, f0⟩ := hm
  refine SW.seq ?_
  refine SW.seq ?_
  -- region 1
  refine SW.regX (fun f_ t_ => σ0 = t_ ∧ f_ 0 = intsA (l) ∧ f_ 3 = AV.int (0)) (fun M hM => ?_) (fun fr2 τz1 hm => ?_)
  · simp [go_sem, f0]
    refine (hM _ _).2 ⟨rfl, ?_, ?_⟩ <;> simp [go_sem, f0]
  clear f0
  obtain ⟨rfl, f0, f3⟩ := hm
  obtain ⟨oi1, hruni1, hoi1⟩ := obind h
  refine SW.len 0 f0 (fun hbigi1 => ?_)
  obtain ⟨KL, hKL⟩ : ∃ KL : Fr → Mem → Prop, ∀ fr' τ', KL fr' τ' ↔ (oi1 = .done () ∧ σ0 = τ') := ⟨_, fun _ _ => Iff.rfl⟩
  refine SW.cut KL ?_ ?_
  · refine SW.block ?_
    obtain ⟨J, hJ⟩ : ∃ J : Nat → Fr → Mem → Prop, ∀ m_ fr' τ', J m_ fr' τ' ↔ (∃ i : Nat, m_ = l.length - i ∧ forN (b1_ref17_distinct l) (l.length - i) i () = some oi1 ∧ σ0 = τ' ∧ fr' 0 = intsA (l) ∧ fr' 3 = AV.int (((i : Nat) : Int))) := ⟨_, fun _ _ _ => Iff.rfl⟩
    refine SW.loop J (l.length - 0) ((hJ _ _ _).2 ⟨0, rfl, hruni1, rfl, f0, f3⟩) ?_
    clear hruni1
    intro m_ fr3 τ hm
    rw [hJ] at hm
    clear f0 f3
    obtain ⟨i, rfl, hruni1, rfl, f0, f3⟩ := hm
    refine SW.seq ?_
    refine SW.seq ?_
    -- region 2
    refine SW.regX (fun f_ t_ => σ0 = t_ ∧ f_ 0 = intsA (l) ∧ f_ 3 = AV.int (((i : Nat) : Int)) ∧ f_ 8 = AV.bool ((decide (i < l.length)))) (fun M hM => ?_) (fun fr4 τz2 hm => ?_)
    · simp [go_sem, f0, f3]
      refine (hM _ _).2 ⟨rfl, ?_, ?_, ?_⟩ <;> simp [go_sem, f0, f3]
    clear f0 f3
    obtain ⟨rfl, f0, f3, f8⟩ := hm
    refine SW.cond _ f8 (fun hx => ?_) (fun hx => ?_)
    rotate_left
    · have hk : ¬ i < l.length := by have := of_decide_eq_false hx; omega
      refine SW.exit rfl ?_
      exact SW.goal ((hKL _ _).2 ⟨forN_end hruni1 hk, rfl⟩)
    have hki : i < l.length := by have := of_decide_eq_true hx; omega
    have hwi : IntKind.i64.wrap ((i : Int) + 1) = ((i + 1 : Nat) : Int) := by rw [wrap64_of _ (by omega) (by omega)]; rfl
    obtain ⟨ci1, hbi1, hci1⟩ := forN_step hruni1 hki
    simp only [b1_ref17_distinct] at hbi1
    refine SW.skip ?_
    refine SW.seq ?_
    refine SW.block ?_
    refine SW.seq ?_
    -- region 4
    refine SW.regX (fun f_ t_ => σ0 = t_ ∧ f_ 0 = intsA (l) ∧ f_ 3 = AV.int (((i : Nat) : Int)) ∧ f_ 4 = AV.int (0)) (fun M hM => ?_) (fun fr5 τz3 hm => ?_)
    · simp [go_sem, f0, f3, f8]
      refine (hM _ _).2 ⟨rfl, ?_, ?_, ?_⟩ <;> simp [go_sem, f0, f3, f8]
    clear f0 f3 f8
    obtain ⟨rfl, f0, f3, f4⟩ := hm
    obtain ⟨oi2, hruni2, hoi2⟩ := obind hbi1
    obtain ⟨hbigi2, hruni2⟩ := forR_run hruni2
    obtain ⟨KL, hKL⟩ : ∃ KL : Fr → Mem → Prop, ∀ fr' τ', KL fr' τ' ↔ (oi2 = .done () ∧ σ0 = τ' ∧ fr' 0 = intsA (l) ∧ fr' 3 = AV.int (((i : Nat) : Int))) := ⟨_, fun _ _ => Iff.rfl⟩
    refine SW.cut KL ?_ ?_
    · refine SW.block ?_
      obtain ⟨J, hJ⟩ : ∃ J : Nat → Fr → Mem → Prop, ∀ m_ fr' τ', J m_ fr' τ' ↔ (∃ k : Nat, m_ = i - k ∧ forN (b2_ref17_distinct l i) (i - k) k () = some oi2 ∧ σ0 = τ' ∧ fr' 0 = intsA (l) ∧ fr' 3 = AV.int (((i : Nat) : Int)) ∧ fr' 4 = AV.int (((k : Nat) : Int))) := ⟨_, fun _ _ _ => Iff.rfl⟩
      refine SW.loop J (i - 0) ((hJ _ _ _).2 ⟨0, rfl, hruni2, rfl, f0, f3, f4⟩) ?_
      clear hruni2
      intro m_ fr6 τ1 hm
      rw [hJ] at hm
      clear f0 f3 f4
      obtain ⟨k, rfl, hruni2, rfl, f0, f3, f4⟩ := hm
      refine SW.seq ?_
      refine SW.seq ?_
      -- region 5
      refine SW.regX (fun f_ t_ => σ0 = t_ ∧ f_ 0 = intsA (l) ∧ f_ 3 = AV.int (((i : Nat) : Int)) ∧ f_ 4 = AV.int (((k : Nat) : Int)) ∧ f_ 13 = AV.bool ((decide (k < i)))) (fun M hM => ?_) (fun fr7 τz4 hm => ?_)
      · simp [go_sem, f0, f3, f4]
        refine (hM _ _).2 ⟨rfl, ?_, ?_, ?_, ?_⟩ <;> simp [go_sem, f0, f3, f4]
      clear f0 f3 f4
      obtain ⟨rfl, f0, f3, f4, f13⟩ := hm
      refine SW.cond _ f13 (fun hx1 => ?_) (fun hx1 => ?_)
      rotate_left
      · have hk : ¬ k < i := by have := of_decide_eq_false hx1; omega
        refine SW.exit rfl ?_
        exact SW.goal ((hKL _ _).2 ⟨forN_end hruni2 hk, rfl, f0, f3⟩)
      have hkk : k < i := by have := of_decide_eq_true hx1; omega
      have hwk : IntKind.i64.wrap ((k : Int) + 1) = ((k + 1 : Nat) : Int) := by rw [wrap64_of _ (by omega) (by omega)]; rfl
      obtain ⟨ci2, hbi2, hci2⟩ := forN_step hruni2 hkk
      simp only [b2_ref17_distinct] at hbi2
      refine SW.skip ?_
      refine SW.seq ?_
      refine SW.block ?_
      refine SW.seq ?_
      -- region 7
      obtain ⟨n, hn, hbi2⟩ := obind hbi2
      have xln := getN_lt hn
      have xdn := getN_map AV.int hn
      obtain ⟨n1, hn1, hbi2⟩ := obind hbi2
      have xln1 := getN_lt hn1
      have xdn1 := getN_map AV.int hn1
      refine SW.regX (fun f_ t_ => σ0 = t_ ∧ f_ 0 = intsA (l) ∧ f_ 3 = AV.int (((i : Nat) : Int)) ∧ f_ 4 = AV.int (((k : Nat) : Int)) ∧ f_ 24 = AV.bool ((decide (n = n1)))) (fun M hM => ?_) (fun fr8 τz5 hm => ?_)
      · refine EW_regionD (by kernel_rfl) (by kernel_rfl) ?_
        simp [go_sem, f0, f13, f3, f4, xln, xdn, xln1, xdn1]
        refine (hM _ _).2 ⟨rfl, ?_, ?_, ?_, ?_⟩ <;> simp [go_sem, f0, f13, f3, f4, xln, xdn, xln1, xdn1]
      clear f0 f13 f3 f4
      obtain ⟨rfl, f0, f3, f4, f24⟩ := hm
      refine SW.cond _ f24 (fun hx2 => ?_) (fun hx2 => ?_)
      · have hbi2 := condT hbi2 hx2
        refine SW.seq ?_
        -- region 8
        refine SW.regX (fun f_ t_ => σ0 = t_ ∧ f_ 2 = AV.bool (false)) (fun M hM => ?_) (fun fr9 τz6 hm => ?_)
        · simp [go_sem, f0, f24, f3, f4]
          refine (hM _ _).2 ⟨rfl, ?_⟩ <;> simp [go_sem, f0, f24, f3, f4]
        clear f0 f24 f3 f4
        obtain ⟨rfl, f2⟩ := hm
        obtain rfl := Option.some.inj hbi2
        obtain rfl := Option.some.inj hci2
        obtain rfl := Option.some.inj hoi2
        obtain rfl := Option.some.inj hci1
        obtain rfl := Option.some.inj hoi1
        exact SW.ret ⟨AV.bool (false), by simp [go_sem, f2], .lit _, Keeps.refl _⟩
      have hbi2 := condF hbi2 hx2
      refine SW.skip ?_
      refine SW.blk ?_
      -- region 6
      refine SW.regX (fun f_ t_ => σ0 = t_ ∧ f_ 0 = intsA (l) ∧ f_ 3 = AV.int (((i : Nat) : Int)) ∧ f_ 4 = AV.int (((k + 1 : Nat) : Int))) (fun M hM => ?_) (fun fr10 τz7 hm => ?_)
      · simp [go_sem, f0, f24, f3, f4, hwk]
        refine (hM _ _).2 ⟨rfl, ?_, ?_, ?_⟩ <;> simp [go_sem, f0, f24, f3, f4, hwk]
      clear f0 f24 f3 f4
      obtain ⟨rfl, f0, f3, f4⟩ := hm
      obtain rfl := Option.some.inj hbi2
      exact SW.goal ⟨i - (k + 1), by omega, (hJ _ _ _).2 ⟨k + 1, rfl, hci2, rfl, f0, f3, f4⟩⟩
    intro fr11 τ2 hm
    rw [hKL] at hm
    clear hKL hruni2
    clear f0 f3 f4
    obtain ⟨rfl, rfl, f0, f3⟩ := hm
    simp only [Out.on] at hoi2
    refine SW.blk ?_
    -- region 3
    refine SW.regX (fun f_ t_ => σ0 = t_ ∧ f_ 0 = intsA (l) ∧ f_ 3 = AV.int (((i + 1 : Nat) : Int))) (fun M hM => ?_) (fun fr12 τz8 hm => ?_)
    · simp [go_sem, f0, f3, hwi]
      refine (hM _ _).2 ⟨rfl, ?_, ?_⟩ <;> simp [go_sem, f0, f3, hwi]
    clear f0 f3
    obtain ⟨rfl, f0, f3⟩ := hm
    obtain rfl := Option.some.inj hoi2
    exact SW.goal ⟨l.length - (i + 1), by omega, (hJ _ _ _).2 ⟨i + 1, rfl, hci1, rfl, f0, f3⟩⟩
  intro fr13 τ3 hm
  rw [hKL] at hm
  clear hKL hruni1
  clear f0 f3
  obtain ⟨rfl, rfl⟩ := hm
  simp only [Out.on] at hoi1
  refine SW.seq ?_
  -- region 9
  refine SW.regX (fun f_ t_ => σ0 = t_ ∧ f_ 2 = AV.bool (true)) (fun M hM => ?_) (fun fr14 τz9 hm => ?_)
  · simp [go_sem]
    refine (hM _ _).2 ⟨rfl, ?_⟩ <;> simp [go_sem]
  obtain ⟨rfl, f2⟩ := hm
  obtain rfl := Option.some.inj hoi1
  exact SW.ret ⟨AV.bool (true), by simp [go_sem, f2], .lit _, Keeps.refl _⟩
end Go.Proofs.YtdacgjleiloooaaGreat
