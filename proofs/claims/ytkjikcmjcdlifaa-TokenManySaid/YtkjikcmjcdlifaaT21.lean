import Derived.Test.YtkjikcmjcdlifaaT19
namespace Go.Proofs.Ytkjikcmjcdlifaa
open Go Go.Ew Go.Proofs Go.RowKit
set_option maxRecDepth 10000
def MInv (b c w : Nat) (σ : Mem) (n : Nat) (fr : Fr) (τ : Mem) : Prop :=
  ∃ i : Nat, i ≤ c ∧ n = c - i ∧ fr 5 = .int c ∧ fr 6 = .int w ∧ fr 7 = .ptr b 0 ∧ fr 21 = .int c ∧ fr 22 = .int i ∧ Bd σ.next τ b (restT w 0 i) ∧ Keeps σ τ ∧ σ.next ≤ τ.next
theorem tokenMany_ev (n r : Nat) (hr : r < 256) : PureA Try.prog 4 [.lit (.int .u16 n), .lit (.int .u8 r)] (.bool true) := by
  refine pureA_of Try.func4 rfl (by kernel_rfl) (fun σ => ?_)
  simp [go_sem, Try.results4, Try.ntmps4]
  refine EWcall_pure awake_ev ?_
  obtain ⟨q, hq, hq2⟩ : ∃ q : Nat, ((n : Int).tmod 20) = q ∧ q < 20 := ⟨n % 20, by rw [Int.tmod_eq_emod_of_nonneg (by omega)]; omega, by omega⟩
  obtain ⟨c, hc⟩ : ∃ c : Nat, c = 3990 + q := ⟨_, rfl⟩
  obtain ⟨w, hw⟩ : ∃ w : Nat, w = 1 + r := ⟨_, rfl⟩
  have w1 : IntKind.i64.wrap (q : Int) = q := wrap64_of _ (by omega) (by omega)
  have w2 : IntKind.i64.wrap (3990 + (q : Int)) = (c : Int) := by rw [wrap64_of _ (by omega) (by omega)]; omega
  have w3 : IntKind.i64.wrap (r : Int) = r := wrap64_of _ (by omega) (by omega)
  have w4 : IntKind.i64.wrap (1 + (r : Int)) = (w : Int) := by rw [wrap64_of _ (by omega) (by omega)]; omega
  simp [go_sem, hq, w1, w2, w3, w4]
  refine EW_loop (MInv σ.next c w σ) c ?_ ?_
  · refine ⟨0, by omega, by omega, by simp [go_sem], by simp [go_sem], by simp [go_sem], by simp [go_sem], by simp [go_sem], ⟨.lit (.pointer none), .nils, ?_, ?_, Nat.le_refl _, ?_, .inl rfl, .inl ⟨rfl, rfl⟩⟩, ?_, ?_⟩
    · simp [get_alloc]
    · simp [ty_alloc]
    · simp [next_alloc]
    · rw [keeps_alloc _ _ (Nat.le_refl _)]; exact Keeps.refl _
    · simp [next_alloc]
  rintro m fr τ ⟨i, hi, rfl, h5, h6, h7, h21, h22, hB, hK, hN⟩
  have hlen := restT_len w i 0
  simp [go_sem, h21, h22]
  by_cases hlt : i < c
  · have hwi : IntKind.i64.wrap ((i : Int) + 1) = ((i + 1 : Nat) : Int) := by rw [wrap64_of _ (by omega) (by omega)]; rfl
    have hs := restT_snoc w i 0
    rw [Nat.zero_add] at hs
    have hm : (i : Int).tmod w = ((i % w : Nat) : Int) := by rw [Int.tmod_eq_emod_of_nonneg (by omega)]; rfl
    have h2 : (i : Int).tmod 2 = ((i % 2 : Nat) : Int) := by rw [Int.tmod_eq_emod_of_nonneg (by omega)]; rfl
    have hw0 : ¬ w = 0 := by omega
    have fin : ∀ (τ1 : Mem), Bd σ.next τ1 σ.next (restT w 0 i ++ (if 0 < i ∧ i % w = 0 then [10] else [])) → Keeps σ τ1 → σ.next ≤ τ1.next → ∀ s : List UInt8, s = [if i % 2 = 0 then 97 else 59] →
        CallA Try.prog 14 [.ptr σ.next 0, .str s] τ1 fun _ τ2 => Bd σ.next τ2 σ.next (restT w 0 (i + 1)) ∧ Keeps σ τ2 ∧ σ.next ≤ τ2.next := by
      rintro τ1 hB1 hK1 hN1 s rfl
      refine (writeString_ev hB1 ?_).mono ?_
      · simp only [List.length_append]; split <;> simp <;> omega
      · rintro x τ2 ⟨hB2, hN2, hK2⟩
        refine ⟨?_, keeps_of hK1 hK2, by omega⟩
        rw [hs, chunk]
        rw [List.append_assoc] at hB2
        exact hB2
    obtain ⟨p, hp, hp2⟩ : ∃ p : Nat, i % 2 = p ∧ p < 2 := ⟨_, rfl, by omega⟩
    rw [hp] at h2 fin
    obtain ⟨p1, hp1⟩ : ∃ p1 : Nat, p1 = p + 1 := ⟨_, rfl⟩
    have w5 : IntKind.i64.wrap ((p : Int) + 1) = (p1 : Int) := by rw [wrap64_of _ (by omega) (by omega)]; omega
    have hsl : (List.take (p1 - p) (List.drop p [97, 59]) : List UInt8) = [if p = 0 then 97 else 59] := by
      rcases (by omega : p = 0 ∨ p = 1) with rfl | rfl <;> subst hp1 <;> rfl
    by_cases hnl : 0 < i ∧ i % w = 0
    · rw [if_pos hnl] at fin
      simp [go_sem, hlt, h22, h6, h7, hnl.1, hm, hnl.2, hw0]
      refine EWcall_of (writeString_ev hB (by simp; omega)) ?_
      rintro x τ1 ⟨hB1, hN1, hK1⟩
      simp [go_sem, h2, w5, h7, show (p : Int) ≤ p1 by omega, show (p1 : Int) ≤ 2 by omega, hsl]
      refine EWcall_of (fin τ1 hB1 (keeps_of hK hK1) (by omega) _ rfl) ?_
      rintro y τ2 ⟨hB2, hK2, hN2⟩
      simp [go_sem, h22]
      exact ⟨c - (i + 1), by omega, i + 1, by omega, rfl, by simp [go_sem, h5], by simp [go_sem, h6], by simp [go_sem, h7], by simp [go_sem, h21], by simp [go_sem]; exact hwi, hB2, hK2, hN2⟩
    · rw [if_neg hnl] at fin
      have fin' := fin τ (by rw [List.append_nil]; exact hB) hK hN _ rfl
      have tail : ∀ fr' : Fr, fr' 5 = .int c → fr' 6 = .int w → fr' 7 = .ptr σ.next 0 → fr' 21 = .int c → fr' 22 = .int ((i + 1 : Nat) : Int) → ∀ τ2, Bd σ.next τ2 σ.next (restT w 0 (i + 1)) → Keeps σ τ2 → σ.next ≤ τ2.next → ∃ m, m < c - i ∧ MInv σ.next c w σ m fr' τ2 :=
        fun fr' a5 a6 a7 a21 a22 τ2 b1 b2 b3 => ⟨c - (i + 1), by omega, i + 1, by omega, rfl, a5, a6, a7, a21, a22, b1, b2, b3⟩
      by_cases hi0 : 0 < i
      · have hnm : ¬ i % w = 0 := fun h => hnl ⟨hi0, h⟩
        have hnm' : ¬ (i : Int) % (w : Int) = 0 := fun h => hnm (by exact_mod_cast h)
        simp [go_sem, hlt, h22, h6, h7, hi0, hm, hnm', hw0, h2, w5, show (p : Int) ≤ p1 by omega, show (p1 : Int) ≤ 2 by omega, hsl]
        refine EWcall_of fin' ?_
        rintro y τ2 ⟨hB2, hK2, hN2⟩
        simp [go_sem, h22]
        exact tail _ (by simp [go_sem, h5]) (by simp [go_sem, h6]) (by simp [go_sem, h7]) (by simp [go_sem, h21]) (by simp [go_sem]; exact hwi) τ2 hB2 hK2 hN2
      · simp [go_sem, hlt, h22, h7, hi0, h2, w5, show (p : Int) ≤ p1 by omega, show (p1 : Int) ≤ 2 by omega, hsl]
        refine EWcall_of fin' ?_
        rintro y τ2 ⟨hB2, hK2, hN2⟩
        simp [go_sem, h22]
        exact tail _ (by simp [go_sem, h5]) (by simp [go_sem, h6]) (by simp [go_sem, h7]) (by simp [go_sem, h21]) (by simp [go_sem]; exact hwi) τ2 hB2 hK2 hN2
  · have : i = c := by omega
    subst this
    have hlaw := many_tokens w i (by omega) (by omega)
    simp [go_sem, h7]
    refine EWcall_of (string_ev hB) ?_
    rintro x τ3 ⟨rfl, hN3, hK3⟩
    simp [go_sem]
    refine EWcall_pure (tokens_ev _ (by omega)) ?_
    generalize tokensF (restT w 0 i) = r at hlaw
    obtain ⟨tk, ln, er⟩ := r
    have hK4 := keeps_of hK hK3
    by_cases h4 : i ≤ 4000
    · rw [if_pos h4] at hlaw
      simp only [Prod.mk.injEq] at hlaw
      obtain ⟨e1, rfl, rfl⟩ := hlaw
      simp [go_sem, tokD, h5, show (i : Int) ≤ 4000 by omega, e1, hK4]
    · rw [if_neg h4] at hlaw
      simp only [Prod.mk.injEq] at hlaw
      obtain ⟨rfl, rfl, rfl⟩ := hlaw
      have hdv : (4000 : Int).tdiv w = ((4000 / w : Nat) : Int) := by rw [Int.tdiv_eq_ediv_of_nonneg (by omega)]; rfl
      have hle : 4000 / w ≤ 4000 := Nat.div_le_self _ _
      generalize 4000 / w = d at *
      have w6 : IntKind.i64.wrap (d : Int) = (d : Int) := wrap64_of _ (by omega) (by omega)
      have w7 : IntKind.i64.wrap (1 + (d : Int)) = ((1 + d : Nat) : Int) := by rw [wrap64_of _ (by omega) (by omega)]; omega
      have hw0 : ¬ w = 0 := by omega
      simp [go_sem, tokD, h5, h6, show ¬ (i : Int) ≤ 4000 by omega, hw0, hdv, w6, w7, hK4]
end Go.Proofs.Ytkjikcmjcdlifaa
