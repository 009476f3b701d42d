import Derived.Test.YtkjikcmjcdlifaaT12
namespace Go.Proofs.Ytkjikcmjcdlifaa
open Go Go.Ew Go.Proofs Go.RowKit
set_option maxRecDepth 10000
/-- What 'quoted' of the reference hands back at a place. -/
def rqF (s : List UInt8) (a : Nat) : Nat :=
  if a + 1 + ((s.drop (a + 1)).takeWhile qU).length < s.length ∧ s.getD (a + 1 + ((s.drop (a + 1)).takeWhile qU).length) 0 = 34 then ((s.drop (a + 1)).takeWhile qU).length + 2 else 0
def RqInv (s : List UInt8) (a : Nat) (σ : Mem) (n : Nat) (fr : Fr) (τ : Mem) : Prop :=
  ∃ i : Nat, 1 ≤ i ∧ a + i ≤ s.length ∧ n = s.length - (a + i) ∧ i + ((s.drop (a + i)).takeWhile qU).length = 1 + ((s.drop (a + 1)).takeWhile qU).length ∧ fr 0 = .str s ∧ fr 1 = .int a ∧ fr 5 = .int i ∧ τ = σ
theorem rquoted_ev (s : List UInt8) (a : Nat) (ha : a < s.length) (hs : s.length ≤ 9223372036854774000) : PureA Try.prog 54 [.str s, .int a] (.int (rqF s a)) := by
  refine pureA_of Try.func54 rfl (by kernel_rfl) (fun σ => ?_)
  simp [go_sem, Try.results54, Try.ntmps54]
  unfold rqF
  refine EW_loop (RqInv s a σ) (s.length - (a + 1)) ⟨1, by omega, by omega, rfl, rfl, by simp [go_sem], by simp [go_sem], by simp [go_sem], rfl⟩ ?_
  rintro n fr τ ⟨i, hi1, hi, rfl, hR, h0, h1, h5, rfl⟩
  obtain ⟨j, hj⟩ : ∃ j, j = a + i := ⟨_, rfl⟩
  have hw : IntKind.i64.wrap ((a : Int) + i) = (j : Int) := by rw [wrap64_of _ (by omega) (by omega)]; omega
  have hwi : IntKind.i64.wrap ((i : Int) + 1) = ((i + 1 : Nat) : Int) := by rw [wrap64_of _ (by omega) (by omega)]; rfl
  simp only [← hj] at hR hi
  generalize hM : ((s.drop (a + 1)).takeWhile qU).length = m at hR ⊢
  simp [go_sem, h0, h1, h5, hw]
  by_cases hlt : j < s.length
  · rw [takeWhile_drop _ s j hlt] at hR
    have u34 := u8_lit s[j] 34 (by decide)
    simp at u34
    simp [go_sem, hlt, h0, h1, h5, hw]
    by_cases h34 : s[j] = 34
    · rw [if_neg (by simp [qU, isQ, h34])] at hR
      have hm : m = i - 1 := by simp at hR; omega
      have : a + 1 + m = j := by omega
      simp [go_sem, h34, h5, this, hlt, hwi]
      omega
    · by_cases hq : qU s[j] = true
      · rw [if_pos hq] at hR
        have hq' := hq
        simp only [qU, isQ, Bool.and_eq_true, decide_eq_true_eq] at hq'
        simp [go_sem, u34, h34, show ¬ ((s[j].toNat : Int) < 32) by omega, show ¬ ((126 : Int) < s[j].toNat) by omega, h5]
        exact ⟨s.length - (j + 1), by omega, i + 1, by omega, by omega, by rw [show a + (i + 1) = j + 1 by omega], by rw [show a + (i + 1) = j + 1 by omega]; simp only [List.length_cons] at hR; omega, by simp [go_sem, h0], by simp [go_sem, h1], by simp [go_sem]; exact hwi, rfl⟩
      · rw [if_neg hq] at hR
        have hm : m = i - 1 := by simp at hR; omega
        have he : a + 1 + m = j := by omega
        have hout : (s[j].toNat : Int) < 32 ∨ (126 : Int) < s[j].toNat := by
          by_cases c1 : (s[j].toNat : Int) < 32
          · exact .inl c1
          · by_cases c2 : (126 : Int) < s[j].toNat
            · exact .inr c2
            · exact absurd (by simp [qU, isQ, u34, h34]; omega) hq
        by_cases c1 : (s[j].toNat : Int) < 32
        · simp [go_sem, u34, h34, c1, he, hlt]
        · have c2 := hout.resolve_left c1
          simp [go_sem, u34, h34, c1, c2, he, hlt]
  · have : s.drop j = [] := List.drop_eq_nil_of_le (by omega)
    rw [this] at hR
    have hm : ¬ a + 1 + m < s.length := by simp at hR; omega
    simp [go_sem, hlt, hm]
theorem right2_iff (s : List UInt8) : rightF 2 s = true ↔ s ≠ [] ∧ (∀ c ∈ s, digitU c = true) ∧ s.length ≤ 9 := by
  have disj : ∀ c : UInt8, digitU c = true → letterU c = false := fun c h => by
    simp only [digitU, isDigit, Bool.and_eq_true, decide_eq_true_eq] at h
    have h1 : ¬ ((97 : Int) ≤ c.toNat) := by omega
    have h2 : ¬ ((65 : Int) ≤ c.toNat) := by omega
    simp [letterU, isLetter, h1, h2]
  have all : ∀ l : List UInt8, (l.takeWhile digitU).length = l.length ↔ ∀ c ∈ l, digitU c = true := fun l => by
    induction l with
    | nil => simp
    | cons c l ih =>
      by_cases hc : digitU c = true
      · simp [hc, ih]
      · simp [hc]
  match s with
  | [] => simp [rightF]
  | c :: t =>
    have hp : 0 < (c :: t).length := by simp
    simp only [rightF, Bool.and_eq_true, decide_eq_true_eq, nextF_eq (c :: t) hp]
    rw [← all (c :: t)]
    constructor
    · rintro ⟨⟨⟨_, h1⟩, h2⟩, h3⟩
      split at h2
      · split at h2 <;> cases h2
      · split at h2
        · rename_i hl hd
          rw [if_neg hl, if_pos hd] at h3
          split at h2
          · cases h2
          · rename_i h9
            rw [if_neg h9] at h3
            simp only at h3
            exact ⟨by simp, h3, by omega⟩
        · split at h2
          · cases h2
          · split at h2
            · cases h2
            · split at h2 <;> cases h2
    · rintro ⟨_, h1, h2⟩
      have hd := (all (c :: t)).1 h1 c (by simp)
      have hl := disj c hd
      simp only [List.getElem_cons_zero, hl, Bool.false_eq_true, if_false, hd, if_true, h1, show ¬ 9 < (c :: t).length by omega]
      simp
theorem numStep0 : numStep 0 48 = 0 := by kernel_rfl
theorem numF_zero (s : List UInt8) : numF (48 :: s) = numF s := by
  unfold numF
  rw [List.foldl_cons, numStep0]
theorem right2_zero (s : List UInt8) (h : rightF 2 s = true) (h8 : s.length ≤ 8) : rightF 2 (48 :: s) = true := by
  rw [right2_iff] at h ⊢
  refine ⟨by simp, fun c hc => ?_, by simp; omega⟩
  rcases List.mem_cons.1 hc with rfl | hc
  · decide +kernel
  · exact h.2.1 c hc
end Go.Proofs.Ytkjikcmjcdlifaa
