import Derived.Test.YtkjikcmjcdlifaaT24
import Derived.Test.YtkjikcmjcdlifaaT14
namespace Go.Proofs.Ytkjikcmjcdlifaa
open Go Go.Ew Go.Proofs Go.RowKit
set_option maxRecDepth 10000
def isWhite (c : Int) : Bool := decide (c = 32) || decide (c = 9) || decide (c = 13) || decide (c = 10)
theorem rwhite_ev (c : Int) : PureA Try.prog 37 [.u8 c] (.bool (isWhite c)) := by
  refine pureA_of Try.func37 rfl (by kernel_rfl) (fun σ => ?_)
  simp [go_sem, Try.results37, Try.ntmps37]
  by_cases h1 : c = 32
  · simp [go_sem, h1, isWhite]
  by_cases h2 : c = 9
  · simp [go_sem, h2, isWhite]
  by_cases h3 : c = 13
  · simp [go_sem, h3, isWhite]
  simp [go_sem, h1, h2, h3, isWhite]
def twN (s : List UInt8) (j : Nat) : Nat := ((s.drop j).takeWhile nlU).length
theorem twN_step (s : List UInt8) (j : Nat) (h : j < s.length) : twN s j = if nlU s[j] then twN s (j + 1) + 1 else 0 := by
  unfold twN
  rw [takeWhile_drop nlU s j h]
  split <;> simp
def HInv (s : List UInt8) (i : Nat) (x5 : AV) (line : Int) (τ0 : Mem) (n : Nat) (fr : Fr) (τ : Mem) : Prop :=
  ∃ j : Nat, i ≤ j ∧ j ≤ s.length ∧ n = s.length - j ∧ j + twN s j = i + twN s i ∧ fr 0 = .str s ∧ fr 5 = x5 ∧ fr 6 = .int line ∧ fr 7 = .int j ∧ τ = τ0
def RInv (s : List UInt8) (σ : Mem) (n : Nat) (fr : Fr) (τ : Mem) : Prop :=
  ∃ (i : Nat) (line : Int) (out : List Tk), i ≤ s.length ∧ s.length - i < n ∧ out.length ≤ 4000 ∧ tokLoop n (s.drop i) line out = tokensF s ∧ fr 0 = .str s ∧ fr 6 = .int line ∧ fr 7 = .int i ∧ TksAt σ.next τ (fr 5) out ∧ Keeps σ τ ∧ σ.next ≤ τ.next
theorem rtokens_ev (s : List UInt8) : PureA Try.prog 22 [.str s] (tokD (tokensF s)) := by
  refine pureA_of Try.func22 rfl (by kernel_rfl) (fun σ => ?_)
  simp [go_sem, Try.results22, Try.ntmps22]
  by_cases hbig : 20000 < s.length
  · simp [go_sem, hbig, show (20000 : Int) < s.length by omega, tokensF, tokD, tksC]
  simp [go_sem, show ¬ (20000 : Int) < s.length by omega]
  have hF : tokensF s = tokLoop (s.length + 1) s 1 [] := by simp [tokensF, hbig]
  refine EW_loop (RInv s σ) (s.length + 1) ?_ ?_
  · exact ⟨0, 1, [], by omega, by omega, by simp, by rw [List.drop_zero]; exact hF.symm, by simp [go_sem], by simp [go_sem], by simp [go_sem], .inl ⟨by simp [go_sem], rfl⟩, Keeps.refl _, Nat.le_refl _⟩
  rintro n fr τ ⟨i, line, out, hi, hn, hout, hR, h0, h6, h7, h5, hK, hN⟩
  obtain ⟨f, rfl⟩ : ∃ f, n = f + 1 := ⟨n - 1, by omega⟩
  simp [go_sem, h0, h7]
  by_cases hlt : i < s.length
  · have hpos : 0 < (s.drop i).length := by simp; omega
    have hne : s.drop i ≠ [] := List.length_pos_iff.1 hpos
    have hd : (s.drop i).headD 0 = s[i] := by rw [headD_zero _ hpos]; simp
    have htail : (s.drop i).tail = s.drop (i + 1) := by rw [List.tail_drop]
    have hwi : IntKind.i64.wrap ((i : Int) + 1) = ((i + 1 : Nat) : Int) := by rw [wrap64_of _ (by omega) (by omega)]; rfl
    rw [tokLoop, if_neg hne, hd, htail] at hR
    have c10 := u8_lit s[i] 10 (by decide)
    have c32 := u8_lit s[i] 32 (by decide)
    have c9 := u8_lit s[i] 9 (by decide)
    have c13 := u8_lit s[i] 13 (by decide)
    have c35 := u8_lit s[i] 35 (by decide)
    simp at c10 c32 c9 c13 c35
    simp [go_sem, hlt, h0, h7]
    by_cases e35 : s[i] = 35
    · rw [if_neg (by rw [e35]; decide), if_neg (by rw [e35]; decide), if_pos e35] at hR
      simp [go_sem, c35, e35]
      have htw : ((s.drop i).takeWhile nlU).length = twN s i := rfl
      rw [htw, List.drop_drop] at hR
      have htp : 1 ≤ twN s i := by
        have := takeWhile_pos nlU (s.drop i) hpos (by simp [e35]; decide)
        exact this
      have htl : twN s i ≤ s.length - i := by
        have := takeWhile_le nlU (s.drop i)
        simp only [List.length_drop] at this
        exact this
      refine EW_loop (HInv s i (fr 5) line τ) (s.length - i) ⟨i, by omega, by omega, rfl, rfl, h0, rfl, h6, h7, rfl⟩ ?_
      rintro n2 fr2 τ2 ⟨j, hj1, hj2, rfl, hjt, g0, g5, g6, g7, rfl⟩
      simp [go_sem, g0, g7]
      have fin : j + twN s j = j → ∃ m, m < f + 1 ∧ RInv s σ m fr2 τ2 := fun hz =>
        ⟨f, by omega, j, line, out, hj2, by omega, hout, by rw [show j = i + twN s i by omega]; exact hR, g0, g6, g7, by rw [g5]; exact h5, hK, hN⟩
      by_cases hjl : j < s.length
      · have hwj : IntKind.i64.wrap ((j : Int) + 1) = ((j + 1 : Nat) : Int) := by rw [wrap64_of _ (by omega) (by omega)]; rfl
        have hst := twN_step s j hjl
        have cj10 := u8_lit s[j] 10 (by decide)
        simp at cj10
        simp [go_sem, hjl, g0, g7]
        by_cases hj10 : s[j] = 10
        · have hnl : nlU s[j] = false := by rw [hj10]; decide
          rw [hnl] at hst
          simp only [Bool.false_eq_true, if_false] at hst
          simp [go_sem, cj10, hj10]
          exact fin (by omega)
        · have hnl : nlU s[j] = true := by simp [nlU, cj10, hj10]
          rw [hnl] at hst
          simp only [if_true] at hst
          simp [go_sem, cj10, hj10, g7]
          exact ⟨s.length - (j + 1), by omega, j + 1, by omega, by omega, rfl, by omega, by simp [go_sem, g0], by simp [go_sem, g5], by simp [go_sem, g6], by simp [go_sem]; exact hwj, rfl⟩
      · have hz : twN s j = 0 := by
          unfold twN
          rw [List.drop_eq_nil_of_le (by omega)]; rfl
        simp [go_sem, hjl]
        exact fin (by omega)
    simp [go_sem, c35, e35, h0, h7, hlt]
    refine EWcall_pure (rwhite_ev _) ?_
    have hwh : isWhite s[i].toNat = (decide (s[i] = 32) || decide (s[i] = 9) || decide (s[i] = 13) || decide (s[i] = 10)) := by
      simp [isWhite, c32, c9, c13, c10]
    rw [hwh]
    by_cases e10 : s[i] = 10
    · rw [if_pos e10] at hR
      simp [go_sem, e10, h0, h7, hlt, h6]
      exact ⟨f, by omega, i + 1, _, out, by omega, by omega, hout, hR, by simp [go_sem, h0], by simp [go_sem], by simp [go_sem]; exact hwi, by simp [go_sem]; exact h5, hK, hN⟩
    rw [if_neg e10] at hR
    by_cases ew : s[i] = 32 ∨ s[i] = 9 ∨ s[i] = 13
    · rw [if_pos ew] at hR
      have hb : (decide (s[i] = 32) || decide (s[i] = 9) || decide (s[i] = 13) || decide (s[i] = 10)) = true := by simp only [Bool.or_eq_true, decide_eq_true_eq]; rcases ew with h | h | h <;> simp [h]
      rw [hb]
      simp [go_sem, c10, e10, h0, h7, hlt]
      exact ⟨f, by omega, i + 1, _, out, by omega, by omega, hout, hR, by simp [go_sem, h0], by simp [go_sem, h6], by simp [go_sem]; exact hwi, by simp [go_sem]; exact h5, hK, hN⟩
    rw [if_neg ew, if_neg e35] at hR
    simp only [not_or] at ew
    simp [go_sem, e10, ew.1, ew.2.1, ew.2.2, h0, h7]
    refine EWcall_pure (one_ev s i hlt (by omega)) ?_
    have hok := nextF_ok (s.drop i) hpos
    unfold oneT oneN
    generalize nextF (s.drop i) = r at hR hok
    obtain ⟨k, m, e⟩ := r
    simp only at hR hok
    by_cases he : e = 0
    · subst he
      obtain ⟨hm1, hm2, hm3⟩ := hok rfl
      simp only [List.length_drop] at hm2
      rw [if_neg (by simp), List.drop_drop] at hR
      obtain ⟨q, hq⟩ : ∃ q, q = i + m := ⟨_, rfl⟩
      have hw : IntKind.i64.wrap ((i : Int) + m) = (q : Int) := by rw [wrap64_of _ (by omega) (by omega)]; omega
      rw [← hq] at hR
      have htx : (if k = 3 then (s.drop (i + 1)).take (m - 2) else (s.drop i).take m) = (if k = 3 then List.take (m - 2) (s.drop (i + 1)) else List.take m (s.drop i)) := rfl
      generalize (if k = 3 then (s.drop (i + 1)).take (m - 2) else (s.drop i).take m) = tx at hR
      simp only [if_true]
      by_cases h4 : out.length = 4000
      · rw [if_pos h4] at hR
        rw [← hR]
        rcases h5 with ⟨e5, rfl⟩ | ⟨id, e5, hg, ht, hid, hidl, hne'⟩
        · simp at h4
        simp [go_sem, e5, h4, h6, get_alloc, get_set]
        refine ⟨frz_tokD line 3 (.inl ⟨rfl, rfl⟩), ?_⟩
        rw [keeps_set _ _ hN, keeps_alloc _ _ hN]; exact hK
      · rw [if_neg h4] at hR
        rcases h5 with ⟨e5, rfl⟩ | ⟨id, e5, hg, ht, hid, hidl, hne'⟩
        · simp [go_sem, e5, h6, h7, hw, get_alloc, get_set, next_set, next_alloc]
          refine ⟨f, by omega, q, line, _, by omega, by omega, by simp, hR, by simp [go_sem, h0], by simp [go_sem, h6], by simp [go_sem], .inr ⟨τ.next + 1 + 1, by simp [go_sem], by simp [get_alloc, get_set, next_alloc, next_set, next_kill, tksC, tkC], by simp [ty_alloc, ty_set, next_alloc, next_set], by omega, by simp [next_alloc, next_set], by simp⟩, ?_, by simp [next_alloc, next_set]; omega⟩
          intro j hj
          simp [get_alloc, get_set, get_kill, next_alloc, next_set, next_kill, show j ≠ τ.next by omega, show j ≠ τ.next + 1 by omega, show j ≠ τ.next + 1 + 1 by omega]
          exact hK j hj
        · have hcl := tksC_len out
          have hT : (tksC out).take (out.length * 3) = tksC out := List.take_of_length_le (by omega)
          have hin : ¬ id = τ.next := by omega
          have hin1 : ¬ id = τ.next + 1 := by omega
          have h4' : ¬ (out.length : Int) = 4000 := by omega
          simp [go_sem, e5, h6, h7, hw, h4, h4', hg, ht, hin, hin1, hcl, get_alloc, get_set, get_kill, ty_alloc, ty_set, next_set, next_alloc, next_kill, show (out.length + 1) * 32 ≤ 140737488355328 by omega, show out.length ≤ 9223372036854775806 by omega]
          refine ⟨f, by omega, q, line, _, by omega, by omega, by simp; omega, hR, by simp [go_sem, h0], by simp [go_sem, h6], by simp [go_sem], .inr ⟨τ.next + 1 + 1, by simp [go_sem], by simp [get_alloc, get_set, get_kill, next_alloc, next_set, next_kill, hT, tksC_snoc, tkC], by simp [ty_alloc, ty_set, next_alloc, next_set, next_kill], by omega, by simp [next_alloc, next_set, next_kill], by simp⟩, ?_, by simp [next_alloc, next_set, next_kill]; omega⟩
          intro j hj
          simp [get_alloc, get_set, get_kill, next_alloc, next_set, next_kill, show j ≠ τ.next by omega, show j ≠ τ.next + 1 by omega, show j ≠ τ.next + 1 + 1 by omega, show j ≠ id by omega]
          exact hK j hj
    · rw [if_pos he] at hR
      rw [← hR]
      simp [go_sem, he, h6, get_alloc, get_set]
      refine ⟨frz_tokD line e (.inl ⟨rfl, rfl⟩), ?_⟩
      rw [keeps_set _ _ hN, keeps_alloc _ _ hN]; exact hK
  · rw [tokLoop, if_pos (List.drop_eq_nil_of_le (by omega))] at hR
    rw [← hR]
    simp [go_sem, hlt]
    exact ⟨frz_tokD 0 0 h5, hK⟩
theorem tokensF_len (s : List UInt8) : (tokensF s).1.length ≤ 4000 := by
  unfold tokensF
  split
  · simp
  · have : ∀ (f : Nat) (s : List UInt8) (line : Int) (out : List Tk), out.length ≤ 4000 → (tokLoop f s line out).1.length ≤ 4000 := by
      intro f
      induction f with
      | zero => intro s line out h; exact h
      | succ f ih =>
        intro s line out h
        rw [tokLoop]
        repeat' split
        all_goals first | exact ih _ _ _ h | exact h | (simp; done) | skip
        all_goals exact ih _ _ _ (by simp; omega)
    exact this _ _ _ _ (by simp)
theorem tokenTokens_ev (s : List UInt8) : PureA Try.prog 6 [.str s] (.bool true) := by
  refine pureA_of Try.func6 rfl (by kernel_rfl) (fun σ => ?_)
  simp [go_sem, Try.results6, Try.ntmps6]
  refine EWcall_pure awake_ev ?_
  by_cases h1 : 3000 < s.length
  · by_cases h2 : s.length ≤ 20000
    · simp [go_sem, show (3000 : Int) < s.length by omega, show (s.length : Int) ≤ 20000 by omega]
      refine EWcall_pure awake_ev ?_
      simp [go_sem]
    · simp [go_sem, show (3000 : Int) < s.length by omega, show ¬ (s.length : Int) ≤ 20000 by omega]
      refine EWcall_pure (tokens_ev s) ?_
      simp [go_sem, tokD]
      refine EWcall_pure (rtokens_ev s) ?_
      simp [go_sem, tokD]
      refine EWcall_pure (equal_ev _ _ (by have := tokensF_len s; omega)) ?_
      rw [equalF_self]
      simp [go_sem]
  · simp [go_sem, show ¬ (3000 : Int) < s.length by omega]
    refine EWcall_pure (tokens_ev s) ?_
    simp [go_sem, tokD]
    refine EWcall_pure (rtokens_ev s) ?_
    simp [go_sem, tokD]
    refine EWcall_pure (equal_ev _ _ (by have := tokensF_len s; omega)) ?_
    rw [equalF_self]
    simp [go_sem]
end Go.Proofs.Ytkjikcmjcdlifaa
