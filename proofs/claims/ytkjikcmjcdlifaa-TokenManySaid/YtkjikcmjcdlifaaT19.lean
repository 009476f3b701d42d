import Derived.Test.YtkjikcmjcdlifaaT11
namespace Go.Proofs.Ytkjikcmjcdlifaa
open Go Go.Ew Go.Proofs Go.RowKit
set_option maxRecDepth 10000
/-! ### The plain law of TokenMany: what the text of many tokens comes to -/
def chunk (w i : Nat) : List UInt8 := (if 0 < i ∧ i % w = 0 then [10] else []) ++ [if i % 2 = 0 then 97 else 59]
def restT (w : Nat) : Nat → Nat → List UInt8
  | _, 0 => []
  | i, m + 1 => chunk w i ++ restT w (i + 1) m
theorem restT_len (w : Nat) : ∀ (m i : Nat), (restT w i m).length ≤ 2 * m
  | 0, _ => Nat.le_refl _
  | m + 1, i => by
    have := restT_len w m (i + 1)
    simp only [restT, chunk, List.length_append, List.length_singleton]
    split <;> simp <;> omega
theorem restT_snoc (w : Nat) : ∀ (m i : Nat), restT w i (m + 1) = restT w i m ++ chunk w (i + m)
  | 0, i => by simp [restT]
  | m + 1, i => by
    rw [restT, restT_snoc w m (i + 1), restT, List.append_assoc, show i + 1 + m = i + (m + 1) by omega]
theorem next_a (R : List UInt8) (h : R = [] ∨ partU (R.headD 0) = false) : nextF (97 :: R) = (1, 1, 0) := by
  have h1 : letterU 97 = true := by decide
  have h2 : partU 97 = true := by decide
  have e : ((97 :: R).takeWhile partU).length = 1 := by
    rcases h with rfl | h
    · simp [h2]
    · cases R with
      | nil => simp [h2]
      | cons c R => simp at h; simp [h2, h]
  rw [nextF_eq _ (by simp)]
  simp only [List.getElem_cons_zero, h1, if_true, e]
  rfl
theorem next_semi (R : List UInt8) : nextF (59 :: R) = (4, 1, 0) := by
  have h3 : pairF (59 :: R) = false := by
    cases R with
    | nil => rfl
    | cons c R => simp [pairF, hasF, pairs]
  rw [nextF_eq _ (by simp)]
  simp only [List.getElem_cons_zero, h3, show letterU 59 = false by decide, show digitU 59 = false by decide, show ¬ (59 : UInt8) = 34 by decide, show singles.contains 59 = true by decide, if_true, if_false, Bool.false_eq_true]
theorem restT_head (w i m : Nat) (hi : i % 2 = 1) : restT w i m = [] ∨ partU ((restT w i m).headD 0) = false := by
  cases m with
  | zero => exact .inl rfl
  | succ m =>
    refine .inr ?_
    simp only [restT, chunk, hi]
    split
    · exact (by decide : partU 10 = false)
    · exact (by decide : partU 59 = false)
theorem line_step (w i : Nat) (_ : 0 < w) : (if 0 < i ∧ i % w = 0 then 1 + (i - 1) / w + 1 else 1 + (i - 1) / w) = 1 + i / w := by
  by_cases h0 : i = 0
  · subst h0; simp
  · obtain ⟨j, rfl⟩ : ∃ j, i = j + 1 := ⟨i - 1, by omega⟩
    rw [Nat.add_sub_cancel, Nat.succ_div]
    by_cases h1 : (j + 1) % w = 0
    · rw [if_pos ⟨by omega, h1⟩, if_pos (Nat.dvd_of_mod_eq_zero h1)]; omega
    · rw [if_neg (by simp [h1]), if_neg (fun h => h1 (Nat.mod_eq_zero_of_dvd h))]; omega
theorem many_tok (_ i f : Nat) (R : List UInt8) (line : Int) (out : List Tk) (hR : i % 2 = 0 → R = [] ∨ partU (R.headD 0) = false) (_ : out.length ≤ 4000) :
    ∃ t, tokLoop (f + 1) ((if i % 2 = 0 then 97 else 59) :: R) line out = if out.length = 4000 then ([], line, 3) else tokLoop f R line (out ++ [t]) := by
  by_cases h : i % 2 = 0
  · have hn := next_a R (hR h)
    rw [if_pos h, tokLoop, if_neg (by simp), if_neg (by simp), if_neg (by simp), if_neg (by simp), hn]
    exact ⟨_, by simp; rfl⟩
  · have hn := next_semi R
    rw [if_neg h, tokLoop, if_neg (by simp), if_neg (by simp), if_neg (by simp), if_neg (by simp), hn]
    exact ⟨_, by simp; rfl⟩
theorem many_law (w : Nat) (hw : 0 < w) : ∀ (m i f : Nat) (out : List Tk), out.length = i → i ≤ 4000 → i + m ≤ 100000 → (restT w i m).length < f →
    if i + m ≤ 4000 then (tokLoop f (restT w i m) ((1 + (i - 1) / w : Nat) : Int) out).1.length = i + m ∧ (tokLoop f (restT w i m) ((1 + (i - 1) / w : Nat) : Int) out).2 = (0, 0)
    else tokLoop f (restT w i m) ((1 + (i - 1) / w : Nat) : Int) out = ([], ((1 + 4000 / w : Nat) : Int), 3)
  | 0, i, f, out, ho, hi, _, hf => by
    obtain ⟨g, rfl⟩ : ∃ g, f = g + 1 := ⟨f - 1, by omega⟩
    rw [if_pos (by omega)]
    simp [restT, tokLoop, ho]
  | m + 1, i, f, out, ho, hi, hb, hf => by
    obtain ⟨g, rfl⟩ : ∃ g, f = g + 1 := ⟨f - 1, by omega⟩
    have hls := line_step w i hw
    have key : ∀ (g : Nat), (restT w (i + 1) m).length < g → ∃ t, tokLoop (g + 1) ((if i % 2 = 0 then 97 else 59) :: restT w (i + 1) m) ((1 + i / w : Nat) : Int) out = if out.length = 4000 then ([], ((1 + i / w : Nat) : Int), 3) else tokLoop g (restT w (i + 1) m) ((1 + i / w : Nat) : Int) (out ++ [t]) := fun g _ =>
      many_tok w i g _ _ out (fun h => restT_head w (i + 1) m (by omega)) (by omega)
    have fin : ∀ (g : Nat), (restT w (i + 1) m).length < g → ∀ r, r = tokLoop (g + 1) ((if i % 2 = 0 then 97 else 59) :: restT w (i + 1) m) ((1 + i / w : Nat) : Int) out →
        if i + (m + 1) ≤ 4000 then r.1.length = i + (m + 1) ∧ r.2 = (0, 0) else r = ([], ((1 + 4000 / w : Nat) : Int), 3) := by
      rintro g hg r rfl
      obtain ⟨t, ht⟩ := key g hg
      by_cases h4 : i = 4000
      · rw [ht]
        simp only [ho, h4, if_true]
        rw [if_neg (by omega)]
        trivial
      · rw [ht]
        simp only [ho, h4, if_false]
        have := many_law w hw m (i + 1) g (out ++ [t]) (by simp [ho]) (by omega) (by omega) hg
        rw [Nat.add_sub_cancel, show i + 1 + m = i + (m + 1) by omega] at this
        exact this
    rw [restT, chunk] at hf ⊢
    by_cases hnl : 0 < i ∧ i % w = 0
    · rw [if_pos hnl] at hls hf ⊢
      simp only [List.cons_append, List.nil_append, List.length_cons] at hf ⊢
      obtain ⟨g, rfl⟩ : ∃ q, g = q + 1 := ⟨g - 1, by omega⟩
      refine fin g (by omega) _ ?_
      rw [tokLoop, if_neg (by simp), if_pos (by simp)]
      have hdw : (i - 1) / w ≤ i - 1 := Nat.div_le_self _ _
      rw [← hls]
      generalize (i - 1) / w = q at hdw
      rw [wrap64_of _ (by omega) (by omega)]
      rfl
    · rw [if_neg hnl] at hls hf ⊢
      simp only [List.nil_append, List.cons_append, List.length_cons] at hf ⊢
      refine fin g (by omega) _ ?_
      rw [hls]
theorem many_tokens (w n : Nat) (hw : 0 < w) (hn : n ≤ 10000) :
    if n ≤ 4000 then (tokensF (restT w 0 n)).1.length = n ∧ (tokensF (restT w 0 n)).2 = (0, 0) else tokensF (restT w 0 n) = ([], ((1 + 4000 / w : Nat) : Int), 3) := by
  have hl := restT_len w n 0
  have h := many_law w hw n 0 ((restT w 0 n).length + 1) [] rfl (by omega) (by omega) (by omega)
  have e : tokensF (restT w 0 n) = tokLoop ((restT w 0 n).length + 1) (restT w 0 n) 1 [] := by
    unfold tokensF
    rw [if_neg (by omega)]
  rw [e]
  simpa using h
end Go.Proofs.Ytkjikcmjcdlifaa
