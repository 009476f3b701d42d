import Derived.Test.YtkjikcmjcdlifaaT20
namespace Go.Proofs.Ytkjikcmjcdlifaa
open Go Go.Ew Go.Proofs Go.RowKit
set_option maxRecDepth 10000
/-! ### The plain law of TokenAgain: what was read is right, and can be written -/
theorem addQ_le (k : Int) (x : List UInt8) : x.length ≤ (addQ k x).length := by unfold addQ; split <;> simp <;> omega
theorem takeWhile_take (p : UInt8 → Bool) (s : List UInt8) (m : Nat) (hm : m ≤ (s.takeWhile p).length) : ((s.take m).takeWhile p).length = m := by
  induction s generalizing m with
  | nil => simp at hm; simp [hm]
  | cons c s ih =>
    cases m with
    | zero => simp
    | succ m =>
      rw [List.takeWhile_cons] at hm
      split at hm
      · rename_i hc
        simp only [List.length_cons, Nat.add_le_add_iff_right] at hm
        rw [List.take_succ_cons, List.takeWhile_cons, if_pos hc, List.length_cons, ih m hm]
      · simp at hm
/-- The byte behind the longest run is outside. -/
theorem takeWhile_stop (p : UInt8 → Bool) (s : List UInt8) (h : (s.takeWhile p).length < s.length) : p (s.getD (s.takeWhile p).length 0) = false := by
  induction s with
  | nil => simp at h
  | cons c s ih =>
    rw [List.takeWhile_cons] at h ⊢
    split
    · rename_i hc
      rw [if_pos hc] at h
      simp only [List.length_cons, Nat.add_lt_add_iff_right] at h
      rw [List.length_cons, List.getD_cons_succ]
      exact ih h
    · rename_i hc
      simpa using hc
theorem next_take (s : List UInt8) (k m : Nat) (h0 : 0 < s.length) (h : nextF s = (k, m, 0)) : nextF (s.take m) = (k, m, 0) ∧ m ≤ s.length ∧ 0 < m ∧ (k = 3 → s.take m = 34 :: (s.tail.take (m - 2) ++ [34])) := by
  obtain ⟨hm1, hm2, hm3⟩ := nextF_ok s h0 (by rw [h])
  rw [h] at hm1 hm2 hm3
  simp only at hm1 hm2 hm3
  have hp : 0 < (s.take m).length := by simp; omega
  have e0 : (s.take m)[0] = s[0] := by simp
  have hlen : (s.take m).length = m := by simp; omega
  rw [nextF_eq s h0] at h
  refine ⟨?_, hm2, hm1, fun hk => ?_⟩
  · rw [nextF_eq _ hp, e0]
    split at h
    · rename_i h1
      rw [if_pos h1]
      split at h
      · simp at h
      · rename_i h2
        simp only [Prod.mk.injEq, and_true] at h
        rw [takeWhile_take partU s m (by omega), if_neg (by omega), ← h.1]
    · rename_i h1
      rw [if_neg h1]
      split at h
      · rename_i h2
        rw [if_pos h2]
        split at h
        · simp at h
        · rename_i h3
          simp only [Prod.mk.injEq, and_true] at h
          rw [takeWhile_take digitU s m (by omega), if_neg (by omega), ← h.1]
      · rename_i h2
        rw [if_neg h2]
        split at h
        · rename_i h3
          rw [if_pos h3]
          simp only [Prod.mk.injEq] at h
          obtain ⟨hk, hq1, hq2⟩ := h
          simp only [quotedF] at hq1 hq2 ⊢
          have hd : (s.take m).drop 1 = (s.drop 1).take (m - 1) := by rw [List.drop_take]
          have hle := takeWhile_le qU (s.drop 1)
          simp only [List.length_drop] at hle
          split at hq1
          · rename_i hb; rw [if_pos hb] at hq2; cases hq2
          · rename_i hb
            rw [if_neg hb] at hq2
            split at hq1
            · rename_i hc; rw [if_pos hc] at hq2; cases hq2
            · rename_i hc
              simp only [not_or, ne_eq, Decidable.not_not] at hb
              have hn : (((s.drop 1).take (m - 1)).takeWhile qU).length = ((s.drop 1).takeWhile qU).length := by
                have e1 : (s.drop 1).take (m - 1) = (s.drop 1).take ((s.drop 1).takeWhile qU).length ++ [34] := by
                  have hlt : ((s.drop 1).takeWhile qU).length < (s.drop 1).length := by simp only [List.length_drop]; omega
                  rw [show m - 1 = ((s.drop 1).takeWhile qU).length + 1 by omega, List.take_add_one, List.getElem?_eq_getElem hlt]
                  have : (s.drop 1)[((s.drop 1).takeWhile qU).length] = 34 := by
                    have := hb.2
                    rw [List.getD_eq_getElem?_getD, List.getElem?_eq_getElem (by omega)] at this
                    simpa [Nat.add_comm] using this
                  rw [this]; rfl
                rw [e1, List.takeWhile_append, if_pos]
                · have e2 : ([34] : List UInt8).takeWhile qU = [] := by decide
                  rw [e2, List.append_nil, List.length_take]
                  simp only [List.length_drop]
                  omega
                · rw [takeWhile_take qU _ _ (Nat.le_refl _), List.length_take]
                  simp only [List.length_drop]
                  omega
              rw [hd, hn]
              have eg : (s.take m).getD (1 + ((s.drop 1).takeWhile qU).length) 0 = 34 := by
                rw [List.getD_eq_getElem?_getD, List.getElem?_take_of_lt (by omega), ← List.getD_eq_getElem?_getD]
                exact hb.2
              rw [eg, hlen, if_neg (by simp only [ne_eq, not_true_eq_false, or_false]; omega), if_neg hc, ← hk, hq1]
        · rename_i h3
          rw [if_neg h3]
          split at h
          · rename_i h4
            simp only [Prod.mk.injEq, and_true] at h
            obtain ⟨rfl, rfl⟩ := h
            have h5 : pairF (s.take 2) = true := by
              simp only [pairF, Bool.and_eq_true, decide_eq_true_eq] at h4 ⊢
              rw [List.take_take]
              exact ⟨by omega, h4.2⟩
            rw [if_pos h5]
          · rename_i h4
            split at h
            · rename_i h5
              simp only [Prod.mk.injEq, and_true] at h
              obtain ⟨rfl, rfl⟩ := h
              have h6 : ¬ pairF (s.take 1) = true := by simp [pairF, hlen]
              rw [if_neg h6, if_pos h5]
            · simp at h
  · subst hk
    split at h
    · split at h <;> simp at h
    · split at h
      · split at h <;> simp at h
      · split at h
        · rename_i h3
          simp only [Prod.mk.injEq] at h
          obtain ⟨_, hq1, hq2⟩ := h
          simp only [quotedF] at hq1 hq2
          split at hq1
          · rename_i hb; rw [if_pos hb] at hq2; cases hq2
          · rename_i hb
            rw [if_neg hb] at hq2
            split at hq1
            · rename_i hc; rw [if_pos hc] at hq2; cases hq2
            · simp only [not_or, ne_eq, Decidable.not_not] at hb
              match s, h0 with
              | c :: t, _ =>
                simp only [List.getElem_cons_zero] at h3
                simp only [List.drop_one, List.tail_cons, List.length_cons] at hq1 hb hm2 ⊢
                subst h3
                obtain ⟨q, rfl⟩ : ∃ q, m = q + 2 := ⟨m - 2, by omega⟩
                have hq : q = (t.takeWhile qU).length := by omega
                rw [List.take_succ_cons, Nat.add_sub_cancel, List.take_add_one, List.getElem?_eq_getElem (by omega)]
                have : t[q]'(by omega) = 34 := by
                  have := hb.2
                  rw [← hq, Nat.add_comm, List.getD_cons_succ, List.getD_eq_getElem?_getD, List.getElem?_eq_getElem (by omega)] at this
                  simpa using this
                rw [this]
                rfl
        · split at h
          · simp at h
          · split at h <;> simp at h
def qLen (l : List Tk) : Nat := (l.map fun t => (addQ t.kind t.text).length).sum
theorem tok_right (s : List UInt8) (k m : Nat) (h0 : 0 < s.length) (h : nextF s = (k, m, 0)) :
    addQ (k : Int) (if k = 3 then s.tail.take (m - 2) else s.take m) = s.take m ∧ rightF (k : Int) (s.take m) = true := by
  obtain ⟨h1, h2, h3, h4⟩ := next_take s k m h0 h
  refine ⟨?_, ?_⟩
  · by_cases hk : k = 3
    · rw [if_pos hk, h4 hk, hk]
      simp [addQ]
    · rw [if_neg hk]
      unfold addQ
      rw [if_neg (by omega)]
  · have hne : (s.take m).isEmpty = false := by
      rw [List.isEmpty_eq_false_iff]
      exact List.length_pos_iff.1 (by simp; omega)
    simp only [rightF, hne, h1]
    simp
    omega
theorem tokLoop_right : ∀ (f : Nat) (s : List UInt8) (line : Int) (out l : List Tk) (ln : Int), tokLoop f s line out = (l, ln, 0) → s.length < f → out.length ≤ 4000 →
    ∃ new, l = out ++ new ∧ (∀ t ∈ new, rightF t.kind (addQ t.kind t.text) = true) ∧ qLen new ≤ s.length ∧ new.length ≤ s.length ∧ l.length ≤ 4000
  | 0, _, _, _, _, _, _, h, _ => by omega
  | f + 1, s, line, out, l, ln, h, hf, ho => by
    rw [tokLoop] at h
    by_cases h0 : s = []
    · rw [if_pos h0] at h
      cases h
      exact ⟨[], by simp, by simp, by simp [qLen], by simp, ho⟩
    have hp : 0 < s.length := List.length_pos_iff.2 h0
    have ht : s.tail.length < s.length := by simp; omega
    rw [if_neg h0] at h
    have weak : ∀ (s' : List UInt8) (line' : Int), s'.length < s.length → tokLoop f s' line' out = (l, ln, 0) → ∃ new, l = out ++ new ∧ (∀ t ∈ new, rightF t.kind (addQ t.kind t.text) = true) ∧ qLen new ≤ s.length ∧ new.length ≤ s.length ∧ l.length ≤ 4000 := fun s' line' hs' h' => by
      obtain ⟨new, k1, k2, k3, k4, k5⟩ := tokLoop_right f s' line' out l ln h' (by omega) ho
      exact ⟨new, k1, k2, by omega, by omega, k5⟩
    split at h
    · exact weak _ _ ht h
    split at h
    · exact weak _ _ ht h
    split at h
    · rename_i h35
      have h1 := takeWhile_pos nlU s hp (by rw [headD_zero s hp] at h35; rw [h35]; decide)
      exact weak _ _ (by simp; omega) h
    split at h
    · rename_i he
      simp only [Prod.mk.injEq] at h
      exact absurd h.2.2 he
    split at h
    · simp at h
    · rename_i he h4
      simp only [ne_eq, Decidable.not_not] at he
      have h1 := nextF_ok s hp he
      generalize hn : nextF s = r at h he h1
      obtain ⟨k, m, e⟩ := r
      simp only at h he h1
      subst he
      obtain ⟨q1, q2⟩ := tok_right s k m hp hn
      obtain ⟨new, k1, k2, k3, k4, k5⟩ := tokLoop_right f _ _ _ l ln h (by simp; omega) (by simp; omega)
      simp only [List.length_drop] at k3 k4
      refine ⟨⟨k, if k = 3 then s.tail.take (m - 2) else s.take m, line⟩ :: new, by rw [k1]; simp, fun t ht' => ?_, ?_, by simp; omega, k5⟩
      · rcases List.mem_cons.1 ht' with rfl | ht'
        · rw [q1]; exact q2
        · exact k2 t ht'
      · have : (addQ (k : Int) (if k = 3 then s.tail.take (m - 2) else s.take m)).length = m := by rw [q1]; simp; omega
        simp only [qLen, List.map_cons, List.sum_cons, this]
        simp only [qLen] at k3
        omega
theorem tokensF_right (s : List UInt8) (l : List Tk) (ln : Int) (h : tokensF s = (l, ln, 0)) (hs : s.length ≤ 1000) :
    (∀ t ∈ l, rightF t.kind (addQ t.kind t.text) = true) ∧ qLen l ≤ 1000 ∧ l.length ≤ 1000 ∧ l.length ≤ 4000 ∧ True := by
  unfold tokensF at h
  rw [if_neg (by omega)] at h
  obtain ⟨new, k1, k2, k3, k4, k5⟩ := tokLoop_right _ s 1 [] l ln h (by omega) (by simp)
  rw [List.nil_append] at k1
  subst k1
  exact ⟨k2, by omega, by omega, by omega, trivial⟩
theorem gbody_len : ∀ (l : List Tk) (p : Option Tk), (gbody (gaps p l)).length ≤ qLen l + l.length
  | [], _ => by simp [gaps, gbody]
  | t :: r, p => by
    have h1 := gbody_len r (some t)
    have h2 : (sepF p t).length ≤ 1 := by unfold sepF; split <;> (try split) <;> simp
    simp only [gaps, gbody, List.length_append, qLen, List.map_cons, List.sum_cons, List.length_cons] at h1 ⊢
    omega
theorem writeF_small (l : List Tk) (h : ∀ t ∈ l, rightF t.kind (addQ t.kind t.text) = true) (hq : qLen l ≤ 10000) (hl : l.length ≤ 4000) : (writeF l).2 = 0 := by
  unfold writeF
  rw [if_neg (by omega), wrF_eq, if_pos (List.all_eq_true.2 h)]
  have := gbody_len l none
  rw [if_neg (by simp only [List.nil_append]; omega)]
theorem writeF_len (l : List Tk) : (writeF l).1.length ≤ 20000 := by
  unfold writeF
  split
  · simp
  · rw [wrF_eq]
    split
    · split
      · simp
      · simp only; omega
    · simp
end Go.Proofs.Ytkjikcmjcdlifaa
