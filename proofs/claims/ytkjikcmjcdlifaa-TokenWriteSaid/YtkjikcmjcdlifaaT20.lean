import Derived.Test.YtkjikcmjcdlifaaT11
namespace Go.Proofs.Ytkjikcmjcdlifaa
open Go Go.Ew Go.Proofs Go.RowKit
set_option maxRecDepth 10000
/-! ### The plain laws of texts: what is read behind gaps and tokens -/
theorem takeWhile_pos (p : UInt8 → Bool) (s : List UInt8) (h : 0 < s.length) (hp : p s[0] = true) : 1 ≤ (s.takeWhile p).length := by
  have := takeWhile_drop p s 0 h
  simp only [List.drop_zero, hp, if_true] at this
  rw [this]; simp
theorem headD_zero (s : List UInt8) (h : 0 < s.length) : s.headD 0 = s[0] := by
  cases s with
  | nil => simp at h
  | cons c s => rfl
theorem tokLoop_fuel : ∀ (f f' : Nat) (s : List UInt8) (line : Int) (out : List Tk), s.length < f → s.length < f' → tokLoop f s line out = tokLoop f' s line out
  | 0, _, _, _, _, h, _ => by omega
  | f + 1, f', s, line, out, h, h' => by
    obtain ⟨g, rfl⟩ : ∃ g, f' = g + 1 := ⟨f' - 1, by omega⟩
    rw [tokLoop, tokLoop]
    by_cases h0 : s = []
    · simp [h0]
    have hp : 0 < s.length := List.length_pos_iff.2 h0
    have ht : s.tail.length < s.length := by simp; omega
    rw [if_neg h0, if_neg h0]
    split
    · exact tokLoop_fuel f g _ _ _ (by omega) (by omega)
    split
    · exact tokLoop_fuel f g _ _ _ (by omega) (by omega)
    split
    · rename_i h35
      have h1 := takeWhile_pos nlU s hp (by rw [headD_zero s hp] at h35; rw [h35]; decide)
      exact tokLoop_fuel f g _ _ _ (by simp; omega) (by simp; omega)
    split
    · rfl
    split
    · rfl
    · rename_i he _
      have h1 := nextF_ok s hp (by simpa using he)
      exact tokLoop_fuel f g _ _ _ (by simp; omega) (by simp; omega)
def tl (s : List UInt8) (line : Int) (out : List Tk) : List Tk × Int × Nat := tokLoop (s.length + 1) s line out
theorem tl_eq (f : Nat) (s : List UInt8) (line : Int) (out : List Tk) (h : s.length < f) : tokLoop f s line out = tl s line out := tokLoop_fuel _ _ _ _ _ h (by omega)
theorem tl_nil (line : Int) (out : List Tk) : tl [] line out = (out, 0, 0) := rfl
theorem tl_nl (s : List UInt8) (line : Int) (out : List Tk) : tl (10 :: s) line out = tl s (IntKind.i64.wrap (line + 1)) out := by
  unfold tl
  rw [List.length_cons, tokLoop, if_neg (by simp), if_pos (by simp)]
  rfl
theorem tl_ws (c : UInt8) (h : c = 32 ∨ c = 9 ∨ c = 13) (s : List UInt8) (line : Int) (out : List Tk) : tl (c :: s) line out = tl s line out := by
  unfold tl
  rw [List.length_cons, tokLoop, if_neg (by simp), if_neg (by rcases h with rfl | rfl | rfl <;> simp), if_pos (by simpa using h)]
  rfl
theorem tl_hash (s : List UInt8) (line : Int) (out : List Tk) : tl (35 :: s) line out = tl (s.drop (s.takeWhile nlU).length) line out := by
  have e : (35 :: s).drop ((35 :: s).takeWhile nlU).length = s.drop (s.takeWhile nlU).length := by
    rw [List.takeWhile_cons, if_pos (by decide)]
    rfl
  rw [← tl_eq (s.length + 1) (s.drop _) line out (by simp; omega)]
  unfold tl
  rw [List.length_cons, tokLoop, if_neg (by simp), if_neg (by simp), if_neg (by simp), if_pos (by simp), e]
/-- Bytes ahead of which a token ends. -/
def sepC (c : UInt8) : Bool := c == 10 || c == 32 || c == 9 || c == 13 || c == 35
def stops (R : List UInt8) : Bool := match R with | [] => true | c :: _ => sepC c
theorem sepC_spec {c : UInt8} (h : sepC c = true) : c = 10 ∨ c = 32 ∨ c = 9 ∨ c = 13 ∨ c = 35 := by
  simpa [sepC, or_assoc] using h
theorem sepC_not (p : UInt8 → Bool) (h : (p 10 || p 32 || p 9 || p 13 || p 35) = false) {R : List UInt8} (hR : stops R = true) : R.takeWhile p = [] := by
  cases R with
  | nil => rfl
  | cons c R =>
    simp only [Bool.or_eq_false_iff] at h
    obtain ⟨⟨⟨⟨h1, h2⟩, h3⟩, h4⟩, h5⟩ := h
    have : p c = false := by rcases sepC_spec hR with rfl | rfl | rfl | rfl | rfl <;> assumption
    simp [this]
theorem takeWhile_all_append (p : UInt8 → Bool) (x R : List UInt8) (hx : (x.takeWhile p).length = x.length) (hR : R.takeWhile p = []) : ((x ++ R).takeWhile p).length = x.length := by
  rw [List.takeWhile_append, if_pos hx, hR, List.append_nil]
theorem nextF_special (s : List UInt8) (h : 0 < s.length) (hc : sepC s[0] = true) : nextF s = (0, 0, 2) := by
  rw [nextF_eq s h]
  have hp : pairF s = false := by
    match s, h, hc with
    | c :: [], _, _ => rfl
    | c :: d :: t, _, hc =>
      simp only [List.getElem_cons_zero] at hc
      rcases sepC_spec hc with rfl | rfl | rfl | rfl | rfl <;> simp [pairF, hasF, pairs]
  rw [hp]
  rcases sepC_spec hc with e | e | e | e | e <;> rw [e] <;> rfl
theorem next_append (x R : List UInt8) (k : Nat) (hx : 0 < x.length) (h : nextF x = (k, x.length, 0)) (hR : stops R = true) : nextF (x ++ R) = (k, x.length, 0) := by
  have e0 : (x ++ R)[0]'(by simp; omega) = x[0] := by simp [List.getElem_append_left, hx]
  rw [nextF_eq x hx] at h
  rw [nextF_eq (x ++ R) (by simp; omega), e0]
  split at h
  · rename_i h1
    rw [if_pos h1]
    split at h
    · simp at h
    · rename_i h2
      simp only [Prod.mk.injEq, and_true] at h
      have e := takeWhile_all_append partU x R h.2 (sepC_not partU (by decide) hR)
      rw [e, ← h.2, if_neg h2, ← h.1]
  · rename_i h1
    rw [if_neg h1]
    split at h
    · rename_i h2
      rw [if_pos h2]
      split at h
      · simp at h
      · rename_i h3
        simp only [Prod.mk.injEq, and_true] at h
        have e := takeWhile_all_append digitU x R h.2 (sepC_not digitU (by decide) hR)
        rw [e, ← h.2, if_neg h3, ← h.1]
    · rename_i h2
      rw [if_neg h2]
      split at h
      · rename_i h3
        rw [if_pos h3]
        simp only [Prod.mk.injEq] at h
        obtain ⟨hk, hq1, hq2⟩ := h
        simp only [quotedF] at hq1 hq2 ⊢
        have hd : (x ++ R).drop 1 = x.drop 1 ++ R := List.drop_append_of_le_length (by omega)
        have hle := takeWhile_le qU (x.drop 1)
        simp only [List.length_drop] at hle
        rw [hd]
        split at hq1
        · rename_i hb; rw [if_pos hb] at hq2; cases hq2
        · rename_i hb
          rw [if_neg hb] at hq2
          split at hq1
          · rename_i hc; rw [if_pos hc] at hq2; cases hq2
          · rename_i hc
            simp only [not_or] at hb
            have e : (x.drop 1 ++ R).takeWhile qU = (x.drop 1).takeWhile qU := by
              rw [List.takeWhile_append, if_neg (by simp only [List.length_drop]; omega)]
            have eg : (x ++ R).getD (1 + ((x.drop 1).takeWhile qU).length) 0 = x.getD (1 + ((x.drop 1).takeWhile qU).length) 0 := by
              simp only [List.getD_eq_getElem?_getD]
              rw [List.getElem?_append_left (by omega)]
            rw [e]
            rw [eg, if_neg (by simp only [List.length_append, not_or]; exact ⟨by omega, hb.2⟩), if_neg hc, ← hk, ← hq1]
      · rename_i h3
        rw [if_neg h3]
        split at h
        · rename_i h4
          simp only [Prod.mk.injEq, and_true] at h
          have ht : (x ++ R).take 2 = x.take 2 := List.take_append_of_le_length (by omega)
          have h5 : pairF (x ++ R) = true := by
            simp only [pairF, Bool.and_eq_true, decide_eq_true_eq] at h4 ⊢
            rw [ht]
            exact ⟨by simp; omega, h4.2⟩
          rw [if_pos h5, ← h.1, ← h.2]
        · rename_i h4
          split at h
          · rename_i h5
            simp only [Prod.mk.injEq, and_true] at h
            have h6 : ¬ pairF (x ++ R) = true := by
              obtain ⟨c, rfl⟩ : ∃ c, x = [c] := List.length_eq_one_iff.1 h.2.symm
              cases R with
              | nil => simpa using h4
              | cons d R => rcases sepC_spec hR with rfl | rfl | rfl | rfl | rfl <;> simp [pairF, hasF, pairs]
            rw [if_neg h6, if_pos h5, ← h.1, ← h.2]
          · simp at h
/-- A token behind which a gap or the end stands is read. -/
theorem right_spec {t : Tk} (h : rightF t.kind (addQ t.kind t.text) = true) : 0 < (addQ t.kind t.text).length ∧ ∃ k : Nat, (k : Int) = t.kind ∧ nextF (addQ t.kind t.text) = (k, (addQ t.kind t.text).length, 0) := by
  simp only [rightF, Bool.and_eq_true, decide_eq_true_eq] at h
  obtain ⟨⟨⟨h1, h2⟩, h3⟩, h4⟩ := h
  refine ⟨List.length_pos_iff.2 (by simpa using h1), (nextF (addQ t.kind t.text)).1, h3, ?_⟩
  generalize nextF (addQ t.kind t.text) = r at *
  obtain ⟨a, b, c⟩ := r
  simp at *
  exact ⟨h4, h2⟩
theorem tl_tok (t : Tk) (R : List UInt8) (line : Int) (out : List Tk) (h : rightF t.kind (addQ t.kind t.text) = true) (hR : stops R = true) (ho : out.length < 4000) :
    tl (addQ t.kind t.text ++ R) line out = tl R line (out ++ [⟨t.kind, t.text, line⟩]) := by
  obtain ⟨hp, k, hk, hn⟩ := right_spec h
  have hn' := next_append _ R k hp hn hR
  have hpos : 0 < (addQ t.kind t.text ++ R).length := by simp; omega
  have hs : sepC ((addQ t.kind t.text ++ R)[0]) = false := by
    cases hc : sepC ((addQ t.kind t.text ++ R)[0]) with
    | false => rfl
    | true => rw [nextF_special _ hpos hc] at hn'; simp at hn'
  have hst : (if k = 3 then (addQ t.kind t.text ++ R).tail.take ((addQ t.kind t.text).length - 2) else (addQ t.kind t.text ++ R).take (addQ t.kind t.text).length) = t.text := by
    by_cases h3 : k = 3
    · have h3' : t.kind = 3 := by omega
      rw [if_pos h3, h3']
      simp [addQ]
    · have h3' : ¬ t.kind = 3 := by omega
      rw [if_neg h3]
      simp [addQ, h3']
  have hlen : (addQ t.kind t.text ++ R).length = (addQ t.kind t.text).length + R.length := by simp
  have hd : (addQ t.kind t.text ++ R).drop (addQ t.kind t.text).length = R := List.drop_left
  generalize addQ t.kind t.text ++ R = S at *
  simp only [sepC, Bool.or_eq_false_iff, beq_eq_false_iff_ne, ne_eq] at hs
  obtain ⟨⟨⟨⟨s1, s2⟩, s3⟩, s4⟩, s5⟩ := hs
  unfold tl
  rw [tokLoop, if_neg (List.length_pos_iff.1 hpos), headD_zero S hpos, if_neg s1, if_neg (by simp [s2, s3, s4]), if_neg s5, hn']
  simp only [ne_eq, not_true_eq_false, if_false]
  rw [if_neg (by omega), hst, hd, hk, tl_eq _ _ _ _ (by omega)]
  rfl

/-! ### Gaps and tokens -/
def lineOf (g : List UInt8) (line : Int) : Int := g.foldl (fun a c => if c = 10 then IntKind.i64.wrap (a + 1) else a) line
def GapP (g : List UInt8) : Prop := ∀ R line out, tl (g ++ R) line out = tl R (lineOf g line) out
def gbody : List (List UInt8 × Tk) → List UInt8
  | [] => []
  | (g, t) :: r => g ++ (addQ t.kind t.text ++ gbody r)
def relined (line : Int) : List (List UInt8 × Tk) → List Tk
  | [] => []
  | (g, t) :: r => ⟨t.kind, t.text, lineOf g line⟩ :: relined (lineOf g line) r
def headSep : List (List UInt8 × Tk) → Bool
  | [] => true
  | (g, _) :: _ => !g.isEmpty && stops g
theorem gbody_stops {l : List (List UInt8 × Tk)} (h : headSep l = true) : stops (gbody l) = true := by
  cases l with
  | nil => rfl
  | cons a l =>
    obtain ⟨g, t⟩ := a
    cases g with
    | nil => simp [headSep] at h
    | cons c g => simpa [headSep, gbody, stops] using h
def seps : List (List UInt8 × Tk) → Bool
  | [] => true
  | _ :: r => headSep r && seps r
theorem tl_gbody : ∀ (l : List (List UInt8 × Tk)) (line : Int) (out : List Tk), (∀ a ∈ l, GapP a.1 ∧ rightF a.2.kind (addQ a.2.kind a.2.text) = true) → seps l = true → out.length + l.length ≤ 4000 →
    tl (gbody l) line out = (out ++ relined line l, 0, 0)
  | [], line, out, _, _, _ => by simp [gbody, relined, tl_nil]
  | (g, t) :: r, line, out, h, hs, ho => by
    simp only [seps, Bool.and_eq_true] at hs
    obtain ⟨h1, h2⟩ := h (g, t) (by simp)
    simp only [List.length_cons] at ho
    rw [gbody, h1, tl_tok t _ _ _ h2 (gbody_stops hs.1) (by omega), tl_gbody r _ _ (fun a ha => h a (by simp [ha])) hs.2 (by simp; omega)]
    simp [relined]
theorem gap_nil : GapP [] := fun _ _ _ => rfl
theorem gap_ws (c : UInt8) (g : List UInt8) (hc : c = 32 ∨ c = 9 ∨ c = 13) (h : GapP g) : GapP (c :: g) := fun R line out => by
  rw [List.cons_append, tl_ws c hc, h]
  have : ¬ c = 10 := by rcases hc with rfl | rfl | rfl <;> decide
  simp [lineOf, this]
theorem gap_nl (g : List UInt8) (h : GapP g) : GapP (10 :: g) := fun R line out => by
  rw [List.cons_append, tl_nl, h]
  simp [lineOf]
theorem gap_hash (x g : List UInt8) (hx : ∀ c ∈ x, nlU c = true) (h : GapP (10 :: g)) : GapP (35 :: (x ++ 10 :: g)) := fun R line out => by
  have hx' : (x ++ (10 :: g ++ R)).takeWhile nlU = x := by
    rw [List.takeWhile_append_of_pos hx]
    simp [nlU]
  have e : (x ++ 10 :: g) ++ R = x ++ (10 :: g ++ R) := by simp
  rw [List.cons_append, tl_hash, e, hx', List.drop_left, h]
  have hf : ∀ (x : List UInt8) (l : Int), (∀ c ∈ x, nlU c = true) → x.foldl (fun (a : Int) c => if c = 10 then IntKind.i64.wrap (a + 1) else a) l = l := by
    intro x
    induction x with
    | nil => intro l _; rfl
    | cons c x ih =>
      intro l hc
      have h1 := hc c (by simp)
      have : ¬ c = 10 := by rintro rfl; simp [nlU] at h1
      rw [List.foldl_cons, if_neg this]
      exact ih l fun d hd => hc d (by simp [hd])
  congr 1
  simp only [lineOf, List.foldl_cons, List.foldl_append]
  rw [hf x _ hx, if_neg (show ¬ (35 : UInt8) = 10 by decide)]

/-! ### Writing and reading again -/
def gaps (p : Option Tk) : List Tk → List (List UInt8 × Tk)
  | [] => []
  | t :: r => (sepF p t, t) :: gaps (some t) r
theorem gaps_len : ∀ (l : List Tk) (p : Option Tk), (gaps p l).length = l.length
  | [], _ => rfl
  | t :: r, p => by simp [gaps, gaps_len r]
theorem gap_sepF (p : Option Tk) (t : Tk) : GapP (sepF p t) := by
  unfold sepF
  split
  · exact gap_nil
  · split
    · exact gap_ws 32 [] (.inl rfl) gap_nil
    · exact gap_nl [] gap_nil
theorem gaps_seps : ∀ (l : List Tk) (t : Tk), headSep (gaps (some t) l) = true ∧ seps (gaps (some t) l) = true
  | [], _ => ⟨rfl, rfl⟩
  | u :: r, t => by
    have := gaps_seps r u
    refine ⟨?_, by simp [gaps, seps, this]⟩
    simp only [gaps, headSep, sepF]
    split <;> rfl
theorem wrF_eq : ∀ (l : List Tk) (p : Option Tk) (acc : List UInt8), wrF p acc l = if l.all (fun t => rightF t.kind (addQ t.kind t.text)) then (if 20000 < (acc ++ gbody (gaps p l)).length then ([], 3) else (acc ++ gbody (gaps p l), 0)) else ([], 1)
  | [], p, acc => by simp [wrF, gaps, gbody]
  | t :: r, p, acc => by
    rw [wrF]
    by_cases h : rightF t.kind (addQ t.kind t.text) = true
    · rw [if_pos h, wrF_eq r]
      simp only [List.all_cons, h, Bool.true_and, gaps, gbody, List.append_assoc]
    · rw [if_neg h]
      simp [h]
def keyT (t : Tk) : Int × List UInt8 := (t.kind, t.text)
theorem relined_key : ∀ (l : List Tk) (p : Option Tk) (line : Int), (relined line (gaps p l)).map keyT = l.map keyT
  | [], _, _ => rfl
  | t :: r, p, line => by simp [gaps, relined, relined_key r, keyT]
/-- What 'Write' wrote, 'Tokens' reads: the same kinds and texts. -/
theorem write_tokens (l : List Tk) (h : (writeF l).2 = 0) : ∃ l', tokensF (writeF l).1 = (l', 0, 0) ∧ l'.map keyT = l.map keyT := by
  unfold writeF at h ⊢
  split at h
  · cases h
  · rename_i h4
    rw [if_neg h4]
    rw [wrF_eq] at h ⊢
    split at h
    · rename_i ha
      rw [if_pos ha]
      split at h
      · cases h
      · rename_i hb
        rw [if_neg hb]
        simp only [List.nil_append] at hb ⊢
        refine ⟨relined 1 (gaps none l), ?_, relined_key l none 1⟩
        unfold tokensF
        rw [if_neg hb]
        have hs : seps (gaps none l) = true := by
          cases l with
          | nil => rfl
          | cons t r => simp [gaps, seps, gaps_seps r t]
        have hall : ∀ (l : List Tk) (p : Option Tk), l.all (fun t => rightF t.kind (addQ t.kind t.text)) = true → ∀ a ∈ gaps p l, GapP a.1 ∧ rightF a.2.kind (addQ a.2.kind a.2.text) = true := by
          intro l
          induction l with
          | nil => intro p _ a ha; cases ha
          | cons t r ih =>
            intro p hp a ha
            simp only [List.all_cons, Bool.and_eq_true] at hp
            rcases List.mem_cons.1 ha with rfl | ha
            · exact ⟨gap_sepF p t, hp.1⟩
            · exact ih _ hp.2 a ha
        have := tl_gbody (gaps none l) 1 [] (hall l none ha) hs (by simp [gaps_len]; omega)
        rw [tl, List.nil_append] at this
        exact this
    · cases h
end Go.Proofs.Ytkjikcmjcdlifaa
