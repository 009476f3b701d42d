import Derived.Test.YtkjikcmjcdlifaaT8
namespace Go.Proofs.Ytkjikcmjcdlifaa
open Go Go.Ew Go.Proofs Go.RowKit
set_option maxRecDepth 10000
theorem nextF_ok (s : List UInt8) (h : 0 < s.length) (he : (nextF s).2.2 = 0) : 1 ≤ (nextF s).2.1 ∧ (nextF s).2.1 ≤ s.length ∧ ((nextF s).1 = 3 → 2 ≤ (nextF s).2.1) := by
  have head : ∀ p : UInt8 → Bool, p s[0] = true → 1 ≤ (s.takeWhile p).length := fun p hp => by
    have := takeWhile_drop p s 0 h
    simp only [List.drop_zero, hp, if_true] at this
    rw [this]; simp
  rw [nextF_eq s h] at he ⊢
  split at he
  · rename_i h1
    rw [if_pos h1]
    split at he
    · cases he
    · rename_i h2
      rw [if_neg h2]
      refine ⟨head partU ?_, takeWhile_le _ _, fun h => by cases h⟩
      simp only [letterU] at h1
      simp [partU, isPart, h1]
  · rename_i h1
    rw [if_neg h1]
    split at he
    · rename_i h2
      rw [if_pos h2]
      split at he
      · cases he
      · rename_i h3
        rw [if_neg h3]
        exact ⟨head digitU h2, takeWhile_le _ _, fun h => by cases h⟩
    · rename_i h2
      rw [if_neg h2]
      split at he
      · rename_i h3
        rw [if_pos h3]
        simp only [quotedF] at he ⊢
        split at he
        · cases he
        · rename_i h4
          rw [if_neg h4]
          split at he
          · cases he
          · rename_i h5
            rw [if_neg h5]
            have := takeWhile_le qU (s.drop 1)
            simp only [List.length_drop, not_or] at this h4
            refine ⟨?_, ?_, fun _ => ?_⟩ <;> simp only <;> omega
      · rename_i h3
        rw [if_neg h3]
        split at he
        · rename_i h4
          rw [if_pos h4]
          simp only [pairF, Bool.and_eq_true, decide_eq_true_eq] at h4
          exact ⟨by decide, h4.1, fun h => by cases h⟩
        · rename_i h4
          rw [if_neg h4]
          split at he
          · rename_i h5
            rw [if_pos h5]
            exact ⟨by decide, h, fun h => by cases h⟩
          · cases he
structure Tk where
  kind : Int
  text : List UInt8
  line : Int
def tkC (t : Tk) : List AV := [.int t.kind, .str t.text, .int t.line]
def tkA (t : Tk) : AV := .agg (tkC t)
def tksC (l : List Tk) : List AV := l.flatMap tkC
theorem tksC_len (l : List Tk) : (tksC l).length = l.length * 3 := length_flatMap (f := tkC) (sz := 3) (fun _ => rfl) l
def tokLoop : Nat → List UInt8 → Int → List Tk → List Tk × Int × Nat
  | 0, _, _, out => (out, 0, 0)
  | f + 1, s, line, out =>
    if s = [] then (out, 0, 0)
    else if s.headD 0 = 10 then tokLoop f s.tail (IntKind.i64.wrap (line + 1)) out
    else if s.headD 0 = 32 ∨ s.headD 0 = 9 ∨ s.headD 0 = 13 then tokLoop f s.tail line out
    else if s.headD 0 = 35 then tokLoop f (s.drop (s.takeWhile nlU).length) line out
    else if (nextF s).2.2 ≠ 0 then ([], line, (nextF s).2.2)
    else if out.length = 4000 then ([], line, 3)
    else tokLoop f (s.drop (nextF s).2.1) line (out ++ [⟨(nextF s).1, if (nextF s).1 = 3 then s.tail.take ((nextF s).2.1 - 2) else s.take (nextF s).2.1, line⟩])
def tokensF (s : List UInt8) : List Tk × Int × Nat := if 20000 < s.length then ([], 0, 3) else tokLoop (s.length + 1) s 1 []
def tokD (r : List Tk × Int × Nat) : AV := .tup [.imm r.1.length (tksC r.1), .int r.2.1, .int r.2.2]
/-- A list of tokens in memory: nil, or a slice of the call's own. -/
def TksAt (n0 : Nat) (τ : Mem) (x : AV) (out : List Tk) : Prop :=
  (x = .nils ∧ out = []) ∨ ∃ id, x = .arr id 0 out.length 3 ∧ τ.get id = some (tksC out) ∧ τ.ty id = 46 ∧ n0 ≤ id ∧ id < τ.next ∧ out ≠ []
theorem tksC_snoc (l : List Tk) (t : Tk) : tksC (l ++ [t]) = tksC l ++ tkC t := by simp [tksC]
theorem tksC_data (l : List Tk) : DataL (tksC l) := DataL.flatMap (fun _ => .cons (.lit _) (.cons (.lit _) (.cons (.lit _) .nil))) l
theorem frz_tks {n0 : Nat} {τ : Mem} {x : AV} {out : List Tk} (h : TksAt n0 τ x out) : Frz n0 τ x (.imm out.length (tksC out)) := by
  rcases h with ⟨rfl, rfl⟩ | ⟨id, rfl, h1, _, h3, _⟩
  · exact .nils
  · exact frz_arr h3 h1 (tksC_data out)
theorem frz_tokD {n0 : Nat} {τ : Mem} {x : AV} {out : List Tk} (a : Int) (b : Nat) (h : TksAt n0 τ x out) : Frz n0 τ (.tup [x, .int a, .int b]) (tokD (out, a, b)) := by
  unfold tokD
  rw [frz_tup, frzL_cons, frzL_cons, frzL_cons, frzL_nil]
  exact ⟨frz_tks h, .lit _, .lit _, trivial⟩
def TInv (s : List UInt8) (σ : Mem) (n : Nat) (fr : Fr) (τ : Mem) : Prop :=
  ∃ (s' : List UInt8) (line : Int) (out : List Tk), s'.length ≤ 20000 ∧ s'.length < n ∧ out.length ≤ 4000 ∧ tokLoop n s' line out = tokensF s ∧ fr 0 = .str s' ∧ fr 6 = .int line ∧ TksAt σ.next τ (fr 5) out ∧ Keeps σ τ ∧ σ.next ≤ τ.next
theorem tokens_ev (s : List UInt8) : PureA Try.prog 15 [.str s] (tokD (tokensF s)) := by
  refine pureA_of Try.func15 rfl (by kernel_rfl) (fun σ => ?_)
  simp [go_sem, Try.results15, Try.ntmps15]
  by_cases hbig : 20000 < s.length
  · simp [go_sem, hbig, show (20000 : Int) < s.length by omega, tokensF, tokD, tksC]
  have hs : s.length ≤ 20000 := by omega
  simp [go_sem, show ¬ (20000 : Int) < s.length by omega]
  have hF : tokensF s = tokLoop (s.length + 1) s 1 [] := by simp [tokensF, hbig]
  refine EW_loop (TInv s σ) (s.length + 1) ?_ ?_
  · exact ⟨s, 1, [], by omega, by omega, by simp, hF.symm, by simp [go_sem], by simp [go_sem], .inl ⟨by simp [go_sem], rfl⟩, Keeps.refl _, Nat.le_refl _⟩
  rintro n fr τ ⟨s', line, out, hle, hn, hout, hR, h0, h6, h5, hK, hN⟩
  obtain ⟨f, rfl⟩ : ∃ f, n = f + 1 := ⟨n - 1, by omega⟩
  simp [go_sem, h0]
  by_cases hpos : 0 < s'.length
  · have hne : s' ≠ [] := List.length_pos_iff.1 hpos
    have hd : s'.headD 0 = s'[0] := by cases s' with | nil => cases hpos | cons a b => rfl
    rw [tokLoop, if_neg hne, hd] at hR
    have c10 := u8_lit s'[0] 10 (by decide)
    have c32 := u8_lit s'[0] 32 (by decide)
    have c9 := u8_lit s'[0] 9 (by decide)
    have c13 := u8_lit s'[0] 13 (by decide)
    have c35 := u8_lit s'[0] 35 (by decide)
    simp at c10 c32 c9 c13 c35
    have htl : s'.tail.length < f := by simp; omega
    simp [go_sem, hpos, h0]
    by_cases e10 : s'[0] = 10
    · rw [if_pos e10] at hR
      simp [go_sem, e10, h0, h6, show (1 : Int) ≤ s'.length by omega]
      exact ⟨f, by omega, s'.tail, _, out, by simp; omega, htl, hout, hR, by simp [go_sem], by simp [go_sem], by simp [go_sem]; exact h5, hK, hN⟩
    rw [if_neg e10] at hR
    by_cases ew : s'[0] = 32 ∨ s'[0] = 9 ∨ s'[0] = 13
    · rw [if_pos ew] at hR
      rcases ew with e | e | e <;> simp [go_sem, e, h0, show (1 : Int) ≤ s'.length by omega]
      all_goals exact ⟨f, by omega, s'.tail, _, out, by simp; omega, htl, hout, hR, by simp [go_sem], by simp [go_sem, h6], by simp [go_sem]; exact h5, hK, hN⟩
    rw [if_neg ew] at hR
    simp only [not_or] at ew
    by_cases e35 : s'[0] = 35
    · rw [if_pos e35] at hR
      simp [go_sem, e35, h0]
      refine EWcall_pure (run_ev (p := nlU) (fun c => neNl_ev _) s' (by omega)) ?_
      have hrl := takeWhile_le nlU s'
      have hr1 : 1 ≤ (s'.takeWhile nlU).length := by
        have := takeWhile_drop nlU s' 0 hpos
        simp only [List.drop_zero] at this
        rw [this, if_pos (by simp [nlU, e35])]
        simp
      generalize (s'.takeWhile nlU).length = m at hR hrl hr1
      simp [go_sem, show (m : Int) ≤ s'.length by omega]
      exact ⟨f, by omega, s'.drop m, _, out, by simp; omega, by simp; omega, hout, hR, by simp [go_sem], by simp [go_sem, h6], by simp [go_sem]; exact h5, hK, hN⟩
    rw [if_neg e35] at hR
    simp [go_sem, c10, c32, c9, c13, c35, e10, ew.1, ew.2.1, ew.2.2, e35, h0]
    refine EWcall_pure (next_ev s' hne (by omega)) ?_
    have hok := nextF_ok s' hpos
    generalize nextF s' = r at hR hok
    obtain ⟨k, m, e⟩ := r
    simp only at hR hok
    by_cases he : e = 0
    · subst he
      obtain ⟨hm1, hm2, hm3⟩ := hok rfl
      rw [if_neg (by simp)] at hR
      obtain ⟨q, hq⟩ : ∃ q, q = m - 1 := ⟨_, rfl⟩
      have hw : IntKind.i64.wrap ((m : Int) - 1) = (q : Int) := by rw [wrap64_of _ (by omega) (by omega)]; omega
      rw [show m - 2 = q - 1 by omega] at hR
      rcases h5 with ⟨e5, rfl⟩ | ⟨id, e5, hg, ht, hid, hidl, hne'⟩
      · simp only [List.length_nil, Nat.reduceEqDiff, if_false, List.nil_append] at hR
        by_cases hk : k = 3
        · subst hk
          have hm3' := hm3 rfl
          simp [go_sem, h0, h6, e5, hw, show (m : Int) ≤ s'.length by omega, show (q : Int) ≤ s'.length by omega, show (1 : Int) ≤ q by omega, get_alloc]
          simp only [if_true] at hR
          refine ⟨f, by omega, s'.drop m, line, _, by simp; omega, by simp; omega, by simp, hR, by simp [go_sem], by simp [go_sem, h6], .inr ⟨τ.next + 1, by simp [go_sem], by simp [get_alloc, next_alloc, tksC, tkC], by simp [ty_alloc, next_alloc], by omega, by simp [next_alloc], by simp⟩, ?_, by simp [next_alloc]; omega⟩
          rw [keeps_alloc _ _ (by simp [next_alloc]; omega), keeps_alloc _ _ hN]; exact hK
        · have hk' : ¬ (k : Int) = 3 := by omega
          simp [go_sem, h0, h6, e5, hk', show (m : Int) ≤ s'.length by omega, get_alloc]
          simp only [if_neg hk] at hR
          refine ⟨f, by omega, s'.drop m, line, _, by simp; omega, by simp; omega, by simp, hR, by simp [go_sem], by simp [go_sem, h6], .inr ⟨τ.next + 1, by simp [go_sem], by simp [get_alloc, next_alloc, tksC, tkC], by simp [ty_alloc, next_alloc], by omega, by simp [next_alloc], by simp⟩, ?_, by simp [next_alloc]; omega⟩
          rw [keeps_alloc _ _ (by simp [next_alloc]; omega), keeps_alloc _ _ hN]; exact hK
      · by_cases h4 : out.length = 4000
        · rw [if_pos h4] at hR
          rw [← hR]
          simp [go_sem, h6, e5, h4]
          exact ⟨frz_tokD line 3 (.inl ⟨rfl, rfl⟩), hK⟩
        · rw [if_neg h4] at hR
          have hcl := tksC_len out
          have hT : (tksC out).take (out.length * 3) = tksC out := List.take_of_length_le (by omega)
          have hin : ¬ id = τ.next := by omega
          have h4' : ¬ (out.length : Int) = 4000 := by omega
          by_cases hk : k = 3
          · subst hk
            have hm3' := hm3 rfl
            simp [go_sem, h0, h6, e5, hw, h4', hg, ht, hin, hcl, show (m : Int) ≤ s'.length by omega, show (q : Int) ≤ s'.length by omega, show (1 : Int) ≤ q by omega, get_alloc, ty_alloc, show (out.length + 1) * 32 ≤ 140737488355328 by omega, show out.length ≤ 9223372036854775806 by omega]
            simp only [if_true] at hR
            refine ⟨f, by omega, s'.drop m, line, _, by simp; omega, by simp; omega, by simp; omega, hR, by simp [go_sem], by simp [go_sem, h6], .inr ⟨τ.next + 1, by simp [go_sem], by simp [get_alloc, next_alloc, next_kill, hT, tksC_snoc, tkC], by simp [ty_alloc, next_alloc, next_kill], by omega, by simp [next_alloc, next_kill], by simp⟩, ?_, by simp [next_alloc, next_kill]; omega⟩
            rw [keeps_alloc _ _ (by simp [next_alloc, next_kill]; omega), keeps_kill _ hid, keeps_alloc _ _ hN]; exact hK
          · have hk' : ¬ (k : Int) = 3 := by omega
            simp [go_sem, h0, h6, e5, hk', h4', hg, ht, hin, hcl, show (m : Int) ≤ s'.length by omega, get_alloc, ty_alloc, show (out.length + 1) * 32 ≤ 140737488355328 by omega, show out.length ≤ 9223372036854775806 by omega]
            simp only [if_neg hk] at hR
            refine ⟨f, by omega, s'.drop m, line, _, by simp; omega, by simp; omega, by simp; omega, hR, by simp [go_sem], by simp [go_sem, h6], .inr ⟨τ.next + 1, by simp [go_sem], by simp [get_alloc, next_alloc, next_kill, hT, tksC_snoc, tkC], by simp [ty_alloc, next_alloc, next_kill], by omega, by simp [next_alloc, next_kill], by simp⟩, ?_, by simp [next_alloc, next_kill]; omega⟩
            rw [keeps_alloc _ _ (by simp [next_alloc, next_kill]; omega), keeps_kill _ hid, keeps_alloc _ _ hN]; exact hK
    · rw [if_pos he] at hR
      rw [← hR]
      simp [go_sem, he, h6]
      exact ⟨frz_tokD line e (.inl ⟨rfl, rfl⟩), hK⟩
  · rw [tokLoop, if_pos (List.eq_nil_of_length_eq_zero (by omega))] at hR
    rw [← hR]
    simp [go_sem, hpos]
    exact ⟨frz_tokD 0 0 h5, hK⟩
end Go.Proofs.Ytkjikcmjcdlifaa
