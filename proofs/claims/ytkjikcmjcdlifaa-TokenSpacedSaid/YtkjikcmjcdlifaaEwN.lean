/-
  A cut: what follows a piece of code is shown once, of all states that the piece may leave. Nothing here is about one program.
-/
import Derived.Test.YtkjikcmjcdlifaaEwL
namespace Go.Ew
open Go Go.RowKit

section
variable {P : Program} {N : Nat} {Q : Fr → Mem → Prop} {M : Fr → Mem → Prop} {k : List Itm}
theorem dropTo_cut (id : Nat) : ∀ (l1 k' : List Itm), dropTo id (l1 ++ .goal M :: k) = some k' → (∃ l2, k' = l2 ++ .goal M :: k ∧ dropTo id (l1 ++ k) = some (l2 ++ k)) ∨ dropTo id (l1 ++ k) = some k'
  | [], k', h => .inr (by simpa [dropTo] using h)
  | .blk id' :: l1, k', h => by
    simp only [List.cons_append, dropTo] at h ⊢
    split at h
    · rename_i e
      cases h
      exact .inl ⟨l1, rfl, by rw [if_pos e]⟩
    · rename_i e
      rw [if_neg e]
      exact dropTo_cut id l1 k' h
  | .code _ :: l1, k', h => by simp only [List.cons_append, dropTo] at h ⊢; exact dropTo_cut id l1 k' h
  | .goal _ :: l1, k', h => by simp only [List.cons_append, dropTo] at h ⊢; exact dropTo_cut id l1 k' h
  | .ops _ _ _ :: l1, k', h => by simp only [List.cons_append, dropTo] at h ⊢; exact dropTo_cut id l1 k' h
  | .run _ _ _ _ :: l1, k', h => by simp only [List.cons_append, dropTo] at h ⊢; exact dropTo_cut id l1 k' h

theorem EW_cut_aux (hM : ∀ fr σ, M fr σ → EW P N Q k fr σ) {K : List Itm} {fr : Fr} {σ : Mem} (h : EW P N Q K fr σ) : ∀ l1, K = l1 ++ .goal M :: k → EW P N Q (l1 ++ k) fr σ := by
  induction h with
  | nil hq => intro l1 e; simp at e
  | @goal K' k' fr σ hk =>
    intro l1 e
    cases l1 with
    | nil => simp only [List.nil_append, List.cons.injEq, Itm.goal.injEq] at e; obtain ⟨rfl, rfl⟩ := e; exact hM _ _ hk
    | cons a l1 => simp only [List.cons_append, List.cons.injEq] at e; obtain ⟨rfl, rfl⟩ := e; exact .goal hk
  | blk _ ih =>
    intro l1 e
    cases l1 with
    | nil => simp at e
    | cons a l1 => simp only [List.cons_append, List.cons.injEq] at e; obtain ⟨rfl, rfl⟩ := e; exact .blk (ih l1 rfl)
  | skip _ ih =>
    intro l1 e
    cases l1 with
    | nil => simp at e
    | cons a l1 => simp only [List.cons_append, List.cons.injEq] at e; obtain ⟨rfl, rfl⟩ := e; exact .skip (ih l1 rfl)
  | @seq a b k' fr σ _ ih =>
    intro l1 e
    cases l1 with
    | nil => simp at e
    | cons x l1 => simp only [List.cons_append, List.cons.injEq] at e; obtain ⟨rfl, rfl⟩ := e; exact .seq (ih (.code a :: .code b :: l1) rfl)
  | @cond c a b k' fr σ t hc _ _ ih1 ih2 =>
    intro l1 e
    cases l1 with
    | nil => simp at e
    | cons x l1 => simp only [List.cons_append, List.cons.injEq] at e; obtain ⟨rfl, rfl⟩ := e; exact .cond t hc (fun ht => ih1 ht (.code a :: l1) rfl) (fun ht => ih2 ht (.code b :: l1) rfl)
  | @block id c k' fr σ _ ih =>
    intro l1 e
    cases l1 with
    | nil => simp at e
    | cons x l1 => simp only [List.cons_append, List.cons.injEq] at e; obtain ⟨rfl, rfl⟩ := e; exact .block (ih (.code c :: .blk id :: l1) rfl)
  | @loop c k' fr σ I n h0 _ ih =>
    intro l1 e
    cases l1 with
    | nil => simp at e
    | cons x l1 => simp only [List.cons_append, List.cons.injEq] at e; obtain ⟨rfl, rfl⟩ := e; exact .loop I n h0 (fun n fr σ hI => ih n fr σ hI (.code c :: .goal _ :: l1) rfl)
  | @exit id k' k'' fr σ hd hw ih =>
    intro l1 e
    cases l1 with
    | nil => simp at e
    | cons x l1 =>
      simp only [List.cons_append, List.cons.injEq] at e
      obtain ⟨rfl, rfl⟩ := e
      rcases dropTo_cut id l1 k'' hd with ⟨l2, rfl, h2⟩ | h2
      · exact .exit h2 (ih l2 rfl)
      · exact .exit h2 hw
  | ret hq =>
    intro l1 e
    cases l1 with
    | nil => simp at e
    | cons x l1 => simp only [List.cons_append, List.cons.injEq] at e; obtain ⟨rfl, rfl⟩ := e; exact .ret hq
  | @region id ops k' fr σ _ ih =>
    intro l1 e
    cases l1 with
    | nil => simp at e
    | cons x l1 => simp only [List.cons_append, List.cons.injEq] at e; obtain ⟨rfl, rfl⟩ := e; exact .region (ih (.ops false ops.toList ops :: l1) rfl)
  | @regionD id ops k' fr σ h1 h2 _ ih =>
    intro l1 e
    cases l1 with
    | nil => simp at e
    | cons x l1 => simp only [List.cons_append, List.cons.injEq] at e; obtain ⟨rfl, rfl⟩ := e; exact .regionD h1 h2 (ih (.ops true ops.toList ops :: l1) rfl)
  | @raw id ops k' fr σ K h1 _ ih =>
    intro l1 e
    cases l1 with
    | nil => simp at e
    | cons x l1 => simp only [List.cons_append, List.cons.injEq] at e; obtain ⟨rfl, rfl⟩ := e; exact .raw K h1 (fun fr' σ' hk => ih fr' σ' hk l1 rfl)
  | opsNil _ ih =>
    intro l1 e
    cases l1 with
    | nil => simp at e
    | cons x l1 => simp only [List.cons_append, List.cons.injEq] at e; obtain ⟨rfl, rfl⟩ := e; exact .opsNil (ih l1 rfl)
  | @opsRun q o l all k' fr σ hg _ ih =>
    intro l1 e
    cases l1 with
    | nil => simp at e
    | cons x l1 => simp only [List.cons_append, List.cons.injEq] at e; obtain ⟨rfl, rfl⟩ := e; exact .opsRun hg (ih (.run q o l all :: l1) rfl)
  | @opsSkip q o l all k' fr σ hg hd _ ih =>
    intro l1 e
    cases l1 with
    | nil => simp at e
    | cons x l1 => simp only [List.cons_append, List.cons.injEq] at e; obtain ⟨rfl, rfl⟩ := e; exact .opsSkip hg hd (ih (.ops q l all :: l1) rfl)
  | @opsTest q o l all k' fr σ x b hg hd _ _ ih1 ih2 =>
    intro l1 e
    cases l1 with
    | nil => simp at e
    | cons y l1 => simp only [List.cons_append, List.cons.injEq] at e; obtain ⟨rfl, rfl⟩ := e; exact .opsTest x b hg hd (fun h => ih1 h (.run q o l all :: l1) rfl) (fun h => ih2 h (.ops q l all :: l1) rfl)
  | @op q o l all k' fr σ x σ' he hd hq _ ih =>
    intro l1 e
    cases l1 with
    | nil => simp at e
    | cons y l1 => simp only [List.cons_append, List.cons.injEq] at e; obtain ⟨rfl, rfl⟩ := e; exact .op x σ' he hd hq (ih (.ops q l all :: l1) rfl)
  | @call o l all k' fr σ f args R he hd hc _ ih =>
    intro l1 e
    cases l1 with
    | nil => simp at e
    | cons y l1 => simp only [List.cons_append, List.cons.injEq] at e; obtain ⟨rfl, rfl⟩ := e; exact .call f args R he hd hc (fun x σ' hR => ih x σ' hR (.ops false l all :: l1) rfl)
  | @qcall o l all k' fr σ f args D he hd hc hr _ ih =>
    intro l1 e
    cases l1 with
    | nil => simp at e
    | cons y l1 => simp only [List.cons_append, List.cons.injEq] at e; obtain ⟨rfl, rfl⟩ := e; exact .qcall f args D he hd hc hr (ih (.ops true l all :: l1) rfl)

/-- THE CUT behind a piece of code. -/
theorem EW_cut {c : Code} {fr : Fr} {σ : Mem} (M : Fr → Mem → Prop) (h : EW P N Q (.code c :: .goal M :: k) fr σ) (hM : ∀ fr σ, M fr σ → EW P N Q k fr σ) : EW P N Q (.code c :: k) fr σ := EW_cut_aux hM h [.code c] rfl
/-- THE CUT behind a test. -/
theorem EWc_cut {x : AV} {a b : Code} {fr : Fr} {σ : Mem} (M : Fr → Mem → Prop) (h : EWc x P N Q a b (.goal M :: k) fr σ) (hM : ∀ fr σ, M fr σ → EW P N Q k fr σ) : EWc x P N Q a b k fr σ := by
  obtain ⟨t, h1, h2, h3⟩ := h
  exact ⟨t, h1, fun ht => EW_cut M (h2 ht) hM, fun ht => EW_cut M (h3 ht) hM⟩
end
end Go.Ew
