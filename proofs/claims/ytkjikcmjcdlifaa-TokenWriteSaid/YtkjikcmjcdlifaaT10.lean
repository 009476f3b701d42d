import Derived.Test.YtkjikcmjcdlifaaT9
namespace Go.Proofs.Ytkjikcmjcdlifaa
open Go Go.Ew Go.Proofs Go.RowKit
set_option maxRecDepth 10000
theorem isName_ev (s : List UInt8) (hs : s.length ≤ 9223372036854774000) : PureA Try.prog 24 [.str s] (.bool (rightF 1 s)) := by
  refine pureA_of Try.func24 rfl (by kernel_rfl) (fun σ => ?_)
  simp [go_sem, Try.results24, Try.ntmps24]
  refine EWcall_pure (whole_ev 1 s 0 hs) ?_
  simp [go_sem, show addQ 1 s = s from rfl]
theorem quotedF_small (s : List UInt8) : (quotedF s).1 ≤ 62 := by
  unfold quotedF
  simp only
  split
  · exact Nat.zero_le _
  · split
    · exact Nat.zero_le _
    · simp only; omega
theorem nextF_small (s : List UInt8) (h : 0 < s.length) : (nextF s).2.1 ≤ 62 := by
  rw [nextF_eq s h]
  split
  · split <;> simp only <;> omega
  · split
    · split <;> simp only <;> omega
    · split
      · exact quotedF_small s
      · split
        · decide
        · split <;> decide
theorem right_small (k : Int) (s : List UInt8) (h : rightF k s = true) : s.length ≤ 62 := by
  simp only [rightF, Bool.and_eq_true, decide_eq_true_eq] at h
  by_cases hp : 0 < s.length
  · rw [← h.2]; exact nextF_small s hp
  · omega
def sepF (p : Option Tk) (t : Tk) : List UInt8 := match p with | none => [] | some p => if p.line = t.line then [32] else [10]
def wrF (p : Option Tk) (acc : List UInt8) : List Tk → List UInt8 × Nat
  | [] => if 20000 < acc.length then ([], 3) else (acc, 0)
  | t :: r => if rightF t.kind (addQ t.kind t.text) then wrF (some t) (acc ++ sepF p t ++ addQ t.kind t.text) r else ([], 1)
def writeF (l : List Tk) : List UInt8 × Nat := if 4000 < l.length then ([], 3) else wrF none [] l
theorem Bd.more {n0 : Nat} {τ τ' : Mem} {id : Nat} {l : List UInt8} (h : Bd n0 τ id l) (hn : τ.next ≤ τ'.next) (hg : ∀ i, i < τ.next → τ'.get i = τ.get i) (ht : ∀ i, i < τ.next → τ'.ty i = τ.ty i) : Bd n0 τ' id l := by
  obtain ⟨p, buf, h1, h2, h3, h4, h5, h6⟩ := h
  refine ⟨p, buf, by rw [hg _ h4]; exact h1, by rw [ht _ h4]; exact h2, h3, by omega, h5, ?_⟩
  rcases h6 with h6 | ⟨bid, a1, a2, a3, a4, a5, a6, a7⟩
  · exact .inl h6
  · exact .inr ⟨bid, a1, by rw [hg _ a7]; exact a2, by rw [ht _ a7]; exact a3, a4, a5, a6, by omega⟩
theorem keeps_of {σ τ τ' : Mem} (h : Keeps σ τ) (k : ∀ i, i < σ.next → τ'.get i = τ.get i) : Keeps σ τ' := fun i hi => (k i hi).trans (h i hi)
theorem tksC_drop (l : List Tk) (i : Nat) (h : i < l.length) : (tksC l).drop (i * 3) = tkC l[i] ++ tksC (l.drop (i + 1)) := drop_flatMap (f := tkC) (sz := 3) (fun _ => rfl) l i h
def WInv (l : List Tk) (b : Nat) (σ : Mem) (n : Nat) (fr : Fr) (τ : Mem) : Prop :=
  ∃ (i : Nat) (acc : List UInt8), i ≤ l.length ∧ n = l.length - i ∧ acc.length ≤ i * 100 ∧ wrF (if i = 0 then none else l[i - 1]?) acc (l.drop i) = writeF l ∧ fr 0 = .imm l.length (tksC l) ∧ fr 4 = .ptr b 0 ∧ fr 13 = .imm l.length (tksC l) ∧ fr 14 = .int l.length ∧ fr 15 = .int i ∧ Bd σ.next τ b acc ∧ Keeps σ τ ∧ σ.next ≤ τ.next
theorem write_ev (l : List Tk) (hl : l.length ≤ 9223372036854774000) (hs : ∀ t ∈ l, t.text.length ≤ 9223372036854774000) : PureA Try.prog 18 [.imm l.length (tksC l)] (.tup [.str (writeF l).1, .int (writeF l).2]) := by
  refine pureA_of Try.func18 rfl (by kernel_rfl) (fun σ => ?_)
  simp [go_sem, Try.results18, Try.ntmps18]
  by_cases hbig : 4000 < l.length
  · simp [go_sem, writeF, hbig, show (4000 : Int) < l.length by omega]
  simp [go_sem, show ¬ (4000 : Int) < l.length by omega]
  refine EW_loop (WInv l σ.next σ) l.length ?_ ?_
  · refine ⟨0, [], by omega, by omega, by simp, by simp [writeF, hbig], by simp [go_sem], by simp [go_sem], by simp [go_sem], by simp [go_sem], by simp [go_sem], ⟨.lit (.pointer none), .nils, ?_, ?_, Nat.le_refl _, ?_, .inl rfl, .inl ⟨rfl, rfl⟩⟩, ?_, ?_⟩
    · simp [get_set]
    · simp [ty_set, ty_alloc]
    · simp [next_set, next_alloc]
    · rw [keeps_set _ _ (Nat.le_refl _), keeps_alloc _ _ (Nat.le_refl _)]; exact Keeps.refl _
    · simp [next_set, next_alloc]
  rintro n fr τ ⟨i, acc, hi, rfl, hacc, hR, h0, h4, h13, h14, h15, hB, hK, hN⟩
  simp [go_sem, h14, h15]
  by_cases hlt : i < l.length
  · have hd := tksC_drop l i hlt
    simp only [tkC, List.cons_append, List.nil_append] at hd
    rw [List.drop_eq_getElem_cons hlt, wrF] at hR
    simp [go_sem, hlt, h13, h15, hd, get_set, get_alloc]
    refine EWcall_pure (whole_ev _ _ _ (hs _ (List.getElem_mem hlt))) ?_
    generalize ht : l[i] = t at *
    rcases hr : rightF t.kind (addQ t.kind t.text)
    · rw [if_neg (by simp [hr])] at hR
      rw [← hR]
      simp [go_sem]
      rw [keeps_set _ _ hN, keeps_alloc _ _ hN]; exact hK
    · rw [if_pos hr] at hR
      have hsm := right_small _ _ hr
      obtain ⟨τ1, hτ1⟩ : ∃ τ1, τ1 = (τ.alloc 46 [AV.lit (Value.int IntKind.i64 0), AV.lit (Value.string ⟨⟨[]⟩⟩), AV.lit (Value.int IntKind.i64 0)]).set τ.next [AV.int t.kind, AV.str t.text, AV.int t.line] := ⟨_, rfl⟩
      have hB1 : Bd σ.next τ1 σ.next acc := by
        rw [hτ1]
        exact hB.more (by simp [next_set, next_alloc]) (fun i hi => by simp [get_set, get_alloc, show ¬ i = τ.next by omega]) (fun i hi => by simp [ty_set, ty_alloc, show ¬ i = τ.next by omega])
      have hK1 : Keeps σ τ1 := by rw [hτ1, keeps_set _ _ hN, keeps_alloc _ _ hN]; exact hK
      have hN1 : σ.next ≤ τ1.next := by rw [hτ1]; simp [next_set, next_alloc]; omega
      have hg1 : τ1.get τ.next = some [AV.int t.kind, AV.str t.text, AV.int t.line] := by rw [hτ1]; simp [get_set]
      have hnx : (if i + 1 = 0 then none else l[i + 1 - 1]?) = some t := by simp [List.getElem?_eq_getElem hlt, ht]
      have hwi : IntKind.i64.wrap ((i : Int) + 1) = ((i + 1 : Nat) : Int) := by rw [wrap64_of _ (by omega) (by omega)]; rfl
      simp [go_sem]
      rw [← hτ1]
      by_cases hi0 : i = 0
      · subst hi0
        simp [go_sem, h4]
        refine EWcall_of (writeString_ev hB1 (by omega)) ?_
        rintro x τ2 ⟨hB2, hN2, hK2⟩
        simp [go_sem, h15]
        refine ⟨l.length - 1, by omega, 1, _, by omega, rfl, ?_, ?_, by simp [go_sem, h0], by simp [go_sem, h4], by simp [go_sem, h13], by simp [go_sem, h14], by simp [go_sem]; exact hwi, hB2, keeps_of hK1 hK2, by omega⟩
        · simp at hacc ⊢; subst hacc; simp; omega
        · rw [hnx]; simpa [sepF] using hR
      · have hlp : i - 1 < l.length := by omega
        have hd2 := tksC_drop l (i - 1) hlp
        simp only [tkC, List.cons_append, List.nil_append] at hd2
        obtain ⟨q, hq⟩ : ∃ q, q = i - 1 := ⟨_, rfl⟩
        have hpv : (if i = 0 then none else l[i - 1]?) = some l[i - 1] := by simp [hi0, List.getElem?_eq_getElem hlp]
        rw [hpv] at hR
        simp only [← hq] at hd2 hR hlp
        have hw : IntKind.i64.wrap ((i : Int) - 1) = (q : Int) := by rw [wrap64_of _ (by omega) (by omega)]; omega
        simp [go_sem, hi0]
        refine EW_regionD (by kernel_rfl) (by kernel_rfl) ?_
        generalize l[q] = u at hd2 hR
        simp [go_sem, h0, hw, hlp, hd2, hg1]
        by_cases hul : u.line = t.line
        · simp [go_sem, hul, h4]
          refine EWcall_of (writeByte_ev 32 hB1 (by omega)) ?_
          rintro x τ2 ⟨hB2, hN2, hK2⟩
          simp [go_sem, h4]
          refine EWcall_of (writeString_ev hB2 (by simp; omega)) ?_
          rintro x τ3 ⟨hB3, hN3, hK3⟩
          simp [go_sem, h15]
          refine ⟨l.length - (i + 1), by omega, i + 1, _, by omega, rfl, ?_, ?_, by simp [go_sem, h0], by simp [go_sem, h4], by simp [go_sem, h13], by simp [go_sem, h14], by simp [go_sem]; exact hwi, hB3, keeps_of (keeps_of hK1 hK2) hK3, by omega⟩
          · simp; omega
          · rw [hnx]; simpa [sepF, hul] using hR
        · simp [go_sem, hul, h4]
          refine EWcall_of (writeByte_ev 10 hB1 (by omega)) ?_
          rintro x τ2 ⟨hB2, hN2, hK2⟩
          simp [go_sem, h4]
          refine EWcall_of (writeString_ev hB2 (by simp; omega)) ?_
          rintro x τ3 ⟨hB3, hN3, hK3⟩
          simp [go_sem, h15]
          refine ⟨l.length - (i + 1), by omega, i + 1, _, by omega, rfl, ?_, ?_, by simp [go_sem, h0], by simp [go_sem, h4], by simp [go_sem, h13], by simp [go_sem, h14], by simp [go_sem]; exact hwi, hB3, keeps_of (keeps_of hK1 hK2) hK3, by omega⟩
          · simp; omega
          · rw [hnx]; simpa [sepF, hul] using hR
  · have : i = l.length := by omega
    subst this
    rw [List.drop_length, wrF] at hR
    simp [go_sem, h4]
    refine EWcall_of (len_ev hB) ?_
    rintro x τ2 ⟨rfl, rfl⟩
    by_cases hb : 20000 < acc.length
    · rw [if_pos hb] at hR
      rw [← hR]
      simp [go_sem, show (20000 : Int) < acc.length by omega, hK]
    · rw [if_neg hb] at hR
      rw [← hR]
      simp [go_sem, show ¬ (20000 : Int) < acc.length by omega, h4]
      refine EWcall_of (string_ev hB) ?_
      rintro x τ3 ⟨rfl, hN3, hK3⟩
      simp [go_sem]
      exact keeps_of hK hK3
end Go.Proofs.Ytkjikcmjcdlifaa
