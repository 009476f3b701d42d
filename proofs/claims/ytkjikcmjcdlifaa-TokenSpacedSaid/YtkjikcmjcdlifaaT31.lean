import Derived.Test.YtkjikcmjcdlifaaT30
import Derived.Test.YtkjikcmjcdlifaaEwN
namespace Go.Proofs.Ytkjikcmjcdlifaa
open Go Go.Ew Go.Proofs Go.RowKit
set_option maxRecDepth 10000
def byC (n : Int) : List AV := [.lit (.int .u8 n)]
def Wid (x : AV) (i : Nat) : Prop := ∃ n, x = .arr i 0 n 3
def SpInv (l : List Tk) (g : List Int) (b : Nat) (σ : Mem) (n : Nat) (fr : Fr) (τ : Mem) : Prop :=
  ∃ (i : Nat) (acc : List UInt8) (line : Nat) (out : List Tk), i ≤ l.length ∧ n = l.length - i ∧ acc.length ≤ i * 100 ∧ line ≤ 1 + 10 * i ∧ rightAll (l.drop i) = rightAll l ∧
    acc ++ gbody (spaced g i (l.drop i)) = gbody (spaced g 0 l) ∧ out ++ relined line (spaced g i (l.drop i)) = relined 1 (spaced g 0 l) ∧ out.length = i ∧
    fr 1 = .imm g.length (g.flatMap byC) ∧ fr 5 = .ptr b 0 ∧ fr 6 = .int line ∧ TksAt σ.next τ (fr 7) out ∧ fr 24 = .imm l.length (tksC l) ∧ fr 25 = .int l.length ∧ fr 26 = .int i ∧
    BdS (fun k => k < σ.next ∨ Wid (fr 7) k) τ b acc ∧ Keeps σ τ ∧ σ.next ≤ τ.next
theorem tokenSpaced_ev (l : List Tk) (g : List Int) (hgw : ∀ n ∈ g, (Lit.int .u8 n).wf = true) (hmem : ∀ t ∈ l, t.text.length ≤ 140737488351232) : PureA Try.prog 10 [.imm l.length (tksC l), .imm g.length (g.flatMap byC)] (.bool true) := by
  refine pureA_of Try.func10 rfl (by kernel_rfl) (fun σ => ?_)
  simp [go_sem, Try.results10, Try.ntmps10]
  refine EWcall_pure awake_ev ?_
  simp [go_sem]
  refine EWcall_pure (rfew_ev l) ?_
  rcases hf : fewW l
  · simp [go_sem]
    refine EWcall_pure awake_ev ?_
    simp [go_sem]
  have hl := fewW_len hf
  have hsum := fewW_sum hf (by have := textSum_le l hmem; omega)
  simp [go_sem]
  refine EW_loop (SpInv l g σ.next σ) l.length ?_ ?_
  · refine ⟨0, [], 1, [], by omega, by omega, by simp, by omega, by simp, by simp, by simp, rfl, by simp [go_sem], by simp [go_sem], by simp [go_sem], .inl ⟨by simp [go_sem], rfl⟩, by simp [go_sem], by simp [go_sem], by simp [go_sem], ⟨.lit (.pointer none), .nils, ?_, ?_, ?_, ?_, .inl rfl, .inl ⟨rfl, rfl⟩⟩, ?_, ?_⟩
    · simp [get_alloc]
    · simp [ty_alloc]
    · simp [go_sem, Wid]
    · simp [next_alloc]
    · rw [keeps_alloc _ _ (Nat.le_refl _)]; exact Keeps.refl _
    · simp [next_alloc]
  rintro n fr τ ⟨i, acc, line, out, hi, rfl, hacc, hline, hR, hA, hO, hol, h1, h5, h6, h7, h24, h25, h26, hB, hK, hN⟩
  simp [go_sem, h25, h26]
  by_cases hlt : i < l.length
  · have hwi : IntKind.i64.wrap ((i : Int) + 1) = ((i + 1 : Nat) : Int) := by rw [wrap64_of _ (by omega) (by omega)]; rfl
    have d1 := tksC_at l i hlt
    rw [drop_tkAt l i hlt] at hR hA hO
    generalize ht : tkAt l i = t at *
    have htm : t ∈ l := by rw [← ht]; exact tkAt_mem l i hlt
    simp only [rightAll, List.all_cons] at hR
    simp [go_sem, hlt, h24, h26, d1, get_set, get_alloc]
    refine EWcall_pure (rright_ev one_ev _ _ _ (by have := hmem t htm; omega)) ?_
    rcases hr : rightF t.kind (addQ t.kind t.text)
    · simp [go_sem]
      rw [keeps_set _ _ hN, keeps_alloc _ _ hN]; exact hK
    rw [hr, Bool.true_and] at hR
    have hsm := right_small _ _ hr
    simp only [spaced, gbody, relined] at hA hO
    obtain ⟨τ1, hτ1⟩ : ∃ τ1, τ1 = (τ.alloc 46 [AV.lit (Value.int IntKind.i64 0), AV.lit (Value.string ⟨⟨[]⟩⟩), AV.lit (Value.int IntKind.i64 0)]).set τ.next [AV.int t.kind, AV.str t.text, AV.int t.line] := ⟨_, rfl⟩
    simp [go_sem, h1]
    rw [← hτ1]
    have hτn : τ1.next = τ.next + 1 := by rw [hτ1]; rfl
    have hg9 : τ1.get τ.next = some [AV.int t.kind, AV.str t.text, AV.int t.line] := by rw [hτ1]; simp [get_set]
    have hold : ∀ k, k < τ.next → τ1.get k = τ.get k ∧ τ1.ty k = τ.ty k := fun k hk => by rw [hτ1]; simp [get_set, get_alloc, ty_set, ty_alloc, show ¬ k = τ.next by omega]
    refine EWc_cut (fun fr' τ' => fr' 1 = .imm g.length (g.flatMap byC) ∧ fr' 5 = .ptr σ.next 0 ∧ fr' 6 = .int line ∧ fr' 7 = fr 7 ∧ fr' 9 = .ptr τ.next 0 ∧ fr' 10 = .str (gapAt g i) ∧ fr' 24 = .imm l.length (tksC l) ∧ fr' 25 = .int l.length ∧ fr' 26 = .int i ∧
      τ1.next ≤ τ'.next ∧ ∀ k, k < τ1.next → τ'.get k = τ1.get k ∧ τ'.ty k = τ1.ty k) ?_ ?_
    · by_cases hgl : i < g.length
      · obtain ⟨q0, hq0⟩ : ∃ q0 : Nat, g[i] = q0 := by
          have := hgw g[i] (List.getElem_mem hgl)
          simp only [Lit.wf, Bool.and_eq_true, decide_eq_true_eq] at this
          have hm : IntKind.u8.min = 0 := rfl
          exact ⟨g[i].toNat, by omega⟩
        obtain ⟨p, hp, hp5⟩ : ∃ p : Nat, q0 % 5 = p ∧ p < 5 := ⟨_, rfl, by omega⟩
        have hgi : (g.flatMap byC)[i]? = some (.lit (.int .u8 q0)) := by
          have := getElem?_flatMap (f := byC) (sz := 1) (fun _ => rfl) g i 0 hgl (by decide)
          rw [Nat.mul_one, Nat.add_zero] at this
          rw [this, hq0]; rfl
        have htm5 : (q0 : Int).tmod 5 = (p : Int) := by rw [Int.tmod_eq_emod_of_nonneg (by omega)]; omega
        have hgp : ([AV.lit (Value.string ⟨#[32]⟩), AV.lit (Value.string ⟨#[10]⟩), AV.lit (Value.string ⟨#[9, 32, 13, 10]⟩), AV.lit (Value.string ⟨#[32, 35, 32, 45, 62, 32, 34, 32, 123, 10]⟩), AV.lit (Value.string ⟨#[35, 10, 10]⟩)] : List AV)[p]? = some (.str (gapAt g i)) := by
          have e : gapAt g i = gapL.getD p [] := by
            unfold gapAt
            rw [if_pos hgl, List.getD_eq_getElem?_getD (l := g), List.getElem?_eq_getElem hgl, Option.getD_some, hq0, Int.toNat_natCast, hp]
          rw [e]
          rcases (by omega : p = 0 ∨ p = 1 ∨ p = 2 ∨ p = 3 ∨ p = 4) with rfl | rfl | rfl | rfl | rfl <;> rfl
        simp [go_sem, hgl, h1, hgi, htm5, hp5, show (p : Int) < 5 by omega, h5, h6, h24, h25, h26]
        exact ⟨(List.getElem?_eq_some_iff.1 hgp).2, fun k hk => by simp [get_alloc, ty_alloc, show ¬ k = τ1.next by omega]⟩
      · have e : gapAt g i = [32] := by unfold gapAt; rw [if_neg hgl]
        simp [go_sem, hgl, h1, h5, h6, h24, h25, h26, e]
    · rintro fr2 τ2 ⟨g1, g5, g6, g7, g9, g10, g24, g25, g26, hn2, hold2⟩
      obtain ⟨hG1, hG2, hG3⟩ := gapL_ok _ (gapAt_mem g i)
      generalize gapAt g i = G at *
      have hcnt := List.count_le_length (a := (10 : UInt8)) (l := G)
      have hline2 := lineOf_small G line (by omega)
      rw [hline2] at hO
      have hw1 : IntKind.i64.wrap ((line : Int) + ((G.count 10 : Nat) : Int)) = ((line + G.count 10 : Nat) : Int) := by rw [wrap64_of _ (by omega) (by omega)]; omega
      simp [go_sem, g10]
      refine EWcall_pure (count_ev G) ?_
      have hg9' : τ2.get τ.next = some [AV.int t.kind, AV.str t.text, AV.int t.line] := by rw [(hold2 τ.next (by omega)).1]; exact hg9
      simp [go_sem, g6, g9, hg9', hw1]
      refine EWcall_frz (rwrite_ev [t] (fun u hu => by simp at hu; subst hu; have := hmem u htm; omega)) rfl ?_ ?_
      · simp [go_sem]
        exact frz_arr (Nat.zero_le _) (by simp [get_alloc]; rfl) (tksC_data _)
      rw [writeF_one t hr]
      obtain ⟨τ3, hτ3⟩ : ∃ τ3, τ3 = τ2.alloc 46 [AV.int t.kind, AV.str t.text, AV.int t.line] := ⟨_, rfl⟩
      have hn3 : τ3.next = τ2.next + 1 := by rw [hτ3]; rfl
      have hold3 : ∀ k, k < τ2.next → τ3.get k = τ2.get k ∧ τ3.ty k = τ2.ty k := fun k hk => by rw [hτ3]; simp [get_alloc, ty_alloc, show ¬ k = τ2.next by omega]
      have hidl : ∀ k, Wid (fr 7) k → k < τ.next := by
        rintro k ⟨m, hk⟩
        rcases h7 with ⟨e, _⟩ | ⟨id, e, _, _, _, h, _⟩
        · rw [e] at hk; cases hk
        · rw [e] at hk; cases hk; exact h
      have hB3 : BdS (fun k => k < σ.next ∨ Wid (fr 7) k ∨ k = τ.next) τ3 σ.next acc := hB.same (by omega) (fun k hk _ => by
        obtain ⟨a1, a2⟩ := hold k hk
        obtain ⟨b1, b2⟩ := hold2 k (by omega)
        obtain ⟨c1, c2⟩ := hold3 k (by omega)
        exact ⟨by rw [c1, b1, a1], by rw [c2, b2, a2]⟩) (fun k hk h => by
        rcases h with h | h | h
        · exact .inl h
        · exact .inr h
        · omega)
      simp [go_sem, g10, show G.length + (addQ t.kind t.text).length ≤ 9223372036854775807 by omega, g5]
      rw [← hτ3]
      refine EWcall_of (writeStringS_ev hB3 (fun k hk => ?_) (by simp; omega)) ?_
      · rcases hk with h | h | h
        · omega
        · have := hidl k h; omega
        · omega
      rintro x τ4 ⟨hB4, hn4, hold4⟩
      have hg4 : τ4.get τ.next = some [AV.int t.kind, AV.str t.text, AV.int t.line] := by rw [(hold4 τ.next (.inr (.inr rfl))).1, (hold3 τ.next (by omega)).1]; exact hg9'
      obtain ⟨line', hl'⟩ : ∃ line', line' = line + G.count 10 := ⟨_, rfl⟩
      rw [← hl'] at hO hw1
      have hlc : (line : Int) + ((G.count 10 : Nat) : Int) = (line' : Int) := by omega
      have hwid : ∀ k, Wid (fr 7) k → σ.next ≤ k := by
        rintro k ⟨m, hk⟩
        rcases h7 with ⟨e, _⟩ | ⟨id, e, _, _, h, _, _⟩
        · rw [e] at hk; cases hk
        · rw [e] at hk; cases hk; exact h
      have fin : ∀ (fr' : Fr) (τ5 : Mem) (wid : Nat), fr' 1 = .imm g.length (g.flatMap byC) → fr' 5 = .ptr σ.next 0 → fr' 6 = .int line' → fr' 24 = .imm l.length (tksC l) → fr' 25 = .int l.length → fr' 26 = .int ((i + 1 : Nat) : Int) →
          fr' 7 = .arr wid 0 (out.length + 1) 3 → τ5.get wid = some (tksC (out ++ [⟨t.kind, t.text, line'⟩])) → τ5.ty wid = 46 → wid < τ5.next → τ4.next ≤ wid → τ4.next ≤ τ5.next → (∀ k, k < τ4.next → k ≠ τ.next → ¬ Wid (fr 7) k → τ5.get k = τ4.get k ∧ τ5.ty k = τ4.ty k) →
          ∃ m, m < l.length - i ∧ SpInv l g σ.next σ m fr' τ5 := by
        intro fr' τ5 wid a1 a5 a6 a24 a25 a26 a7 hgw5 htw5 hwlt hw4 hn5 hold5
        refine ⟨l.length - (i + 1), by omega, i + 1, acc ++ (G ++ addQ t.kind t.text), line', out ++ [⟨t.kind, t.text, line'⟩], by omega, rfl, by simp; omega, by omega, hR, by rw [← hA]; simp, by rw [← hO]; simp, by simp [hol], a1, a5, a6, ?_, a24, a25, a26, ?_, ?_, by omega⟩
        · exact .inr ⟨wid, by rw [a7]; simp, hgw5, htw5, by omega, hwlt, by simp⟩
        · refine hB4.same hn5 (fun k hk h => hold5 k hk (fun e => h (.inr (.inr e))) (fun e => h (.inr (.inl e)))) (fun k hk h => ?_)
          rcases h with h | ⟨m, h⟩
          · exact .inl h
          · rw [a7] at h; cases h; omega
        · intro k hk
          have hk1 : k ≠ τ.next := by omega
          have hk2 : ¬ Wid (fr 7) k := fun e => by have := hwid k e; omega
          rw [(hold5 k (by omega) hk1 hk2).1, (hold4 k (.inl hk)).1, (hold3 k (by omega)).1, (hold2 k (by omega)).1, (hold k (by omega)).1]
          exact hK k hk
      rcases h7 with ⟨e7, rfl⟩ | ⟨id, e7, hg7, ht7, hid, hidl', hne'⟩
      · simp [go_sem, g9, hg4, g7, e7, get_set, get_alloc, hlc, g26]
        refine fin _ _ (τ4.next + 1) (by simp [go_sem, g1]) (by simp [go_sem, g5]) (by simp [go_sem]) (by simp [go_sem, g24]) (by simp [go_sem, g25]) (by simp [go_sem]; exact hwi) (by simp [go_sem]) (by simp [get_alloc, next_alloc, next_set, tksC, tkC]) (by simp [ty_alloc, next_alloc, next_set]) (by simp [next_alloc, next_set]) (by omega) (by simp [next_alloc, next_set]; omega) (fun k hk hk1 _ => ?_)
        simp [get_alloc, get_set, ty_alloc, ty_set, next_alloc, next_set, hk1, show ¬ k = τ4.next by omega, show ¬ k = τ4.next + 1 by omega]
      · have hW : Wid (fr 7) id := ⟨out.length, e7⟩
        have hid4 : τ4.get id = some (tksC out) ∧ τ4.ty id = 46 := by
          rw [(hold4 id (.inr (.inl hW))).1, (hold4 id (.inr (.inl hW))).2, (hold3 id (by omega)).1, (hold3 id (by omega)).2, (hold2 id (by omega)).1, (hold2 id (by omega)).2, (hold id (by omega)).1, (hold id (by omega)).2]
          exact ⟨hg7, ht7⟩
        have hcl := tksC_len out
        have hT : (tksC out).take (out.length * 3) = tksC out := List.take_of_length_le (by omega)
        have hin : ¬ id = τ.next := by omega
        have hin4 : ¬ id = τ4.next := by omega
        simp [go_sem, g9, hg4, g7, e7, get_set, get_alloc, ty_alloc, ty_set, next_set, hlc, g26, hid4.1, hid4.2, hin, hin4, hcl, show (out.length + 1) * 32 ≤ 140737488355328 by omega, show out.length ≤ 9223372036854775806 by omega]
        refine fin _ _ (τ4.next + 1) (by simp [go_sem, g1]) (by simp [go_sem, g5]) (by simp [go_sem]) (by simp [go_sem, g24]) (by simp [go_sem, g25]) (by simp [go_sem]; exact hwi) (by simp [go_sem]) (by simp [get_alloc, next_alloc, next_set, next_kill, hT, tksC_snoc, tkC]) (by simp [ty_alloc, next_alloc, next_set, next_kill]) (by simp [next_alloc, next_set, next_kill]) (by omega) (by simp [next_alloc, next_set, next_kill]; omega) (fun k hk hk1 hk2 => ?_)
        have hk3 : ¬ k = id := fun e => hk2 (e ▸ hW)
        simp [get_alloc, get_set, get_kill, ty_alloc, ty_set, ty_kill, next_alloc, next_set, next_kill, hk1, hk3, show ¬ k = τ4.next by omega, show ¬ k = τ4.next + 1 by omega]
  · have : i = l.length := by omega
    subst this
    rw [List.drop_length] at hR hA hO
    simp only [spaced, gbody, relined, List.append_nil] at hA hO
    have hlaw := spaced_law g l hR.symm hl (by have := qLen_le l; omega)
    simp [go_sem, hlt, h5]
    refine EWcall_of (stringS_ev hB) ?_
    rintro x τ2 ⟨rfl, hn2, hold2⟩
    simp [go_sem]
    refine EWcall_pure (tokens_ev _) ?_
    rw [hA, hlaw, ← hO]
    simp [go_sem, tokD]
    have hx : Frz 0 τ2 (fr 7) (.imm out.length (tksC out)) := by
      rcases h7 with ⟨e, rfl⟩ | ⟨id, e, b1, b2, b3, b4, b5⟩
      · rw [e]; exact .nils
      · rw [e]; exact frz_arr (Nat.zero_le _) (by rw [(hold2 id (.inr ⟨_, e⟩)).1]; exact b1) (tksC_data _)
    refine EWcall_frz (equal_ev out out (by omega)) rfl ?_ ?_
    · rw [frzL_cons, frzL_cons, frzL_nil]
      exact ⟨(DataA.imm (tksC_data _)) _ _, hx, trivial⟩
    · rw [equalF_self]
      simp [go_sem]
      exact fun k hk => by rw [(hold2 k (.inl hk)).1]; exact hK k hk
end Go.Proofs.Ytkjikcmjcdlifaa
