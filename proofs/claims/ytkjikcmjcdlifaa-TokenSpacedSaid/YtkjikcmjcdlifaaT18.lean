import Derived.Test.YtkjikcmjcdlifaaT17
import Derived.Test.YtkjikcmjcdlifaaEwK
namespace Go.Proofs.Ytkjikcmjcdlifaa
open Go Go.Ew Go.Proofs Go.RowKit
set_option maxRecDepth 10000
theorem quoted_rq (s : List UInt8) (a : Nat) (ha : a < s.length) : quotedF (s.drop a) = if rqF s a = 0 then (0, 2) else if 62 < rqF s a then (0, 3) else (rqF s a, 0) := by
  unfold quotedF rqF
  rw [List.drop_drop]
  have hle := takeWhile_le qU (s.drop (a + 1))
  generalize ((s.drop (a + 1)).takeWhile qU).length = m at hle ⊢
  simp only [List.length_drop] at hle ⊢
  have hg : (s.drop a).getD (1 + m) 0 = s.getD (a + 1 + m) 0 := by simp [List.getD_eq_getElem?_getD, Nat.add_assoc]
  rw [hg]
  generalize s.getD (a + 1 + m) 0 = c
  by_cases h1 : a + 1 + m < s.length
  · by_cases h2 : c = 34
    · have h3 : ¬ (1 + m = s.length - a) := by omega
      by_cases h4 : 60 < m
      · simp [h1, h2, h3, h4]
      · simp [h1, h2, h3, h4]; omega
    · have h3 : ¬ (1 + m = s.length - a) := by omega
      simp [h1, h2, h3]
  · have h3 : 1 + m = s.length - a := by omega
    simp [h1, h3]
def OInv (s : List UInt8) (a : Nat) (σ : Mem) (n : Nat) (fr : Fr) (τ : Mem) : Prop :=
  ∃ i : Nat, i ≤ 25 ∧ n = 25 - i ∧ (signsF.drop i).find? (mP (s.drop a)) = signsF.find? (mP (s.drop a)) ∧ fr 0 = .str s ∧ fr 1 = .int a ∧ fr 4 = .ptr σ.next 0 ∧ fr 12 = .imm 25 (signsF.map AV.str) ∧ fr 13 = .int i ∧ τ = σ.alloc 46 [.int 0, .str [], .int 0]
set_option maxHeartbeats 1000000 in
theorem one_ev : OneC := by
  intro s a ha hs
  refine pureA_of Try.func38 rfl (by kernel_rfl) (fun σ => ?_)
  have hd0 : 0 < (s.drop a).length := by simp; omega
  have hd1 : (s.drop a)[0] = s[a] := by simp
  have hnx := nextF_eq (s.drop a) hd0
  rw [hd1] at hnx
  simp [go_sem, Try.results38, Try.ntmps38, ha]
  refine EWcall_pure (rletter_ev _) ?_
  have u34 := u8_lit s[a] 34 (by decide)
  simp at u34
  rcases hl : isLetter s[a].toNat
  · simp [go_sem]
    refine EWcall_pure (rdigit_ev _) ?_
    rcases hdg : isDigit s[a].toNat
    · have hl' : letterU s[a] = false := hl
      have hdg' : digitU s[a] = false := hdg
      by_cases h34 : s[a] = 34
      · simp [go_sem, h34]
        refine EWcall_pure (rquoted_ev s a ha hs) ?_
        have hN : nextF (s.drop a) = (3, (quotedF (s.drop a)).1, (quotedF (s.drop a)).2) := by rw [hnx, if_neg (by simp [hl']), if_neg (by simp [hdg']), if_pos h34]
        rw [quoted_rq s a ha] at hN
        have hq : rqF s a ≤ s.length - a ∧ (rqF s a ≠ 0 → 2 ≤ rqF s a) := by
          unfold rqF
          split
          · omega
          · omega
        clear hnx
        generalize rqF s a = n at hN hq
        by_cases h0 : n = 0
        · subst h0
          simp only [if_true] at hN
          simp only [oneT, oneN, hN]
          simp [go_sem, get_set, get_alloc]
        · obtain ⟨hq1, hq2⟩ := hq
          have hq3 := hq2 h0
          obtain ⟨q, hq⟩ : ∃ q, q = n - 2 := ⟨_, rfl⟩
          have hw : IntKind.i64.wrap ((n : Int) - 2) = (q : Int) := by rw [wrap64_of _ (by omega) (by omega)]; omega
          by_cases h6 : 62 < n
          · rw [if_neg h0, if_pos h6] at hN
            simp only [oneT, oneN, hN]
            simp [go_sem, h0, hw, show (60 : Int) < q by omega, get_set, get_alloc]
          · obtain ⟨u, hu⟩ : ∃ u, u = a + 1 := ⟨_, rfl⟩
            have hw1 : IntKind.i64.wrap ((a : Int) + 1) = (u : Int) := by rw [wrap64_of _ (by omega) (by omega)]; omega
            obtain ⟨v, hv⟩ : ∃ v, v = a + n := ⟨_, rfl⟩
            have hw2 : IntKind.i64.wrap ((a : Int) + n) = (v : Int) := by rw [wrap64_of _ (by omega) (by omega)]; omega
            obtain ⟨x, hx⟩ : ∃ x, x = v - 1 := ⟨_, rfl⟩
            have hw3 : IntKind.i64.wrap ((v : Int) - 1) = (x : Int) := by rw [wrap64_of _ (by omega) (by omega)]; omega
            rw [if_neg h0, if_neg h6] at hN
            simp only [oneT, oneN, hN]
            rw [← hu, show n - 2 = x - u by omega]
            simp [go_sem, h0, hw, hw1, hw2, hw3, show ¬ (60 : Int) < q by omega, show (u : Int) ≤ x by omega, show (x : Int) ≤ s.length by omega, get_set, get_alloc]
      · simp [go_sem, u34, h34]
        refine EWcall_pure signs_ev ?_
        simp [go_sem]
        refine EW_loop (OInv s a σ) 25 ⟨0, by omega, by omega, by simp, by simp [go_sem], by simp [go_sem], by simp [go_sem], by simp [go_sem], by simp [go_sem], rfl⟩ ?_
        rintro n fr τ ⟨i, hi, rfl, hR, h0, h1, h4, h12, h13, rfl⟩
        have hlen25 : signsF.length = 25 := rfl
        simp [go_sem, h12, h13]
        by_cases hlt : i < 25
        · have hlt' : i < signsF.length := by omega
          rw [List.drop_eq_getElem_cons hlt', List.find?_cons] at hR
          have hfs := find_signs (s.drop a) hd0 (by rw [hd1]; exact hl') (by rw [hd1]; exact hdg') (by rw [hd1]; exact h34)
          have hxl : signsF[i].length ≤ 2 := by
            have := List.getElem_mem hlt'
            revert this
            generalize signsF[i] = x
            intro hx
            simp [signsF, pairs] at hx
            rcases hx with rfl | rfl | rfl | rfl | rfl | rfl | rfl | rfl | rfl | rfl | rfl | rfl | rfl | rfl | rfl | rfl | rfl | rfl | rfl | rfl | rfl | rfl | rfl | rfl | rfl <;> decide
          simp [go_sem, show (i : Int) < 25 by omega]
          refine EW_regionD (by kernel_rfl) (by kernel_rfl) ?_
          generalize hx : signsF[i] = x at hR hxl
          obtain ⟨v, hv⟩ : ∃ v, v = a + x.length := ⟨_, rfl⟩
          have hw : IntKind.i64.wrap ((a : Int) + x.length) = (v : Int) := by rw [wrap64_of _ (by omega) (by omega)]; omega
          simp [go_sem, h0, h1, h12, h13, hlt', hx, hw, show (i : Int) < 25 by omega]
          have hwi : IntKind.i64.wrap ((i : Int) + 1) = ((i + 1 : Nat) : Int) := by rw [wrap64_of _ (by omega) (by omega)]; rfl
          by_cases hv2 : v ≤ s.length
          · have e : mP (s.drop a) x = ((s.drop a).take x.length == x) := by simp [mP, show x.length ≤ s.length - a by omega]
            simp [go_sem, h0, h1, h12, h13, hlt', hx, hw, hv2, show (i : Int) < 25 by omega, show v - a = x.length by omega, show (a : Int) ≤ v by omega, show (v : Int) ≤ s.length by omega]
            rcases hm : (s.drop a).take x.length == x
            · rw [e, hm] at hR
              simp [go_sem, h13]
              exact ⟨25 - (i + 1), by omega, i + 1, by omega, by omega, hR, by simp [go_sem, h0], by simp [go_sem, h1], by simp [go_sem, h4], by simp [go_sem, h12], by simp [go_sem]; exact hwi, rfl⟩
            · rw [e, hm] at hR
              simp only at hR
              rw [← hR] at hfs
              simp only at hfs
              obtain ⟨hfs, hfx⟩ := hfs
              simp [go_sem]
              refine EW_regionI Mem.empty (by kernel_rfl) (by kernel_rfl) (by simp [go_sem]) (fun _ => ?_)
              simp [go_sem, h4, h12, h13, hlt', hx, show (i : Int) < 25 by omega, get_set, get_alloc, oneT, oneN, hfs, hfx]
          · have e : mP (s.drop a) x = false := by simp [mP, show ¬ x.length ≤ s.length - a by omega]
            rw [e] at hR
            simp [go_sem, hv2, h13]
            exact ⟨25 - (i + 1), by omega, i + 1, by omega, by omega, hR, by simp [go_sem, h0], by simp [go_sem, h1], by simp [go_sem, h4], by simp [go_sem, h12], by simp [go_sem]; exact hwi, rfl⟩
        · have : i = 25 := by omega
          subst this
          have hfs := find_signs (s.drop a) hd0 (by rw [hd1]; exact hl') (by rw [hd1]; exact hdg') (by rw [hd1]; exact h34)
          rw [show signsF.drop 25 = [] from rfl, List.find?_nil] at hR
          rw [← hR] at hfs
          simp only at hfs
          simp [go_sem, h4, oneT, oneN, hfs, get_set, get_alloc]
    · have hl' : letterU s[a] = false := hl
      have hdg' : digitU s[a] = true := hdg
      simp [go_sem]
      refine EWcall_pure (rdigit_ev _) ?_
      rw [hdg]
      simp [go_sem]
      refine EWcall_pure (rrun_ev s a true (by omega) hs) ?_
      rw [show runP true = digitU from rfl]
      have hN : nextF (s.drop a) = if 9 < ((s.drop a).takeWhile digitU).length then (0, 0, 3) else (2, ((s.drop a).takeWhile digitU).length, 0) := by rw [hnx]; simp only [hl', hdg', Bool.false_eq_true, if_false, if_true]
      have hle := takeWhile_le digitU (s.drop a)
      simp only [List.length_drop] at hle
      generalize ((s.drop a).takeWhile digitU).length = n at hN hle
      clear hnx
      obtain ⟨v, hv⟩ : ∃ v, v = a + n := ⟨_, rfl⟩
      have hw2 : IntKind.i64.wrap ((a : Int) + n) = (v : Int) := by rw [wrap64_of _ (by omega) (by omega)]; omega
      simp [go_sem]
      refine EWcall_pure (rdigit_ev _) ?_
      rw [hdg]
      by_cases h20 : 9 < n
      · rw [if_pos h20] at hN
        simp only [oneT, oneN, hN]
        simp [go_sem, show (9 : Int) < n by omega, get_set, get_alloc]
      · rw [if_neg h20] at hN
        simp only [oneT, oneN, hN]
        simp [go_sem, hw2, show ¬ (9 : Int) < n by omega, show v - a = n by omega, show (a : Int) ≤ v by omega, show (v : Int) ≤ s.length by omega, get_set, get_alloc]
  · have hl' : letterU s[a] = true := hl
    have hdg : isDigit s[a].toNat = false := by
      by_cases h48 : (48 : Int) ≤ s[a].toNat
      · by_cases h57 : (s[a].toNat : Int) ≤ 57
        · have h1 : ¬ ((97 : Int) ≤ s[a].toNat) := by omega
          have h2 : ¬ ((65 : Int) ≤ s[a].toNat) := by omega
          simp [isLetter, h1, h2] at hl
        · simp [isDigit, h57]
      · simp [isDigit, h48]
    simp [go_sem]
    refine EWcall_pure (rdigit_ev _) ?_
    rw [hdg]
    simp [go_sem]
    refine EWcall_pure (rrun_ev s a false (by omega) hs) ?_
    rw [show runP false = partU from rfl]
    have hN : nextF (s.drop a) = if 20 < ((s.drop a).takeWhile partU).length then (0, 0, 3) else (1, ((s.drop a).takeWhile partU).length, 0) := by rw [hnx]; simp only [hl', if_true]
    have hle := takeWhile_le partU (s.drop a)
    simp only [List.length_drop] at hle
    generalize ((s.drop a).takeWhile partU).length = n at hN hle
    clear hnx
    obtain ⟨v, hv⟩ : ∃ v, v = a + n := ⟨_, rfl⟩
    have hw2 : IntKind.i64.wrap ((a : Int) + n) = (v : Int) := by rw [wrap64_of _ (by omega) (by omega)]; omega
    simp [go_sem]
    refine EWcall_pure (rdigit_ev _) ?_
    rw [hdg]
    by_cases h20 : 20 < n
    · rw [if_pos h20] at hN
      simp only [oneT, oneN, hN]
      simp [go_sem, show (20 : Int) < n by omega, get_set, get_alloc]
    · rw [if_neg h20] at hN
      simp only [oneT, oneN, hN]
      simp [go_sem, hw2, show ¬ (20 : Int) < n by omega, show v - a = n by omega, show (a : Int) ≤ v by omega, show (v : Int) ≤ s.length by omega, get_set, get_alloc]
end Go.Proofs.Ytkjikcmjcdlifaa
