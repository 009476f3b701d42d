import Derived.Test.YtkjikcmjcdlifaaT4
import Derived.Laws.Externs
namespace Go.Proofs.Ytkjikcmjcdlifaa
open Go Go.Ew Go.Proofs Go.RowKit
set_option maxRecDepth 10000
def hasF (l : List (List UInt8)) (x : List UInt8) : Bool := l.contains x
theorem hasF_drop (l : List (List UInt8)) (x : List UInt8) (i : Nat) (h : i < l.length) : hasF (l.drop i) x = (x == l[i] || hasF (l.drop (i + 1)) x) := by
  rw [List.drop_eq_getElem_cons h, hasF, hasF, List.contains_cons]
theorem index_ev {σ : Mem} {id : Nat} {l : List (List UInt8)} (x : List UInt8) (hg : σ.get id = some (l.map AV.str)) (hl : l.length ≤ 1000000) :
    CallA Try.prog 63 [.arr id 0 l.length 1, .str x] σ fun r σ' => (∃ k : Int, r = .int k ∧ decide (0 ≤ k) = hasF l x) ∧ σ' = σ := by
  refine callA_of Try.func63 rfl (by kernel_rfl) ?_
  simp [go_sem, Try.results63, Try.ntmps63]
  refine EW_loop (fun n fr τ => ∃ i : Nat, i ≤ l.length ∧ n = l.length - i ∧ hasF l x = hasF (l.drop i) x ∧ fr 0 = .arr id 0 l.length 1 ∧ fr 1 = .str x ∧ fr 7 = .int l.length ∧ fr 8 = .int i ∧ τ = σ) l.length ⟨0, by simp [go_sem]⟩ ?_
  rintro n fr τ ⟨i, hi, rfl, hR, h0, h1, h7, h8, rfl⟩
  simp [go_sem, h7, h8]
  by_cases hlt : i < l.length
  · simp [go_sem, hlt, h0, h1, h8, hg]
    rw [hasF_drop l x i hlt] at hR
    rcases hc : x == l[i]
    · simp [go_sem, h8]
      have hw : IntKind.i64.wrap ((i : Int) + 1) = ((i + 1 : Nat) : Int) := by rw [wrap64_of _ (by omega) (by omega)]; rfl
      simp only [hc, Bool.false_or] at hR
      exact ⟨_, by omega, i + 1, hlt, rfl, hR, h0, h1, h7, hw⟩
    · simp only [hc, Bool.true_or] at hR
      simp [go_sem, hR]
  · have : i = l.length := by omega
    subst this
    simp [go_sem, hR]
    simp [hasF]
theorem contains_ev {σ : Mem} {id : Nat} {l : List (List UInt8)} (x : List UInt8) (hg : σ.get id = some (l.map AV.str)) (hl : l.length ≤ 1000000) :
    CallA Try.prog 58 [.arr id 0 l.length 1, .str x] σ fun r σ' => r = .bool (hasF l x) ∧ σ' = σ := by
  refine callA_of Try.func58 rfl (by kernel_rfl) ?_
  simp [go_sem, Try.results58, Try.ntmps58]
  refine EWcall_of (index_ev x hg hl) ?_
  rintro r σ' ⟨⟨k, rfl, hk⟩, rfl⟩
  simp [go_sem, hk]
def pairs : List (List UInt8) := [[45, 62], [60, 61], [62, 61], [61, 61], [33, 61]]
def pairF (s : List UInt8) : Bool := decide (2 ≤ s.length) && hasF pairs (s.take 2)
theorem pair_ev (s : List UInt8) : PureA Try.prog 49 [.str s] (.bool (pairF s)) := by
  refine pureA_of Try.func49 rfl (by kernel_rfl) (fun σ => ?_)
  simp [go_sem, Try.results49, Try.ntmps49]
  by_cases h : 2 ≤ s.length
  · simp [go_sem, show (2 : Int) ≤ s.length by omega]
    refine EWcall_of (contains_ev (l := pairs) (id := σ.next) _ (by simp [go_sem, pairs]) (by decide)) ?_
    rintro r τ ⟨rfl, rfl⟩
    simp [go_sem, pairF, h]
  · simp [go_sem, pairF, h, show ¬ (2 : Int) ≤ s.length by omega]
def singles : List UInt8 := [123, 125, 40, 41, 91, 93, 44, 59, 58, 61, 43, 45, 42, 60, 62, 33, 38, 124, 46, 63]
theorem indexByte_calls (s : ByteArray) (c : Int) (w : World) : Calls Try.prog 59 #[.string s, .int .u8 c] w fun e w' => e = .returned (.int .i64 (firstIdx s c.toNat.toUInt8)) ∧ w' = w := by
  go_enter Try.func59, Try.ntmps59
  go_wp2
  rw [run_callFunc_extern (show Try.prog.funcs[64]? = some Try.f64 by kernel_rfl) (by kernel_rfl) (by kernel_rfl) (by kernel_rfl) (e := Extern.BytealgIndexByte.indexByte) (by kernel_rfl)]
  rw [run_indexByte_string]
  simp only [Result.andThen]
  rw [Oper.upon_value]
  go_wp2
  go_ret
  exact ⟨rfl, rfl⟩
theorem indexByte59_ev (s : List UInt8) (c : UInt8) : PureA Try.prog 59 [.str s, .u8 c.toNat] (.int (firstIdx ⟨⟨s⟩⟩ c)) := by
  refine pureA_of_calls ⟨Try.f59, Try.func59, by kernel_rfl, by kernel_rfl⟩ rfl (by simp [conc, conc1]) (fun φ σ w vs hr hv => ?_)
  obtain ⟨hl, hv⟩ := hv
  match vs, hl, hv with
  | [v1, v2], _, hv =>
    have h1 := hv 0 _ _ rfl rfl
    have h2 := hv 1 _ _ rfl rfl
    cases h1; cases h2
    refine (indexByte_calls ⟨⟨s⟩⟩ c.toNat w).mono ?_
    rintro e w' ⟨rfl, rfl⟩
    exact ⟨by simp [conc, conc1], Below.refl _ _⟩
theorem indexByte_ev (s : List UInt8) (c : UInt8) : PureA Try.prog 50 [.str s, .u8 c.toNat] (.int (firstIdx ⟨⟨s⟩⟩ c)) := by
  refine pureA_of Try.func50 rfl (by kernel_rfl) (fun σ => ?_)
  simp [go_sem, Try.results50, Try.ntmps50]
  refine EWcall_pure (indexByte59_ev _ _) ?_
  simp [go_sem]
theorem firstIdx_pos (s : List UInt8) (c : UInt8) : decide (0 ≤ firstIdx ⟨⟨s⟩⟩ c) = s.contains c := by
  have hsz : (⟨⟨s⟩⟩ : ByteArray).size = s.length := rfl
  have hget : ∀ i, i < s.length → (⟨⟨s⟩⟩ : ByteArray)[i]! = s.getD i 0 := fun i hi => by
    simp [hsz, hi]
    rfl
  unfold firstIdx
  rw [hsz]
  cases hf : (List.range s.length).find? fun i => (⟨⟨s⟩⟩ : ByteArray)[i]! == c with
  | some i =>
    have h1 := List.find?_some hf
    have h2 : i < s.length := by have := List.mem_of_find?_eq_some hf; simpa using this
    rw [hget i h2] at h1
    simp [h2] at h1
    have : c ∈ s := by rw [← h1]; exact List.getElem_mem h2
    simp [this]
  | none =>
    have h1 := List.find?_eq_none.1 hf
    have : c ∉ s := fun hm => by
      obtain ⟨i, hi, he⟩ := List.getElem_of_mem hm
      have := h1 i (by simpa using hi)
      rw [hget i hi] at this
      simp [hi, he] at this
    simp [this]
def nextF (s : List UInt8) : Nat × Nat × Nat :=
  let c := s.headD 0
  if letterU c then (if 20 < (s.takeWhile partU).length then (0, 0, 3) else (1, (s.takeWhile partU).length, 0))
  else if digitU c then (if 9 < (s.takeWhile digitU).length then (0, 0, 3) else (2, (s.takeWhile digitU).length, 0))
  else if c = 34 then (3, (quotedF s).1, (quotedF s).2)
  else if pairF s then (4, 2, 0)
  else if singles.contains c then (4, 1, 0)
  else (0, 0, 2)
theorem nextF_eq (s : List UInt8) (h : 0 < s.length) : nextF s = 
  if letterU s[0] then (if 20 < (s.takeWhile partU).length then (0, 0, 3) else (1, (s.takeWhile partU).length, 0))
  else if digitU s[0] then (if 9 < (s.takeWhile digitU).length then (0, 0, 3) else (2, (s.takeWhile digitU).length, 0))
  else if s[0] = 34 then (3, (quotedF s).1, (quotedF s).2)
  else if pairF s then (4, 2, 0)
  else if singles.contains s[0] then (4, 1, 0)
  else (0, 0, 2) := by
  match s, h with
  | c :: t, _ => rfl
theorem next_ev (s : List UInt8) (h0 : s ≠ []) (hs : s.length ≤ 9223372036854775000) : PureA Try.prog 33 [.str s] (.tup [.int (nextF s).1, .int (nextF s).2.1, .int (nextF s).2.2]) := by
  have hpos : 0 < s.length := List.length_pos_iff.2 h0
  refine pureA_of Try.func33 rfl (by kernel_rfl) (fun σ => ?_)
  simp [go_sem, Try.results33, Try.ntmps33, hpos]
  refine EWcall_pure (letter_ev _) ?_
  rw [nextF_eq s hpos]
  by_cases h1 : isLetter s[0].toNat = true
  · have h1' : letterU s[0] = true := h1
    simp [go_sem, h1, h1']
    refine EWcall_pure (run_ev (p := partU) (fun c => part_ev _) s (by omega)) ?_
    generalize (s.takeWhile partU).length = n
    by_cases h2 : 20 < n
    · simp [go_sem, h2, show (20 : Int) < n by omega]
    · simp [go_sem, h2, show ¬ (20 : Int) < n by omega]
  have h1' : letterU s[0] = false := by simpa [letterU] using h1
  simp [go_sem, h1, h1']
  refine EWcall_pure (digit_ev _) ?_
  by_cases h3 : isDigit s[0].toNat = true
  · have h3' : digitU s[0] = true := h3
    simp [go_sem, h3, h3']
    refine EWcall_pure (run_ev (p := digitU) (fun c => digit_ev _) s (by omega)) ?_
    generalize (s.takeWhile digitU).length = n
    by_cases h2 : 9 < n
    · simp [go_sem, h2, show (9 : Int) < n by omega]
    · simp [go_sem, h2, show ¬ (9 : Int) < n by omega]
  have h3' : digitU s[0] = false := by simpa [digitU] using h3
  simp [go_sem, h3, h3']
  have h4 := u8_lit s[0] 34 (by decide)
  simp at h4
  by_cases h5 : s[0] = 34
  · simp [go_sem, h5]
    refine EWcall_pure (quoted_ev s h0 hs) ?_
    simp [go_sem]
  simp [go_sem, h4, h5]
  refine EWcall_pure (pair_ev s) ?_
  rcases h6 : pairF s <;> simp [go_sem]
  refine EWcall_pure (indexByte_ev singles _) ?_
  simp [go_sem]
  have h7 := firstIdx_pos singles s[0]
  rw [h7]
  by_cases h8 : s[0] ∈ singles <;> simp [go_sem, h8]
end Go.Proofs.Ytkjikcmjcdlifaa
