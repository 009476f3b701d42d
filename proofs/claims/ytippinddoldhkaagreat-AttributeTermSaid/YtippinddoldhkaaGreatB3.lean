/-
  Token: a string is a name (IsName), as the program says it. By templates: names stand for the seat's numbers.
-/
import Derived.Test.YtippinddoldhkaaGreatTy
import Derived.Test.YtippinddoldhkaaGreatB2
import Derived.Laws.Externs
import Derived.RegionTactic
set_option linter.unusedSimpArgs false
set_option linter.unusedVariables false
namespace Go.Proofs.YtippinddoldhkaaGreat
open Go Go.Ew Go.Proofs Go.RowKit
set_option maxRecDepth 10000
def isLetter (c : Int) : Bool := (decide (97 ≤ c) && decide (c ≤ 122)) || (decide (65 ≤ c) && decide (c ≤ 90))
def isDigit (c : Int) : Bool := decide (48 ≤ c) && decide (c ≤ 57)
theorem digit_ev (c : Int) : PureA Tryz.prog 215 [.u8 c] (.bool (isDigit c)) := by
  refine pureA_of Tryz.func215 rfl (by kernel_rfl) (fun σ => ?_)
  simp [go_sem, Tryz.results215, Tryz.ntmps215]
  refine EWg_intro (fun h => ?_) (fun h => ?_) <;> simp at h
  · simp [go_sem, h, isDigit]
  · have h' : ¬ (48 ≤ c) := by omega
    simp [go_sem, h', isDigit]
theorem letter_ev (c : Int) : PureA Tryz.prog 212 [.u8 c] (.bool (isLetter c)) := by
  refine pureA_of Tryz.func212 rfl (by kernel_rfl) (fun σ => ?_)
  simp [go_sem, Tryz.results212, Tryz.ntmps212]
  unfold isLetter
  rcases h1 : decide (97 ≤ c) <;> rcases h2 : decide (c ≤ 122) <;> rcases h3 : decide (65 ≤ c) <;> simp [go_sem, h2, h3]
def isPart (c : Int) : Bool := isLetter c || isDigit c || c == 95
def isQ (c : Int) : Bool := decide (32 ≤ c) && decide (c ≤ 126) && c != 34
theorem part_ev (c : Int) : PureA Tryz.prog 214 [.u8 c] (.bool (isPart c)) := by
  refine pureA_of Tryz.func214 rfl (by kernel_rfl) (fun σ => ?_)
  simp [go_sem, Tryz.results214, Tryz.ntmps214]
  refine EWcall_pure (letter_ev _) ?_
  unfold isPart
  rcases h1 : isLetter c <;> simp [go_sem]
  refine EWcall_pure (digit_ev _) ?_
  rcases h2 : isDigit c <;> simp [go_sem]
theorem q_ev (c : Int) : PureA Tryz.prog 236 [.u8 c] (.bool (isQ c)) := by
  refine pureA_of Tryz.func236 rfl (by kernel_rfl) (fun σ => ?_)
  simp [go_sem, Tryz.results236, Tryz.ntmps236]
  unfold isQ
  rcases h1 : decide (32 ≤ c) <;> rcases h2 : decide (c ≤ 126) <;> simp [go_sem, h2]
theorem takeWhile_drop (p : UInt8 → Bool) (s : List UInt8) (i : Nat) (h : i < s.length) : (s.drop i).takeWhile p = if p s[i] then s[i] :: (s.drop (i + 1)).takeWhile p else [] := by
  rw [List.drop_eq_getElem_cons h, List.takeWhile_cons]
theorem takeWhile_le (p : UInt8 → Bool) (s : List UInt8) : (s.takeWhile p).length ≤ s.length := List.Sublist.length_le (List.takeWhile_sublist p)
theorem run_ev {f : FuncId} {p : UInt8 → Bool} (hp : ∀ c : UInt8, PureA Tryz.prog f [.u8 c.toNat] (.bool (p c))) (s : List UInt8) (hs : s.length ≤ 9223372036854775807) :
    PureA Tryz.prog 213 [.str s, .fn f []] (.int (s.takeWhile p).length) := by
  refine pureA_of Tryz.func213 rfl (by kernel_rfl) (fun σ => ?_)
  simp [go_sem, Tryz.results213, Tryz.ntmps213]
  refine EW_loop (fun n fr τ => ∃ i : Nat, i ≤ s.length ∧ n = s.length - i ∧ i + ((s.drop i).takeWhile p).length = (s.takeWhile p).length ∧ fr 0 = .str s ∧ fr 1 = .fn f [] ∧ fr 5 = .int i ∧ τ = σ) s.length ⟨0, by simp [go_sem]⟩ ?_
  rintro n fr τ ⟨i, hi, rfl, hR, h0, h1, h5, rfl⟩
  simp [go_sem, h0, h5]
  by_cases hlt : i < s.length
  · simp [go_sem, hlt, h0, h1, h5]
    rw [takeWhile_drop p s i hlt] at hR
    refine EWcall_pure (hp _) ?_
    rcases hc : p s[i] <;> simp [go_sem, h5] <;> simp [hc] at hR
    · omega
    · have hw : IntKind.i64.wrap ((i : Int) + 1) = ((i + 1 : Nat) : Int) := by rw [wrap64_of _ (by omega) (by omega)]; rfl
      exact ⟨_, by omega, i + 1, hlt, rfl, by omega, h0, h1, hw⟩
  · have : i = s.length := by omega
    subst this
    simp at hR
    simp [go_sem, h5, hR]
def letterU (c : UInt8) : Bool := isLetter c.toNat
def digitU (c : UInt8) : Bool := isDigit c.toNat
def partU (c : UInt8) : Bool := isPart c.toNat
def qU (c : UInt8) : Bool := isQ c.toNat
def quotedF (s : List UInt8) : Nat × Nat :=
  let n := ((s.drop 1).takeWhile qU).length
  if 1 + n = s.length ∨ s.getD (1 + n) 0 ≠ 34 then (0, 2) else if 60 < n then (0, 3) else (n + 2, 0)
theorem quoted_ev (s : List UInt8) (h0 : s ≠ []) (hs : s.length ≤ 9223372036854775000) : PureA Tryz.prog 216 [.str s] (.tup [.int (quotedF s).1, .int (quotedF s).2]) := by
  have hpos : 0 < s.length := List.length_pos_iff.2 h0
  refine pureA_of Tryz.func216 rfl (by kernel_rfl) (fun σ => ?_)
  simp [go_sem, Tryz.results216, Tryz.ntmps216, show (1 : Int) ≤ s.length by omega]
  refine EWcall_pure (run_ev (p := qU) (fun c => q_ev _) s.tail (by simp; omega)) ?_
  have hle := takeWhile_le qU s.tail
  simp at hle
  have hF : quotedF s = let n := (s.tail.takeWhile qU).length; if 1 + n = s.length ∨ s.getD (1 + n) 0 ≠ 34 then (0, 2) else if 60 < n then (0, 3) else (n + 2, 0) := by simp [quotedF]
  rw [hF]
  generalize (s.tail.takeWhile qU).length = n at hle
  obtain ⟨m, hm⟩ : ∃ m, m = 1 + n := ⟨_, rfl⟩
  have hw : IntKind.i64.wrap (1 + (n : Int)) = (m : Int) := by rw [wrap64_of _ (by omega) (by omega)]; omega
  obtain ⟨m2, hm2⟩ : ∃ m, m = n + 2 := ⟨_, rfl⟩
  have hw2 : IntKind.i64.wrap ((n : Int) + 2) = (m2 : Int) := by rw [wrap64_of _ (by omega) (by omega)]; omega
  simp only [← hm, ← hm2]
  by_cases h1 : m = s.length
  · simp [go_sem, hw, h1]
  · have h2 : m < s.length := by omega
    have h3 : ¬ ((m : Int) = s.length) := by omega
    have h4 := u8_lit s[m] 34 (by decide)
    simp at h4
    by_cases h5 : s[m] = 34
    · simp [go_sem, hw, h1, h2, h3, h5]
      by_cases h6 : 60 < n
      · simp [go_sem, h6, show (60 : Int) < n by omega]
      · simp [go_sem, h6, hw2, show ¬ (60 : Int) < n by omega]
    · simp [go_sem, hw, h1, h2, h3, h4, h5]
def hasF (l : List (List UInt8)) (x : List UInt8) : Bool := l.contains x
theorem hasF_drop (l : List (List UInt8)) (x : List UInt8) (i : Nat) (h : i < l.length) : hasF (l.drop i) x = (x == l[i] || hasF (l.drop (i + 1)) x) := by
  rw [List.drop_eq_getElem_cons h, hasF, hasF, List.contains_cons]
theorem index_ev {σ : Mem} {id : Nat} {l : List (List UInt8)} (x : List UInt8) (hg : σ.get id = some (l.map AV.str)) (hl : l.length ≤ 1000000) :
    CallA Tryz.prog 219 [.arr id 0 l.length 1, .str x] σ fun r σ' => (∃ k : Int, r = .int k ∧ decide (0 ≤ k) = hasF l x) ∧ σ' = σ := by
  refine callA_of Tryz.func219 rfl (by kernel_rfl) ?_
  simp [go_sem, Tryz.results219, Tryz.ntmps219]
  refine EW_loop (fun n fr τ => ∃ i : Nat, i ≤ l.length ∧ n = l.length - i ∧ hasF l x = hasF (l.drop i) x ∧ fr 0 = .arr id 0 l.length 1 ∧ fr 1 = .str x ∧ fr 7 = .int l.length ∧ fr 8 = .int i ∧ τ = σ) l.length ⟨0, by simp [go_sem]⟩ ?_
  rintro n fr τ ⟨i, hi, rfl, hR, h0, h1, h7, h8, rfl⟩
  simp [go_sem, h7, h8]
  by_cases hlt : i < l.length
  · simp [go_sem, hlt, h0, h1, h8, hg]
    rw [hasF_drop l x i hlt] at hR
    rcases hc : x == l[i]
    · simp [go_sem, h8]
      have hw : IntKind.i64.wrap ((i : Int) + 1) = ((i + 1 : Nat) : Int) := by rw [wrap64_of _ (by omega) (by omega)]; rfl
      simp only [hc, Bool.false_or] at hR
      exact ⟨_, by omega, i + 1, hlt, rfl, hR, h0, h1, h7, hw⟩
    · simp only [hc, Bool.true_or] at hR
      simp [go_sem, hR]
  · have : i = l.length := by omega
    subst this
    simp [go_sem, hR]
    simp [hasF]
theorem contains_ev {σ : Mem} {id : Nat} {l : List (List UInt8)} (x : List UInt8) (hg : σ.get id = some (l.map AV.str)) (hl : l.length ≤ 1000000) :
    CallA Tryz.prog 201 [.arr id 0 l.length 1, .str x] σ fun r σ' => r = .bool (hasF l x) ∧ σ' = σ := by
  refine callA_of Tryz.func201 rfl (by kernel_rfl) ?_
  simp [go_sem, Tryz.results201, Tryz.ntmps201]
  refine EWcall_of (index_ev x hg hl) ?_
  rintro r σ' ⟨⟨k, rfl, hk⟩, rfl⟩
  simp [go_sem, hk]
def pairs : List (List UInt8) := [[45, 62], [60, 61], [62, 61], [61, 61], [33, 61]]
def pairF (s : List UInt8) : Bool := decide (2 ≤ s.length) && hasF pairs (s.take 2)
theorem pair_ev (s : List UInt8) : PureA Tryz.prog 217 [.str s] (.bool (pairF s)) := by
  refine pureA_of Tryz.func217 rfl (by kernel_rfl) (fun σ => ?_)
  simp [go_sem, Tryz.results217, Tryz.ntmps217]
  by_cases h : 2 ≤ s.length
  · simp [go_sem, show (2 : Int) ≤ s.length by omega]
    refine EWcall_of (contains_ev (l := pairs) (id := σ.next) _ (by simp [go_sem, pairs]) (by decide)) ?_
    rintro r τ ⟨rfl, rfl⟩
    simp [go_sem, pairF, h]
  · simp [go_sem, pairF, h, show ¬ (2 : Int) ≤ s.length by omega]
def singles : List UInt8 := [123, 125, 40, 41, 91, 93, 44, 59, 58, 61, 43, 45, 42, 60, 62, 33, 38, 124, 46, 63]
theorem indexByte_calls (s : ByteArray) (c : Int) (w : World) : Calls Tryz.prog 237 #[.string s, .int .u8 c] w fun e w' => e = .returned (.int .i64 (firstIdx s c.toNat.toUInt8)) ∧ w' = w := by
  go_enter Tryz.func237, Tryz.ntmps237
  go_wp2
  rw [run_callFunc_extern (show Tryz.prog.funcs[243]? = some Tryz.f243 by kernel_rfl) (by kernel_rfl) (by kernel_rfl) (by kernel_rfl) (e := Extern.BytealgIndexByte.indexByte) (by kernel_rfl)]
  rw [run_indexByte_string]
  simp only [Result.andThen]
  rw [Oper.upon_value]
  go_wp2
  go_ret
  exact ⟨rfl, rfl⟩
theorem indexByte59_ev (s : List UInt8) (c : UInt8) : PureA Tryz.prog 237 [.str s, .u8 c.toNat] (.int (firstIdx ⟨⟨s⟩⟩ c)) := by
  refine pureA_of_calls ⟨Tryz.f237, Tryz.func237, by kernel_rfl, by kernel_rfl⟩ rfl (by simp [conc, conc1]) (fun φ σ w vs hr hv => ?_)
  obtain ⟨hl, hv⟩ := hv
  match vs, hl, hv with
  | [v1, v2], _, hv =>
    have h1 := hv 0 _ _ rfl rfl
    have h2 := hv 1 _ _ rfl rfl
    cases h1; cases h2
    refine (indexByte_calls ⟨⟨s⟩⟩ c.toNat w).mono ?_
    rintro e w' ⟨rfl, rfl⟩
    exact ⟨by simp [conc, conc1], Below.refl _ _⟩
theorem indexByte_ev (s : List UInt8) (c : UInt8) : PureA Tryz.prog 218 [.str s, .u8 c.toNat] (.int (firstIdx ⟨⟨s⟩⟩ c)) := by
  refine pureA_of Tryz.func218 rfl (by kernel_rfl) (fun σ => ?_)
  simp [go_sem, Tryz.results218, Tryz.ntmps218]
  refine EWcall_pure (indexByte59_ev _ _) ?_
  simp [go_sem]
theorem firstIdx_pos (s : List UInt8) (c : UInt8) : decide (0 ≤ firstIdx ⟨⟨s⟩⟩ c) = s.contains c := by
  have hsz : (⟨⟨s⟩⟩ : ByteArray).size = s.length := rfl
  have hget : ∀ i, i < s.length → (⟨⟨s⟩⟩ : ByteArray)[i]! = s.getD i 0 := fun i hi => by
    simp [hsz, hi]
    rfl
  unfold firstIdx
  rw [hsz]
  cases hf : (List.range s.length).find? fun i => (⟨⟨s⟩⟩ : ByteArray)[i]! == c with
  | some i =>
    have h1 := List.find?_some hf
    have h2 : i < s.length := by have := List.mem_of_find?_eq_some hf; simpa using this
    rw [hget i h2] at h1
    simp [h2] at h1
    have : c ∈ s := by rw [← h1]; exact List.getElem_mem h2
    simp [this]
  | none =>
    have h1 := List.find?_eq_none.1 hf
    have : c ∉ s := fun hm => by
      obtain ⟨i, hi, he⟩ := List.getElem_of_mem hm
      have := h1 i (by simpa using hi)
      rw [hget i hi] at this
      simp [hi, he] at this
    simp [this]
def nextF (s : List UInt8) : Nat × Nat × Nat :=
  let c := s.headD 0
  if letterU c then (if 20 < (s.takeWhile partU).length then (0, 0, 3) else (1, (s.takeWhile partU).length, 0))
  else if digitU c then (if 9 < (s.takeWhile digitU).length then (0, 0, 3) else (2, (s.takeWhile digitU).length, 0))
  else if c = 34 then (3, (quotedF s).1, (quotedF s).2)
  else if pairF s then (4, 2, 0)
  else if singles.contains c then (4, 1, 0)
  else (0, 0, 2)
theorem nextF_eq (s : List UInt8) (h : 0 < s.length) : nextF s = 
  if letterU s[0] then (if 20 < (s.takeWhile partU).length then (0, 0, 3) else (1, (s.takeWhile partU).length, 0))
  else if digitU s[0] then (if 9 < (s.takeWhile digitU).length then (0, 0, 3) else (2, (s.takeWhile digitU).length, 0))
  else if s[0] = 34 then (3, (quotedF s).1, (quotedF s).2)
  else if pairF s then (4, 2, 0)
  else if singles.contains s[0] then (4, 1, 0)
  else (0, 0, 2) := by
  match s, h with
  | c :: t, _ => rfl
theorem next_ev (s : List UInt8) (h0 : s ≠ []) (hs : s.length ≤ 9223372036854775000) : PureA Tryz.prog 199 [.str s] (.tup [.int (nextF s).1, .int (nextF s).2.1, .int (nextF s).2.2]) := by
  have hpos : 0 < s.length := List.length_pos_iff.2 h0
  refine pureA_of Tryz.func199 rfl (by kernel_rfl) (fun σ => ?_)
  simp [go_sem, Tryz.results199, Tryz.ntmps199, hpos]
  refine EWcall_pure (letter_ev _) ?_
  rw [nextF_eq s hpos]
  by_cases h1 : isLetter s[0].toNat = true
  · have h1' : letterU s[0] = true := h1
    simp [go_sem, h1, h1']
    refine EWcall_pure (run_ev (p := partU) (fun c => part_ev _) s (by omega)) ?_
    generalize (s.takeWhile partU).length = n
    by_cases h2 : 20 < n
    · simp [go_sem, h2, show (20 : Int) < n by omega]
    · simp [go_sem, h2, show ¬ (20 : Int) < n by omega]
  have h1' : letterU s[0] = false := by simpa [letterU] using h1
  simp [go_sem, h1, h1']
  refine EWcall_pure (digit_ev _) ?_
  by_cases h3 : isDigit s[0].toNat = true
  · have h3' : digitU s[0] = true := h3
    simp [go_sem, h3, h3']
    refine EWcall_pure (run_ev (p := digitU) (fun c => digit_ev _) s (by omega)) ?_
    generalize (s.takeWhile digitU).length = n
    by_cases h2 : 9 < n
    · simp [go_sem, h2, show (9 : Int) < n by omega]
    · simp [go_sem, h2, show ¬ (9 : Int) < n by omega]
  have h3' : digitU s[0] = false := by simpa [digitU] using h3
  simp [go_sem, h3, h3']
  have h4 := u8_lit s[0] 34 (by decide)
  simp at h4
  by_cases h5 : s[0] = 34
  · simp [go_sem, h5]
    refine EWcall_pure (quoted_ev s h0 hs) ?_
    simp [go_sem]
  simp [go_sem, h4, h5]
  refine EWcall_pure (pair_ev s) ?_
  rcases h6 : pairF s <;> simp [go_sem]
  refine EWcall_pure (indexByte_ev singles _) ?_
  simp [go_sem]
  have h7 := firstIdx_pos singles s[0]
  rw [h7]
  by_cases h8 : s[0] ∈ singles <;> simp [go_sem, h8]
def addQ (k : Int) (x : List UInt8) : List UInt8 := if k = 3 then 34 :: (x ++ [34]) else x
def rightF (k : Int) (s : List UInt8) : Bool := !s.isEmpty && decide ((nextF s).2.2 = 0) && decide (((nextF s).1 : Int) = k) && decide ((nextF s).2.1 = s.length)
theorem addQ_len (k : Int) (x : List UInt8) : (addQ k x).length ≤ x.length + 2 := by unfold addQ; split <;> simp
theorem whole_ev (k : Int) (x : List UInt8) (ln : Int) (hs : x.length ≤ 9223372036854774000) :
    PureA Tryz.prog 175 [.agg [.int k, .str x, .int ln]] (.tup [.str (addQ k x), .bool (rightF k (addQ k x))]) := by
  refine pureA_of Tryz.func175 rfl (by kernel_rfl) (fun σ => ?_)
  simp [go_sem, Tryz.results175, Tryz.ntmps175]
  have hlen := addQ_len k x
  have e1 : (k = 3 → 34 :: (x ++ [34]) = addQ k x) := fun h => by simp [addQ, h]
  have e2 : (k ≠ 3 → x = addQ k x) := fun h => by simp [addQ, h]
  generalize addQ k x = s at hlen e1 e2
  refine EWc_intro (fun h => ?_) (fun h => ?_) <;> simp at h
  · subst h
    have e3 := e1 rfl
    have hne : s ≠ [] := by rw [← e3]; simp
    simp [go_sem, show 1 + x.length ≤ 9223372036854775807 by omega, show x.length + 1 + 1 ≤ 9223372036854775807 by omega]
    rw [e3]
    refine EWcall_pure (next_ev s hne (by omega)) ?_
    unfold rightF
    have hne' : s.isEmpty = false := by simpa using hne
    generalize nextF s = r
    by_cases h1 : r.2.2 = 0
    · by_cases h2 : (r.1 : Int) = 3
      · simp [go_sem, h1, h2, hne']
        omega
      · simp [go_sem, h1, h2, hne']
    · simp [go_sem, h1, hne']
  · have e3 := e2 h
    subst e3
    by_cases hne : x = []
    · subst hne
      simp [go_sem, rightF]
    · simp [go_sem, show (x == []) = false by simpa using hne]
      refine EWcall_pure (next_ev x hne (by omega)) ?_
      unfold rightF
      have hne' : x.isEmpty = false := by simpa using hne
      generalize nextF x = r
      by_cases h1 : r.2.2 = 0
      · by_cases h2 : (r.1 : Int) = k
        · simp [go_sem, h1, h2, h, hne']
          omega
        · simp [go_sem, h1, h2, h, hne']
      · simp [go_sem, h1, hne']
theorem isName_ev (s : List UInt8) (hs : s.length ≤ 9223372036854774000) : PureA Tryz.prog 143 [.str s] (.bool (rightF 1 s)) := by
  refine pureA_of Tryz.func143 rfl (by kernel_rfl) (fun σ => ?_)
  simp [go_sem, Tryz.results143, Tryz.ntmps143]
  refine EWcall_pure (whole_ev 1 s 0 hs) ?_
  simp [go_sem, show addQ 1 s = s from rfl]
end Go.Proofs.YtippinddoldhkaaGreat
namespace Go.Proofs.YtippinddoldhkaaGreat
open Go Go.Ew
structure Attr where
  name : List UInt8
  low : Int
  high : Int
  names : List (List UInt8)
deriving Inhabited
structure NodeT where
  name : List UInt8
  parent : Int
  abst : Bool
  attrs : List Attr
deriving Inhabited
structure EdgeT where
  name : List UInt8
  src : Int
  tgt : Int
  outLow : Int
  outHigh : Int
  inLow : Int
  inHigh : Int
deriving Inhabited
structure Types where
  nodes : List NodeT
  edges : List EdgeT
deriving Inhabited
def strsA (l : List (List UInt8)) : AV := .imm l.length (l.map AV.str)
def intsA (l : List Int) : AV := .imm l.length (l.map AV.int)
def attrC (a : Attr) : List AV := [.str a.name, .int a.low, .int a.high, strsA a.names]
def attrsA (l : List Attr) : AV := .imm l.length (l.flatMap attrC)
def nodeC (n : NodeT) : List AV := [.str n.name, .int n.parent, .bool n.abst, attrsA n.attrs]
def edgeC (e : EdgeT) : List AV := [.str e.name, .int e.src, .int e.tgt, .int e.outLow, .int e.outHigh, .int e.inLow, .int e.inHigh]
def nodesA (l : List NodeT) : AV := .imm l.length (l.flatMap nodeC)
def edgesA (l : List EdgeT) : AV := .imm l.length (l.flatMap edgeC)
def typesC (t : Types) : List AV := [nodesA t.nodes, edgesA t.edges]
def typesA (t : Types) : AV := .agg (typesC t)

/-! ### Elements of lists by content -/
section
variable {α : Type} [Inhabited α]
def nth (l : List α) (i : Nat) : α := l.getD i default
theorem drop_nth (l : List α) (i : Nat) (h : i < l.length) : l.drop i = nth l i :: l.drop (i + 1) := by
  rw [List.drop_eq_getElem_cons h]
  simp [nth, List.getD_eq_getElem?_getD, List.getElem?_eq_getElem h]
theorem nth_mem (l : List α) (i : Nat) (h : i < l.length) : nth l i ∈ l := by
  simp only [nth, List.getD_eq_getElem?_getD, List.getElem?_eq_getElem h, Option.getD_some]
  exact List.getElem_mem h
theorem nth_eq (l : List α) (i : Nat) (h : i < l.length) : l[i] = nth l i := by simp [nth, List.getD_eq_getElem?_getD, List.getElem?_eq_getElem h]
theorem take_nth (l : List α) (i : Nat) (h : i < l.length) : l.take (i + 1) = l.take i ++ [nth l i] := by
  rw [List.take_add_one, List.getElem?_eq_getElem h, nth_eq l i h]
  rfl
theorem dropF {f : α → List AV} {sz : Nat} (hf : ∀ a, (f a).length = sz) (l : List α) (i : Nat) (h : i < l.length) : (l.flatMap f).drop (i * sz) = f (nth l i) ++ (l.drop (i + 1)).flatMap f := by
  rw [drop_flatMap hf l i h, nth_eq l i h]
theorem dropM (g : α → AV) (l : List α) (i : Nat) (h : i < l.length) : (l.map g).drop i = g (nth l i) :: (l.drop (i + 1)).map g := by
  rw [← List.map_drop, drop_nth l i h, List.map_cons]
theorem getM (g : α → AV) (l : List α) (i : Nat) (h : i < l.length) : (l.map g)[i]? = some (g (nth l i)) := by
  rw [List.getElem?_map, List.getElem?_eq_getElem h, nth_eq l i h]
  rfl
end
theorem drop_attr (l : List Attr) (i : Nat) (h : i < l.length) : (l.flatMap attrC).drop (i * 4) = attrC (nth l i) ++ (l.drop (i + 1)).flatMap attrC := dropF (f := attrC) (fun _ => rfl) l i h
theorem drop_node (l : List NodeT) (i : Nat) (h : i < l.length) : (l.flatMap nodeC).drop (i * 4) = nodeC (nth l i) ++ (l.drop (i + 1)).flatMap nodeC := dropF (f := nodeC) (fun _ => rfl) l i h
theorem drop_edgeT (l : List EdgeT) (i : Nat) (h : i < l.length) : (l.flatMap edgeC).drop (i * 7) = edgeC (nth l i) ++ (l.drop (i + 1)).flatMap edgeC := dropF (f := edgeC) (fun _ => rfl) l i h
theorem strs_data (l : List (List UInt8)) : DataL (l.map AV.str) := DataL.map (fun _ => .lit _) l
theorem ints_data (l : List Int) : DataL (l.map AV.int) := DataL.map (fun _ => .lit _) l
theorem attrC_data (a : Attr) : DataL (attrC a) := .cons (.lit _) (.cons (.lit _) (.cons (.lit _) (.cons (.imm (strs_data _)) .nil)))
theorem attrs_data (l : List Attr) : DataL (l.flatMap attrC) := DataL.flatMap attrC_data l
theorem nodeC_data (n : NodeT) : DataL (nodeC n) := .cons (.lit _) (.cons (.lit _) (.cons (.lit _) (.cons (.imm (attrs_data _)) .nil)))
theorem nodes_data (l : List NodeT) : DataL (l.flatMap nodeC) := DataL.flatMap nodeC_data l
theorem edgeC_data (e : EdgeT) : DataL (edgeC e) := .cons (.lit _) (.cons (.lit _) (.cons (.lit _) (.cons (.lit _) (.cons (.lit _) (.cons (.lit _) (.cons (.lit _) .nil))))))
theorem edges_data (l : List EdgeT) : DataL (l.flatMap edgeC) := DataL.flatMap edgeC_data l

/-! ### What the functions come to -/
def isNameF (s : List UInt8) : Bool := rightF 1 s
/-- The error of names behind some others. -/
def namesG (before : List (List UInt8)) : List (List UInt8) → Nat
  | [] => 0
  | x :: r => if !isNameF x then 2 else if before.contains x then 5 else namesG (before ++ [x]) r
def namesF (l : List (List UInt8)) : Nat := if 20 < l.length then 3 else namesG [] l
def rangeOk (x : Attr) : Bool := if 0 < x.names.length then decide (x.low = 0) && decide (x.high = (x.names.length : Int) - 1) else decide (-1000000 ≤ x.low) && decide (x.low ≤ x.high) && decide (x.high ≤ 1000000)
def hasName (l : List Attr) (s : List UInt8) : Bool := l.any fun y => y.name == s
def attributeF (x : Attr) (before : List Attr) : Nat :=
  if !isNameF x.name then 2 else if hasName before x.name then 5 else if namesF x.names ≠ 0 then namesF x.names else if rangeOk x then 0 else 6
/-- The attributes of a node type, inherited ones first ('f': fuel). -/
def attrsG (ns : List NodeT) : Nat → Int → List Attr
  | 0, _ => []
  | f + 1, a => if a < 0 then [] else attrsG ns f (nth ns a.toNat).parent ++ (nth ns a.toNat).attrs
def attrsF (ns : List NodeT) (a : Nat) : List Attr := attrsG ns (a + 1) a
/-- The error of the attributes from number k on. -/
def attrsErr (before : List Attr) : List Attr → Nat
  | [] => 0
  | x :: r => if attributeF x before ≠ 0 then attributeF x before else attrsErr (before ++ [x]) r
def nodeF (ns : List NodeT) (i : Nat) : Nat :=
  if !isNameF (nth ns i).name then 2
  else if (ns.take i).any (fun m => m.name == (nth ns i).name) then 5
  else if (nth ns i).parent < -1 ∨ (i : Int) ≤ (nth ns i).parent then 6
  else if 4 < (nth ns i).attrs.length then 3
  else if 8 < (attrsF ns i).length then 3
  else attrsErr ((attrsF ns i).take ((attrsF ns i).length - (nth ns i).attrs.length)) (nth ns i).attrs
def boundF (low high : Int) : Bool := decide (0 ≤ low) && decide (low ≤ 40) && (decide (high = -1) || decide (low ≤ high) && decide (high ≤ 40))
def edgeF (t : Types) (i : Nat) : Nat :=
  let x := nth t.edges i
  if !isNameF x.name then 2
  else if (t.edges.take i).any (fun m => m.name == x.name) then 5
  else if !(decide (0 ≤ x.src) && decide (x.src < t.nodes.length) && (decide (0 ≤ x.tgt) && decide (x.tgt < t.nodes.length)) && boundF x.outLow x.outHigh && boundF x.inLow x.inHigh) then 6
  else 0
/-- The first of n numbers from i on at which f is not zero. -/
def firstErr (f : Nat → Nat) : Nat → Nat → Option Nat
  | 0, _ => none
  | n + 1, i => if f i ≠ 0 then some i else firstErr f n (i + 1)
def validF (t : Types) : List UInt8 × Nat :=
  if t.nodes.length = 0 then ([], 7)
  else if 12 < t.nodes.length ∨ 20 < t.edges.length then ([], 3)
  else match firstErr (nodeF t.nodes) t.nodes.length 0 with
    | some i => ((nth t.nodes i).name, nodeF t.nodes i)
    | none => match firstErr (edgeF t) t.edges.length 0 with
      | some i => ((nth t.edges i).name, edgeF t i)
      | none => ([], 0)
end Go.Proofs.YtippinddoldhkaaGreat
namespace Go.Proofs.YtippinddoldhkaaGreat
open Go Go.Ew
structure E3 where
  kind : Int
  src : Int
  tgt : Int
deriving Inhabited, DecidableEq
structure Graph where
  nodes : List Int
  edges : List E3
deriving Inhabited
structure Morph where
  nodes : List Int
  edges : List Int
deriving Inhabited, DecidableEq
def e3C (e : E3) : List AV := [.int e.kind, .int e.src, .int e.tgt]
def e3sA (l : List E3) : AV := .imm l.length (l.flatMap e3C)
def graphC (g : Graph) : List AV := [intsA g.nodes, e3sA g.edges]
def graphA (g : Graph) : AV := .agg (graphC g)
def morphC (m : Morph) : List AV := [intsA m.nodes, intsA m.edges]
def morphsA (l : List Morph) : AV := .imm l.length (l.flatMap morphC)
theorem drop_e3 (l : List E3) (i : Nat) (h : i < l.length) : (l.flatMap e3C).drop (i * 3) = e3C (nth l i) ++ (l.drop (i + 1)).flatMap e3C := dropF (f := e3C) (fun _ => rfl) l i h
theorem e3_data (l : List E3) : DataL (l.flatMap e3C) := DataL.flatMap (fun _ => .cons (.lit _) (.cons (.lit _) (.cons (.lit _) .nil))) l
theorem morphC_data (m : Morph) : DataL (morphC m) := .cons (.imm (ints_data _)) (.cons (.imm (ints_data _)) .nil)
theorem morphs_data (l : List Morph) : DataL (l.flatMap morphC) := DataL.flatMap morphC_data l
theorem graphC_data (g : Graph) : DataL (graphC g) := .cons (.imm (ints_data _)) (.cons (.imm (e3_data _)) .nil)
def boolsA (l : List Bool) : AV := .imm l.length (l.map AV.bool)
def boolssA (l : List (List Bool)) : AV := .imm l.length (l.map boolsA)
def kindF (n : Int) : Bool := decide (0 ≤ n) && decide (n ≤ 99)
def fitsF (n : Nat) (e : E3) : Bool := kindF e.kind && (decide (0 ≤ e.src) && decide (e.src < n)) && (decide (0 ≤ e.tgt) && decide (e.tgt < n))
def gvalidF (g : Graph) : Nat :=
  if 40 < g.nodes.length ∨ 80 < g.edges.length then 3
  else if g.nodes.any (fun n => !kindF n) then 6
  else if g.edges.any (fun e => !fitsF g.nodes.length e) then 6
  else 0
end Go.Proofs.YtippinddoldhkaaGreat
namespace Go.Proofs.YtippinddoldhkaaGreat
open Go Go.Ew Go.Proofs Go.RowKit
set_option maxRecDepth 10000
/-- The first place, from i on, of an element that p accepts; -1: none. -/
def idxG {α : Type} (p : α → Bool) : Nat → List α → Int
  | _, [] => -1
  | i, a :: r => if p a then (i : Int) else idxG p (i + 1) r
theorem idxG_any {α : Type} (p : α → Bool) : ∀ (l : List α) (i : Nat), decide (0 ≤ idxG p i l) = l.any p
  | [], i => by simp [idxG]
  | a :: r, i => by
    rw [idxG, List.any_cons]
    rcases h : p a
    · simp only [Bool.false_eq_true, if_false, Bool.false_or]; exact idxG_any p r (i + 1)
    · simp

def InvIndexFuncNodeType (p : NodeT → Bool) (arg : AV) (l : List NodeT) (σ : Mem) (n : Nat) (fr : Fr) (τ : Mem) : Prop :=
  ∃ i : Nat, i ≤ l.length ∧ n = l.length - i ∧ idxG p i (l.drop i) = idxG p 0 l ∧ fr 0 = .imm l.length (l.flatMap nodeC) ∧ fr 1 = arg ∧ fr 7 = .int l.length ∧ fr 8 = .int i ∧ τ = σ
theorem iIndexFuncNodeType_ev (g : FuncId) (caps : List AV) (p : NodeT → Bool) (hp : ∀ a, PureA Tryz.prog g (.agg (nodeC a) :: caps) (.bool (p a))) (l : List NodeT) (hl : l.length ≤ 4611686018427387904) : PureA Tryz.prog 176 [.imm l.length (l.flatMap nodeC), .fn g caps] (.int (idxG p 0 l)) := by
  refine pureA_of Tryz.func176 rfl (by kernel_rfl) (fun σ => ?_)
  simp [go_sem, Tryz.results176, Tryz.ntmps176]
  refine EW_loop (InvIndexFuncNodeType p (.fn g caps) l σ) l.length ⟨0, by omega, by omega, by simp, by simp [go_sem], by simp [go_sem], by simp [go_sem], by simp [go_sem], rfl⟩ ?_
  rintro n fr τ ⟨i, hi, rfl, hR, h0, h1, h7, h8, rfl⟩
  simp [go_sem, h7, h8]
  by_cases hlt : i < l.length
  · have hwi : IntKind.i64.wrap ((i : Int) + 1) = ((i + 1 : Nat) : Int) := by rw [wrap64_of _ (by omega) (by omega)]; rfl
    have d := drop_node l i hlt
    rw [drop_nth l i hlt, idxG] at hR
    simp [go_sem, hlt, h0, h1, h8, d, nodeC]
    refine EWcall_pure (hp _) ?_
    rcases hc : p (nth l i)
    · rw [hc] at hR
      simp only [Bool.false_eq_true, if_false] at hR
      simp [go_sem, h8]
      exact ⟨l.length - (i + 1), by omega, i + 1, by omega, rfl, hR, by simp [go_sem, h0], by simp [go_sem, h1], by simp [go_sem, h7], by simp [go_sem]; exact hwi, rfl⟩
    · rw [hc] at hR
      simp only [if_true] at hR
      rw [← hR]
      simp [go_sem]
  · have : i = l.length := by omega
    subst this
    rw [List.drop_length, idxG] at hR
    rw [← hR]
    simp [go_sem]

theorem iContainsFuncNodeType_ev (g : FuncId) (caps : List AV) (p : NodeT → Bool) (hp : ∀ a, PureA Tryz.prog g (.agg (nodeC a) :: caps) (.bool (p a))) (l : List NodeT) (hl : l.length ≤ 4611686018427387904) : PureA Tryz.prog 144 [.imm l.length (l.flatMap nodeC), .fn g caps] (.bool (l.any p)) := by
  refine pureA_of Tryz.func144 rfl (by kernel_rfl) (fun σ => ?_)
  simp [go_sem, Tryz.results144, Tryz.ntmps144]
  refine EWcall_pure (iIndexFuncNodeType_ev g caps p hp l hl) ?_
  simp [go_sem, idxG_any]

def InvIndexFuncEdgeType (p : EdgeT → Bool) (arg : AV) (l : List EdgeT) (σ : Mem) (n : Nat) (fr : Fr) (τ : Mem) : Prop :=
  ∃ i : Nat, i ≤ l.length ∧ n = l.length - i ∧ idxG p i (l.drop i) = idxG p 0 l ∧ fr 0 = .imm l.length (l.flatMap edgeC) ∧ fr 1 = arg ∧ fr 7 = .int l.length ∧ fr 8 = .int i ∧ τ = σ
theorem iIndexFuncEdgeType_ev (g : FuncId) (caps : List AV) (p : EdgeT → Bool) (hp : ∀ a, PureA Tryz.prog g (.agg (edgeC a) :: caps) (.bool (p a))) (l : List EdgeT) (hl : l.length ≤ 4611686018427387904) : PureA Tryz.prog 180 [.imm l.length (l.flatMap edgeC), .fn g caps] (.int (idxG p 0 l)) := by
  refine pureA_of Tryz.func180 rfl (by kernel_rfl) (fun σ => ?_)
  simp [go_sem, Tryz.results180, Tryz.ntmps180]
  refine EW_loop (InvIndexFuncEdgeType p (.fn g caps) l σ) l.length ⟨0, by omega, by omega, by simp, by simp [go_sem], by simp [go_sem], by simp [go_sem], by simp [go_sem], rfl⟩ ?_
  rintro n fr τ ⟨i, hi, rfl, hR, h0, h1, h7, h8, rfl⟩
  simp [go_sem, h7, h8]
  by_cases hlt : i < l.length
  · have hwi : IntKind.i64.wrap ((i : Int) + 1) = ((i + 1 : Nat) : Int) := by rw [wrap64_of _ (by omega) (by omega)]; rfl
    have d := drop_edgeT l i hlt
    rw [drop_nth l i hlt, idxG] at hR
    simp [go_sem, hlt, h0, h1, h8, d, edgeC]
    refine EWcall_pure (hp _) ?_
    rcases hc : p (nth l i)
    · rw [hc] at hR
      simp only [Bool.false_eq_true, if_false] at hR
      simp [go_sem, h8]
      exact ⟨l.length - (i + 1), by omega, i + 1, by omega, rfl, hR, by simp [go_sem, h0], by simp [go_sem, h1], by simp [go_sem, h7], by simp [go_sem]; exact hwi, rfl⟩
    · rw [hc] at hR
      simp only [if_true] at hR
      rw [← hR]
      simp [go_sem]
  · have : i = l.length := by omega
    subst this
    rw [List.drop_length, idxG] at hR
    rw [← hR]
    simp [go_sem]

theorem iContainsFuncEdgeType_ev (g : FuncId) (caps : List AV) (p : EdgeT → Bool) (hp : ∀ a, PureA Tryz.prog g (.agg (edgeC a) :: caps) (.bool (p a))) (l : List EdgeT) (hl : l.length ≤ 4611686018427387904) : PureA Tryz.prog 148 [.imm l.length (l.flatMap edgeC), .fn g caps] (.bool (l.any p)) := by
  refine pureA_of Tryz.func148 rfl (by kernel_rfl) (fun σ => ?_)
  simp [go_sem, Tryz.results148, Tryz.ntmps148]
  refine EWcall_pure (iIndexFuncEdgeType_ev g caps p hp l hl) ?_
  simp [go_sem, idxG_any]

def InvIndexFuncAttr (p : Attr → Bool) (arg : AV) (l : List Attr) (σ : Mem) (n : Nat) (fr : Fr) (τ : Mem) : Prop :=
  ∃ i : Nat, i ≤ l.length ∧ n = l.length - i ∧ idxG p i (l.drop i) = idxG p 0 l ∧ fr 0 = .imm l.length (l.flatMap attrC) ∧ fr 1 = arg ∧ fr 7 = .int l.length ∧ fr 8 = .int i ∧ τ = σ
theorem iIndexFuncAttr_ev (g : FuncId) (caps : List AV) (p : Attr → Bool) (hp : ∀ a, PureA Tryz.prog g (.agg (attrC a) :: caps) (.bool (p a))) (l : List Attr) (hl : l.length ≤ 4611686018427387904) : PureA Tryz.prog 200 [.imm l.length (l.flatMap attrC), .fn g caps] (.int (idxG p 0 l)) := by
  refine pureA_of Tryz.func200 rfl (by kernel_rfl) (fun σ => ?_)
  simp [go_sem, Tryz.results200, Tryz.ntmps200]
  refine EW_loop (InvIndexFuncAttr p (.fn g caps) l σ) l.length ⟨0, by omega, by omega, by simp, by simp [go_sem], by simp [go_sem], by simp [go_sem], by simp [go_sem], rfl⟩ ?_
  rintro n fr τ ⟨i, hi, rfl, hR, h0, h1, h7, h8, rfl⟩
  simp [go_sem, h7, h8]
  by_cases hlt : i < l.length
  · have hwi : IntKind.i64.wrap ((i : Int) + 1) = ((i + 1 : Nat) : Int) := by rw [wrap64_of _ (by omega) (by omega)]; rfl
    have d := drop_attr l i hlt
    rw [drop_nth l i hlt, idxG] at hR
    simp [go_sem, hlt, h0, h1, h8, d, attrC]
    refine EWcall_pure (hp _) ?_
    rcases hc : p (nth l i)
    · rw [hc] at hR
      simp only [Bool.false_eq_true, if_false] at hR
      simp [go_sem, h8]
      exact ⟨l.length - (i + 1), by omega, i + 1, by omega, rfl, hR, by simp [go_sem, h0], by simp [go_sem, h1], by simp [go_sem, h7], by simp [go_sem]; exact hwi, rfl⟩
    · rw [hc] at hR
      simp only [if_true] at hR
      rw [← hR]
      simp [go_sem]
  · have : i = l.length := by omega
    subst this
    rw [List.drop_length, idxG] at hR
    rw [← hR]
    simp [go_sem]

theorem iContainsFuncAttr_ev (g : FuncId) (caps : List AV) (p : Attr → Bool) (hp : ∀ a, PureA Tryz.prog g (.agg (attrC a) :: caps) (.bool (p a))) (l : List Attr) (hl : l.length ≤ 4611686018427387904) : PureA Tryz.prog 177 [.imm l.length (l.flatMap attrC), .fn g caps] (.bool (l.any p)) := by
  refine pureA_of Tryz.func177 rfl (by kernel_rfl) (fun σ => ?_)
  simp [go_sem, Tryz.results177, Tryz.ntmps177]
  refine EWcall_pure (iIndexFuncAttr_ev g caps p hp l hl) ?_
  simp [go_sem, idxG_any]

def InvIndexFuncEdge (p : E3 → Bool) (arg : AV) (l : List E3) (σ : Mem) (n : Nat) (fr : Fr) (τ : Mem) : Prop :=
  ∃ i : Nat, i ≤ l.length ∧ n = l.length - i ∧ idxG p i (l.drop i) = idxG p 0 l ∧ fr 0 = .imm l.length (l.flatMap e3C) ∧ fr 1 = arg ∧ fr 7 = .int l.length ∧ fr 8 = .int i ∧ τ = σ
theorem iIndexFuncEdge_ev (g : FuncId) (caps : List AV) (p : E3 → Bool) (hp : ∀ a, PureA Tryz.prog g (.agg (e3C a) :: caps) (.bool (p a))) (l : List E3) (hl : l.length ≤ 4611686018427387904) : PureA Tryz.prog 108 [.imm l.length (l.flatMap e3C), .fn g caps] (.int (idxG p 0 l)) := by
  refine pureA_of Tryz.func108 rfl (by kernel_rfl) (fun σ => ?_)
  simp [go_sem, Tryz.results108, Tryz.ntmps108]
  refine EW_loop (InvIndexFuncEdge p (.fn g caps) l σ) l.length ⟨0, by omega, by omega, by simp, by simp [go_sem], by simp [go_sem], by simp [go_sem], by simp [go_sem], rfl⟩ ?_
  rintro n fr τ ⟨i, hi, rfl, hR, h0, h1, h7, h8, rfl⟩
  simp [go_sem, h7, h8]
  by_cases hlt : i < l.length
  · have hwi : IntKind.i64.wrap ((i : Int) + 1) = ((i + 1 : Nat) : Int) := by rw [wrap64_of _ (by omega) (by omega)]; rfl
    have d := drop_e3 l i hlt
    rw [drop_nth l i hlt, idxG] at hR
    simp [go_sem, hlt, h0, h1, h8, d, e3C]
    refine EWcall_pure (hp _) ?_
    rcases hc : p (nth l i)
    · rw [hc] at hR
      simp only [Bool.false_eq_true, if_false] at hR
      simp [go_sem, h8]
      exact ⟨l.length - (i + 1), by omega, i + 1, by omega, rfl, hR, by simp [go_sem, h0], by simp [go_sem, h1], by simp [go_sem, h7], by simp [go_sem]; exact hwi, rfl⟩
    · rw [hc] at hR
      simp only [if_true] at hR
      rw [← hR]
      simp [go_sem]
  · have : i = l.length := by omega
    subst this
    rw [List.drop_length, idxG] at hR
    rw [← hR]
    simp [go_sem]

theorem iContainsFuncEdge_ev (g : FuncId) (caps : List AV) (p : E3 → Bool) (hp : ∀ a, PureA Tryz.prog g (.agg (e3C a) :: caps) (.bool (p a))) (l : List E3) (hl : l.length ≤ 4611686018427387904) : PureA Tryz.prog 53 [.imm l.length (l.flatMap e3C), .fn g caps] (.bool (l.any p)) := by
  refine pureA_of Tryz.func53 rfl (by kernel_rfl) (fun σ => ?_)
  simp [go_sem, Tryz.results53, Tryz.ntmps53]
  refine EWcall_pure (iIndexFuncEdge_ev g caps p hp l hl) ?_
  simp [go_sem, idxG_any]

def InvIndexFuncInt (p : Int → Bool) (arg : AV) (l : List Int) (σ : Mem) (n : Nat) (fr : Fr) (τ : Mem) : Prop :=
  ∃ i : Nat, i ≤ l.length ∧ n = l.length - i ∧ idxG p i (l.drop i) = idxG p 0 l ∧ fr 0 = .imm l.length (l.map AV.int) ∧ fr 1 = arg ∧ fr 7 = .int l.length ∧ fr 8 = .int i ∧ τ = σ
theorem iIndexFuncInt_ev (g : FuncId) (caps : List AV) (p : Int → Bool) (hp : ∀ a, PureA Tryz.prog g (AV.int a :: caps) (.bool (p a))) (l : List Int) (hl : l.length ≤ 4611686018427387904) : PureA Tryz.prog 107 [.imm l.length (l.map AV.int), .fn g caps] (.int (idxG p 0 l)) := by
  refine pureA_of Tryz.func107 rfl (by kernel_rfl) (fun σ => ?_)
  simp [go_sem, Tryz.results107, Tryz.ntmps107]
  refine EW_loop (InvIndexFuncInt p (.fn g caps) l σ) l.length ⟨0, by omega, by omega, by simp, by simp [go_sem], by simp [go_sem], by simp [go_sem], by simp [go_sem], rfl⟩ ?_
  rintro n fr τ ⟨i, hi, rfl, hR, h0, h1, h7, h8, rfl⟩
  simp [go_sem, h7, h8]
  by_cases hlt : i < l.length
  · have hwi : IntKind.i64.wrap ((i : Int) + 1) = ((i + 1 : Nat) : Int) := by rw [wrap64_of _ (by omega) (by omega)]; rfl
    have d := getM AV.int l i hlt
    rw [drop_nth l i hlt, idxG] at hR
    simp [go_sem, hlt, h0, h1, h8, d, nth_eq l i hlt]
    refine EWcall_pure (hp _) ?_
    rcases hc : p (nth l i)
    · rw [hc] at hR
      simp only [Bool.false_eq_true, if_false] at hR
      simp [go_sem, h8]
      exact ⟨l.length - (i + 1), by omega, i + 1, by omega, rfl, hR, by simp [go_sem, h0], by simp [go_sem, h1], by simp [go_sem, h7], by simp [go_sem]; exact hwi, rfl⟩
    · rw [hc] at hR
      simp only [if_true] at hR
      rw [← hR]
      simp [go_sem]
  · have : i = l.length := by omega
    subst this
    rw [List.drop_length, idxG] at hR
    rw [← hR]
    simp [go_sem]

theorem iContainsFuncInt_ev (g : FuncId) (caps : List AV) (p : Int → Bool) (hp : ∀ a, PureA Tryz.prog g (AV.int a :: caps) (.bool (p a))) (l : List Int) (hl : l.length ≤ 4611686018427387904) : PureA Tryz.prog 51 [.imm l.length (l.map AV.int), .fn g caps] (.bool (l.any p)) := by
  refine pureA_of Tryz.func51 rfl (by kernel_rfl) (fun σ => ?_)
  simp [go_sem, Tryz.results51, Tryz.ntmps51]
  refine EWcall_pure (iIndexFuncInt_ev g caps p hp l hl) ?_
  simp [go_sem, idxG_any]

def InvIndexInt (p : Int → Bool) (arg : AV) (l : List Int) (σ : Mem) (n : Nat) (fr : Fr) (τ : Mem) : Prop :=
  ∃ i : Nat, i ≤ l.length ∧ n = l.length - i ∧ idxG p i (l.drop i) = idxG p 0 l ∧ fr 0 = .imm l.length (l.map AV.int) ∧ fr 1 = arg ∧ fr 7 = .int l.length ∧ fr 8 = .int i ∧ τ = σ
theorem iIndexInt_ev (x : Int) (l : List Int) (hl : l.length ≤ 4611686018427387904) : PureA Tryz.prog 210 [.imm l.length (l.map AV.int), AV.int x] (.int (idxG (fun a => decide (x = a)) 0 l)) := by
  refine pureA_of Tryz.func210 rfl (by kernel_rfl) (fun σ => ?_)
  simp [go_sem, Tryz.results210, Tryz.ntmps210]
  refine EW_loop (InvIndexInt (fun a => decide (x = a)) (AV.int x) l σ) l.length ⟨0, by omega, by omega, by simp, by simp [go_sem], by simp [go_sem], by simp [go_sem], by simp [go_sem], rfl⟩ ?_
  rintro n fr τ ⟨i, hi, rfl, hR, h0, h1, h7, h8, rfl⟩
  simp [go_sem, h7, h8]
  by_cases hlt : i < l.length
  · have hwi : IntKind.i64.wrap ((i : Int) + 1) = ((i + 1 : Nat) : Int) := by rw [wrap64_of _ (by omega) (by omega)]; rfl
    have d := getM AV.int l i hlt
    rw [drop_nth l i hlt, idxG] at hR
    simp [go_sem, hlt, h0, h1, h8, d, nth_eq l i hlt]
    rcases hc : decide (x = nth l i)
    · rw [hc] at hR
      simp only [Bool.false_eq_true, if_false] at hR
      simp [go_sem, h8]
      exact ⟨l.length - (i + 1), by omega, i + 1, by omega, rfl, hR, by simp [go_sem, h0], by simp [go_sem, h1], by simp [go_sem, h7], by simp [go_sem]; exact hwi, rfl⟩
    · rw [hc] at hR
      simp only [if_true] at hR
      rw [← hR]
      simp [go_sem]
  · have : i = l.length := by omega
    subst this
    rw [List.drop_length, idxG] at hR
    rw [← hR]
    simp [go_sem]

theorem iContainsInt_ev (x : Int) (l : List Int) (hl : l.length ≤ 4611686018427387904) : PureA Tryz.prog 195 [.imm l.length (l.map AV.int), AV.int x] (.bool (l.any (fun a => decide (x = a)))) := by
  refine pureA_of Tryz.func195 rfl (by kernel_rfl) (fun σ => ?_)
  simp [go_sem, Tryz.results195, Tryz.ntmps195]
  refine EWcall_pure (iIndexInt_ev x l hl) ?_
  simp [go_sem, idxG_any]

def InvIndexStr (p : (List UInt8) → Bool) (arg : AV) (l : List (List UInt8)) (σ : Mem) (n : Nat) (fr : Fr) (τ : Mem) : Prop :=
  ∃ i : Nat, i ≤ l.length ∧ n = l.length - i ∧ idxG p i (l.drop i) = idxG p 0 l ∧ fr 0 = .imm l.length (l.map AV.str) ∧ fr 1 = arg ∧ fr 7 = .int l.length ∧ fr 8 = .int i ∧ τ = σ
theorem iIndexStr_ev (x : (List UInt8)) (l : List (List UInt8)) (hl : l.length ≤ 4611686018427387904) : PureA Tryz.prog 219 [.imm l.length (l.map AV.str), AV.str x] (.int (idxG (fun a => x == a) 0 l)) := by
  refine pureA_of Tryz.func219 rfl (by kernel_rfl) (fun σ => ?_)
  simp [go_sem, Tryz.results219, Tryz.ntmps219]
  refine EW_loop (InvIndexStr (fun a => x == a) (AV.str x) l σ) l.length ⟨0, by omega, by omega, by simp, by simp [go_sem], by simp [go_sem], by simp [go_sem], by simp [go_sem], rfl⟩ ?_
  rintro n fr τ ⟨i, hi, rfl, hR, h0, h1, h7, h8, rfl⟩
  simp [go_sem, h7, h8]
  by_cases hlt : i < l.length
  · have hwi : IntKind.i64.wrap ((i : Int) + 1) = ((i + 1 : Nat) : Int) := by rw [wrap64_of _ (by omega) (by omega)]; rfl
    have d := getM AV.str l i hlt
    rw [drop_nth l i hlt, idxG] at hR
    simp [go_sem, hlt, h0, h1, h8, d, nth_eq l i hlt]
    rcases hc : x == nth l i
    · rw [hc] at hR
      simp only [Bool.false_eq_true, if_false] at hR
      simp [go_sem, h8]
      exact ⟨l.length - (i + 1), by omega, i + 1, by omega, rfl, hR, by simp [go_sem, h0], by simp [go_sem, h1], by simp [go_sem, h7], by simp [go_sem]; exact hwi, rfl⟩
    · rw [hc] at hR
      simp only [if_true] at hR
      rw [← hR]
      simp [go_sem]
  · have : i = l.length := by omega
    subst this
    rw [List.drop_length, idxG] at hR
    rw [← hR]
    simp [go_sem]

theorem iContainsStr_ev (x : (List UInt8)) (l : List (List UInt8)) (hl : l.length ≤ 4611686018427387904) : PureA Tryz.prog 201 [.imm l.length (l.map AV.str), AV.str x] (.bool (l.any (fun a => x == a))) := by
  refine pureA_of Tryz.func201 rfl (by kernel_rfl) (fun σ => ?_)
  simp [go_sem, Tryz.results201, Tryz.ntmps201]
  refine EWcall_pure (iIndexStr_ev x l hl) ?_
  simp [go_sem, idxG_any]

end Go.Proofs.YtippinddoldhkaaGreat
namespace Go.Proofs.YtippinddoldhkaaGreat
open Go Go.Ew Go.Proofs Go.RowKit
set_option maxRecDepth 10000
def wfS (s : List UInt8) : Prop := s.length ≤ 140737488351232
def wfAttr (a : Attr) : Prop := wfS a.name ∧ a.names.length ≤ 140737488351232 ∧ ∀ s ∈ a.names, wfS s
def wfNode (n : NodeT) : Prop := wfS n.name ∧ n.attrs.length ≤ 140737488351232 ∧ ∀ a ∈ n.attrs, wfAttr a
def wfTypes (t : Types) : Prop := t.nodes.length ≤ 140737488351232 ∧ t.edges.length ≤ 140737488351232 ∧ (∀ n ∈ t.nodes, wfNode n) ∧ ∀ e ∈ t.edges, wfS e.name
theorem wfS.le {s : List UInt8} (h : wfS s) : s.length ≤ 9223372036854774000 := Nat.le_trans h (by decide)
theorem takeF {α : Type} {f : α → List AV} {sz : Nat} (hf : ∀ a, (f a).length = sz) : ∀ (l : List α) (i : Nat), (l.flatMap f).take (i * sz) = (l.take i).flatMap f
  | [], i => by simp
  | a :: l, 0 => by simp
  | a :: l, i + 1 => by
    rw [List.take_succ_cons, List.flatMap_cons, List.flatMap_cons, Nat.add_mul, Nat.one_mul, Nat.add_comm, List.take_append, List.take_of_length_le (by rw [hf]; omega), hf, Nat.add_sub_cancel_left, takeF hf l i]
theorem bounded_ev (a b : Int) : PureA Tryz.prog 150 [.int a, .int b] (.bool (boundF a b)) := by
  refine pureA_of Tryz.func150 rfl (by kernel_rfl) (fun σ => ?_)
  simp [go_sem, Tryz.results150, Tryz.ntmps150]
  unfold boundF
  rcases h1 : decide (0 ≤ a)
  · simp [go_sem]
  rcases h2 : decide (a ≤ 40)
  · simp [go_sem, h2]
  rcases h3 : decide (b = -1)
  · rcases h4 : decide (a ≤ b)
    · simp [go_sem, h2, h3, h4]
    · simp [go_sem, h2, h3, h4]
  · simp [go_sem, h2, h3]
theorem containsStr_take (x : List UInt8) (l : List (List UInt8)) (i : Nat) (h : i ≤ l.length) (hl : l.length ≤ 4611686018427387904) : PureA Tryz.prog 201 [.imm i ((l.map AV.str).take i), .str x] (.bool ((l.take i).any fun a => x == a)) := by
  have := iContainsStr_ev x (l.take i) (by rw [List.length_take]; omega)
  rwa [List.length_take, Nat.min_eq_left h, List.map_take] at this
def NmInv (l : List (List UInt8)) (σ : Mem) (n : Nat) (fr : Fr) (τ : Mem) : Prop :=
  ∃ i : Nat, i ≤ l.length ∧ n = l.length - i ∧ namesG (l.take i) (l.drop i) = namesG [] l ∧ fr 0 = strsA l ∧ fr 8 = strsA l ∧ fr 9 = .int l.length ∧ fr 10 = .int i ∧ τ = σ
theorem contains_any (l : List (List UInt8)) (x : List UInt8) : l.contains x = l.any fun a => x == a := by
  induction l with
  | nil => rfl
  | cons a l ih => rw [List.contains_cons, List.any_cons, ih]
theorem names_ev (l : List (List UInt8)) (hl : l.length ≤ 140737488351232) (hw : ∀ s ∈ l, wfS s) : PureA Tryz.prog 179 [strsA l] (.int (namesF l)) := by
  refine pureA_of Tryz.func179 rfl (by kernel_rfl) (fun σ => ?_)
  simp [go_sem, Tryz.results179, Tryz.ntmps179, strsA]
  unfold namesF
  by_cases hbig : 20 < l.length
  · simp [go_sem, hbig, show (20 : Int) < l.length by omega]
  rw [if_neg hbig]
  simp [go_sem, show ¬ (20 : Int) < l.length by omega]
  refine EW_loop (NmInv l σ) l.length ⟨0, by omega, by omega, by simp, by simp [go_sem, strsA], by simp [go_sem, strsA], by simp [go_sem], by simp [go_sem], rfl⟩ ?_
  rintro n fr τ ⟨i, hi, rfl, hR, h0, h8, h9, h10, rfl⟩
  simp [go_sem, h9, h10]
  by_cases hlt : i < l.length
  · have hwi : IntKind.i64.wrap ((i : Int) + 1) = ((i + 1 : Nat) : Int) := by rw [wrap64_of _ (by omega) (by omega)]; rfl
    rw [drop_nth l i hlt, namesG, contains_any] at hR
    have hx := hw _ (nth_mem l i hlt)
    have hneq := nth_eq l i hlt
    simp [go_sem, hlt, h0, h8, h10, strsA, hneq]
    refine EWcall_pure (isName_ev _ hx.le) ?_
    rcases hc : rightF 1 (nth l i)
    · rw [← hR]
      simp [go_sem, isNameF, hc]
    · simp only [isNameF, hc, Bool.not_true, Bool.false_eq_true, if_false] at hR
      simp [go_sem, h0, strsA, show (i : Int) ≤ l.length by omega, hi]
      refine EWcall_pure (containsStr_take _ l i hi (by omega)) ?_
      rcases hd : (l.take i).any fun a => nth l i == a
      · rw [hd] at hR
        simp only [Bool.false_eq_true, if_false] at hR
        simp [go_sem, h10]
        exact ⟨l.length - (i + 1), by omega, i + 1, by omega, rfl, by rw [take_nth l i hlt]; exact hR, by simp [go_sem, h0], by simp [go_sem, h8], by simp [go_sem, h9], by simp [go_sem]; exact hwi, rfl⟩
      · rw [hd] at hR
        rw [← hR]
        simp [go_sem]
  · have : i = l.length := by omega
    subst this
    rw [List.drop_length, namesG] at hR
    rw [← hR]
    simp [go_sem]
theorem attrName_ev (x y : Attr) : PureA Tryz.prog 178 [.agg (attrC x), .iptr (attrC y)] (.bool (x.name == y.name)) := by
  refine pureA_of Tryz.func178 rfl (by kernel_rfl) (fun σ => ?_)
  simp [go_sem, Tryz.results178, Tryz.ntmps178, attrC, get_alloc]
theorem nodeName_ev (x y : NodeT) : PureA Tryz.prog 145 [.agg (nodeC x), .iptr (nodeC y)] (.bool (x.name == y.name)) := by
  refine pureA_of Tryz.func145 rfl (by kernel_rfl) (fun σ => ?_)
  simp [go_sem, Tryz.results145, Tryz.ntmps145, nodeC, get_alloc]
theorem edgeName_ev (x y : EdgeT) : PureA Tryz.prog 149 [.agg (edgeC x), .iptr (edgeC y)] (.bool (x.name == y.name)) := by
  refine pureA_of Tryz.func149 rfl (by kernel_rfl) (fun σ => ?_)
  simp [go_sem, Tryz.results149, Tryz.ntmps149, edgeC, get_alloc]
theorem edgeIn_ev (t : Types) (n : Int) : PureA Tryz.prog 147 [.int n, .iptr (typesC t)] (.bool (decide (0 ≤ n) && decide (n < t.nodes.length))) := by
  refine pureA_of Tryz.func147 rfl (by kernel_rfl) (fun σ => ?_)
  simp [go_sem, Tryz.results147, Tryz.ntmps147, typesC, nodesA]
  rcases h1 : decide (0 ≤ n)
  · simp [go_sem]
  · simp [go_sem, nodesA]
end Go.Proofs.YtippinddoldhkaaGreat
namespace Go.Proofs.YtippinddoldhkaaGreat
open Go Go.Ew Go.Proofs Go.RowKit
set_option maxRecDepth 10000
theorem typesC_data (t : Types) : DataL (typesC t) := .cons (.imm (nodes_data _)) (.cons (.imm (edges_data _)) .nil)
theorem attribute_ev (x : Attr) (before : List Attr) (hx : wfAttr x) (hb : before.length ≤ 140737488351232) : PureA Tryz.prog 146 [.agg (attrC x), attrsA before] (.int (attributeF x before)) := by
  refine pureA_of Tryz.func146 rfl (by kernel_rfl) (fun σ => ?_)
  have hK : Keeps σ (σ.alloc 95 (attrC x)) := by rw [keeps_alloc _ _ (Nat.le_refl _)]; exact Keeps.refl _
  have hg : (σ.alloc 95 (attrC x)).get σ.next = some (attrC x) := by simp [get_alloc]
  simp [go_sem, Tryz.results146, Tryz.ntmps146]
  generalize σ.alloc 95 (attrC x) = τ at hK hg ⊢
  simp [go_sem, hg, attrC]
  unfold attributeF
  refine EWcall_pure (isName_ev _ hx.1.le) ?_
  rcases hc : rightF 1 x.name
  · simp [go_sem, isNameF, hc, hK]
  simp [go_sem]
  refine EWcall_frz (iContainsFuncAttr_ev 178 [.iptr (attrC x)] (fun y => y.name == x.name) (fun a => attrName_ev a x) before (by omega)) rfl ?_ ?_
  · simp [go_sem, attrsA]
    exact ⟨(attrs_data _).frz, frz_ptr (Nat.zero_le _) hg (attrC_data x)⟩
  rw [show isNameF x.name = true from hc]
  rcases hd : before.any fun y => y.name == x.name
  · simp [go_sem, hg, attrC, hasName, hd]
    refine EWcall_pure (names_ev x.names hx.2.1 hx.2.2) ?_
    by_cases hn : namesF x.names = 0
    · have hlen : x.names.length ≤ 20 := by
        have : ¬ 20 < x.names.length := fun h => by rw [namesF, if_pos h] at hn; cases hn
        omega
      have hwl : IntKind.i64.wrap ((x.names.length : Int) - 1) = (x.names.length : Int) - 1 := wrap64_of _ (by omega) (by omega)
      simp [go_sem, hn, hg, attrC]
      unfold rangeOk
      by_cases hp : 0 < x.names.length
      · rcases h1 : decide (-1000000 ≤ x.low) <;> rcases h2 : decide (x.low ≤ x.high) <;> rcases h3 : decide (x.high ≤ 1000000) <;> rcases h4 : decide (x.low = 0) <;> rcases h5 : decide (x.high = (x.names.length : Int) - 1) <;>
          simp [go_sem, hg, attrC, h1, h2, h3, h4, h5, hp, strsA, hwl, hK, show (0 : Int) < x.names.length by omega]
      · have h0 : x.names.length = 0 := by omega
        rcases h1 : decide (-1000000 ≤ x.low) <;> rcases h2 : decide (x.low ≤ x.high) <;> rcases h3 : decide (x.high ≤ 1000000) <;>
          simp [go_sem, hg, attrC, h1, h2, h3, h0, strsA, hK]
    · simp [go_sem, hn, hK]
  · simp [go_sem, hasName, hd, hK]
theorem edgeFn_ev (t : Types) (i : Nat) (hi : i < t.edges.length) (ht : wfTypes t) : PureA Tryz.prog 102 [typesA t, .int i] (.int (edgeF t i)) := by
  refine pureA_of Tryz.func102 rfl (by kernel_rfl) (fun σ => ?_)
  have hel : t.edges.length ≤ 140737488351232 := ht.2.1
  have hx := ht.2.2.2 _ (nth_mem t.edges i hi)
  have d := drop_edgeT t.edges i hi
  have hneq := nth_eq t.edges i hi
  have hE : edgeF t i = if !isNameF (nth t.edges i).name then 2 else if (t.edges.take i).any (fun m => m.name == (nth t.edges i).name) then 5
      else if !(decide (0 ≤ (nth t.edges i).src) && decide ((nth t.edges i).src < t.nodes.length) && (decide (0 ≤ (nth t.edges i).tgt) && decide ((nth t.edges i).tgt < t.nodes.length)) && boundF (nth t.edges i).outLow (nth t.edges i).outHigh && boundF (nth t.edges i).inLow (nth t.edges i).inHigh) then 6 else 0 := rfl
  generalize edgeF t i = D at hE ⊢
  generalize nth t.edges i = x at *
  obtain ⟨τ, hτ⟩ : ∃ τ, τ = ((σ.alloc 35 (typesC t)).alloc 97 [.str [], .int 0, .int 0, .int 0, .int 0, .int 0, .int 0]).set (σ.next + 1) (edgeC x) := ⟨_, rfl⟩
  have hK : Keeps σ τ := by
    intro j hj
    rw [hτ]
    simp [get_set, get_alloc, next_alloc, show ¬ j = σ.next by omega, show ¬ j = σ.next + 1 by omega]
  have hg1 : τ.get σ.next = some (typesC t) := by rw [hτ]; simp [get_set, get_alloc, next_alloc]
  have hg2 : τ.get (σ.next + 1) = some (edgeC x) := by rw [hτ]; simp [get_set, get_alloc, next_alloc]
  simp [go_sem, Tryz.results102, Tryz.ntmps102, typesA, typesC, edgesA, hi, d, edgeC, get_alloc, get_set]
  rw [show ((σ.alloc 35 [nodesA t.nodes, AV.imm t.edges.length (List.flatMap edgeC t.edges)]).alloc 97 [AV.lit (Value.string ⟨#[]⟩), AV.lit (Value.int IntKind.i64 0), AV.lit (Value.int IntKind.i64 0), AV.lit (Value.int IntKind.i64 0), AV.lit (Value.int IntKind.i64 0), AV.lit (Value.int IntKind.i64 0), AV.lit (Value.int IntKind.i64 0)]).set (σ.next + 1) [AV.str x.name, AV.int x.src, AV.int x.tgt, AV.int x.outLow, AV.int x.outHigh, AV.int x.inLow, AV.int x.inHigh] = τ from hτ.symm]
  refine EWcall_pure (isName_ev _ hx.le) ?_
  rcases hc : rightF 1 x.name
  · rw [show isNameF x.name = false from hc] at hE
    rw [hE]
    simp [go_sem, hK]
  rw [show isNameF x.name = true from hc] at hE
  simp [go_sem, hg1, typesC, edgesA, show (i : Int) ≤ t.edges.length by omega, show i ≤ t.edges.length by omega]
  refine EWcall_frz (iContainsFuncEdgeType_ev 149 [.iptr (edgeC x)] (fun y => y.name == x.name) (fun a => edgeName_ev a x) (t.edges.take i) (by rw [List.length_take]; omega)) rfl ?_ ?_
  · have e1 := takeF (f := edgeC) (sz := 7) (fun _ => rfl) t.edges i
    simp [go_sem, e1, Nat.min_eq_left (Nat.le_of_lt hi)]
    exact ⟨(edges_data _).frz, frz_ptr (Nat.zero_le _) hg2 (edgeC_data x)⟩
  rcases hd : (t.edges.take i).any fun m => m.name == x.name
  · rw [hd] at hE
    simp [go_sem, hg2, edgeC]
    have hin : ∀ n : Int, CallA Tryz.prog 147 [.int n, .ptr σ.next 0] τ fun y σ' => y = .bool (decide (0 ≤ n) && decide (n < t.nodes.length)) ∧ σ' = τ := fun n =>
      callA_frz_args (edgeIn_ev t n) rfl (by
        simp [go_sem]
        exact frz_ptr (Nat.zero_le _) hg1 (typesC_data t))
    refine EWcall_of (hin _) ?_
    rintro y τ' ⟨rfl, rfl⟩
    rcases h1 : decide (0 ≤ x.src) && decide (x.src < t.nodes.length)
    · rw [h1] at hE
      simp at hE
      simp [go_sem, hE, hK]
    rw [h1] at hE
    simp [go_sem, hg2, edgeC]
    refine EWcall_of (hin _) ?_
    rintro y τ' ⟨rfl, rfl⟩
    rcases h2 : decide (0 ≤ x.tgt) && decide (x.tgt < t.nodes.length)
    · rw [h2] at hE
      simp at hE
      simp [go_sem, hE, hK]
    rw [h2] at hE
    simp [go_sem, hg2, edgeC]
    refine EWcall_pure (bounded_ev _ _) ?_
    rcases h3 : boundF x.outLow x.outHigh
    · rw [h3] at hE
      simp at hE
      simp [go_sem, hE, hK]
    rw [h3] at hE
    simp [go_sem, hg2, edgeC]
    refine EWcall_pure (bounded_ev _ _) ?_
    rcases h4 : boundF x.inLow x.inHigh
    · rw [h4] at hE
      simp at hE
      simp [go_sem, hE, hK]
    rw [h4] at hE
    simp at hE
    simp [go_sem, hE, hK]
  · rw [hd] at hE
    simp at hE
    simp [go_sem, hE, hK]
end Go.Proofs.YtippinddoldhkaaGreat
namespace Go.Proofs.YtippinddoldhkaaGreat
open Go Go.Ew Go.Proofs Go.RowKit
set_option maxRecDepth 10000
def okUpto (ns : List NodeT) (a : Nat) : Prop := ∀ j, j ≤ a → -1 ≤ (nth ns j).parent ∧ (nth ns j).parent < j ∧ (nth ns j).attrs.length ≤ 4
theorem attrsG_neg (ns : List NodeT) (f : Nat) (a : Int) (h : a < 0) : attrsG ns f a = [] := by
  cases f with
  | zero => rfl
  | succ f => rw [attrsG, if_pos h]
theorem attrsG_fuel (ns : List NodeT) : ∀ (f a : Nat), okUpto ns a → a < f → attrsG ns f a = attrsF ns a
  | 0, _, _, h => by omega
  | f + 1, a, hok, h => by
    unfold attrsF
    rw [attrsG, attrsG, if_neg (by omega), if_neg (by omega)]
    obtain ⟨h1, h2, _⟩ := hok a (Nat.le_refl _)
    simp only [Int.toNat_natCast]
    by_cases hp : (nth ns a).parent < 0
    · rw [attrsG_neg _ _ _ hp, attrsG_neg _ _ _ hp]
    · obtain ⟨p, hpp⟩ : ∃ p : Nat, (nth ns a).parent = p := ⟨(nth ns a).parent.toNat, by omega⟩
      rw [hpp, attrsG_fuel ns f p (fun j hj => hok j (by omega)) (by omega)]
      by_cases hf : f = a
      · subst hf; rw [attrsG_fuel ns f p (fun j hj => hok j (by omega)) (by omega)]
      · rw [attrsG_fuel ns a p (fun j hj => hok j (by omega)) (by omega)]
theorem attrsF_neg {ns : List NodeT} {a : Nat} (hp : (nth ns a).parent < 0) : attrsF ns a = (nth ns a).attrs := by
  unfold attrsF
  rw [attrsG, if_neg (by omega)]
  simp only [Int.toNat_natCast]
  rw [attrsG_neg _ _ _ hp, List.nil_append]
theorem attrsF_pos {ns : List NodeT} {a p : Nat} (hok : okUpto ns a) (hp : (nth ns a).parent = p) : attrsF ns a = attrsF ns p ++ (nth ns a).attrs := by
  have h2 := (hok a (Nat.le_refl _)).2.1
  conv => lhs; unfold attrsF
  rw [attrsG, if_neg (by omega)]
  simp only [Int.toNat_natCast]
  rw [hp, attrsG_fuel ns a p (fun j hj => hok j (by omega)) (by omega)]
theorem attrsF_len (ns : List NodeT) : ∀ (a : Nat), okUpto ns a → (attrsF ns a).length ≤ 4 * (a + 1) := by
  intro a
  induction a using Nat.strongRecOn with
  | _ a ih =>
    intro hok
    obtain ⟨h1, h2, h3⟩ := hok a (Nat.le_refl _)
    by_cases hp : (nth ns a).parent < 0
    · rw [attrsF_neg hp]; omega
    · obtain ⟨p, hpp⟩ : ∃ p : Nat, (nth ns a).parent = p := ⟨(nth ns a).parent.toNat, by omega⟩
      have := ih p (by omega) (fun j hj => hok j (by omega))
      rw [attrsF_pos hok hpp, List.length_append]
      omega
theorem attrsF_wf (ns : List NodeT) (hw : ∀ n ∈ ns, wfNode n) : ∀ (a : Nat), a < ns.length → okUpto ns a → ∀ x ∈ attrsF ns a, wfAttr x := by
  intro a
  induction a using Nat.strongRecOn with
  | _ a ih =>
    intro hl hok x hx
    obtain ⟨h1, h2, h3⟩ := hok a (Nat.le_refl _)
    have hn := hw _ (nth_mem ns a hl)
    by_cases hp : (nth ns a).parent < 0
    · rw [attrsF_neg hp] at hx; exact hn.2.2 x hx
    · obtain ⟨p, hpp⟩ : ∃ p : Nat, (nth ns a).parent = p := ⟨(nth ns a).parent.toNat, by omega⟩
      rw [attrsF_pos hok hpp] at hx
      rcases List.mem_append.1 hx with hx | hx
      · exact ih p (by omega) (by omega) (fun j hj => hok j (by omega)) x hx
      · exact hn.2.2 x hx
theorem attrsFlat_len (l : List Attr) : (l.flatMap attrC).length = l.length * 4 := length_flatMap (f := attrC) (sz := 4) (fun _ => rfl) l
theorem attrs_ev (t : Types) (h12 : t.nodes.length ≤ 12) : ∀ (a : Nat), a < t.nodes.length → okUpto t.nodes a → ∀ σ, CallA Tryz.prog 134 [typesA t, .int a] σ fun x σ' =>
    ArrAt σ.next σ' x 95 ((attrsF t.nodes a).flatMap attrC) (attrsF t.nodes a).length 4 ∧ Keeps σ σ' ∧ σ.next ≤ σ'.next := by
  intro a
  induction a using Nat.strongRecOn with
  | _ a ih =>
    intro hl hok σ
    obtain ⟨h1, h2, h3⟩ := hok a (Nat.le_refl _)
    have d := drop_node t.nodes a hl
    refine callA_of Tryz.func134 rfl (by kernel_rfl) ?_
    simp [go_sem, Tryz.results134, Tryz.ntmps134, typesA]
    have hK : Keeps σ (σ.alloc 35 (typesC t)) := by rw [keeps_alloc _ _ (Nat.le_refl _)]; exact Keeps.refl _
    have hg : (σ.alloc 35 (typesC t)).get σ.next = some (typesC t) := by simp [get_alloc]
    have hN : (σ.alloc 35 (typesC t)).next = σ.next + 1 := rfl
    have hF : (nth t.nodes a).parent < 0 → attrsF t.nodes a = (nth t.nodes a).attrs := fun h => attrsF_neg h
    have hG : ∀ p : Nat, (nth t.nodes a).parent = p → attrsF t.nodes a = attrsF t.nodes p ++ (nth t.nodes a).attrs := fun p h => attrsF_pos hok h
    generalize attrsF t.nodes a = out at hF hG ⊢
    generalize hn : nth t.nodes a = n at *
    generalize σ.alloc 35 (typesC t) = τ at hK hg hN ⊢
    simp [go_sem, hg, typesC, nodesA, hl, d, nodeC]
    by_cases hp : n.parent < 0
    · rw [hF hp]
      have hlen := attrsFlat_len n.attrs
      simp [go_sem, show ¬ (0 : Int) ≤ n.parent by omega, hg, typesC, nodesA, hl, d, nodeC, attrsA, hlen]
      by_cases h0 : n.attrs = []
      · simp [go_sem, h0]
        exact ⟨.inl ⟨rfl, rfl, rfl⟩, hK, by omega⟩
      · simp [go_sem, h0, show n.attrs.length ≤ 9223372036854775807 by omega, show n.attrs.length * 56 ≤ 140737488355328 by omega]
        refine ⟨.inr ⟨τ.next, rfl, by simp [get_alloc], by simp [ty_alloc], by omega, by simp [next_alloc]⟩, ?_, by omega⟩
        rw [keeps_alloc _ _ (by omega)]; exact hK
    · obtain ⟨p, hpp⟩ : ∃ p : Nat, n.parent = p := ⟨n.parent.toNat, by omega⟩
      rw [hG p hpp]
      have hlen := attrsFlat_len n.attrs
      have hlp := attrsF_len t.nodes p (fun j hj => hok j (by omega))
      simp [go_sem, hpp, hg, typesC]
      refine EWcall_of (ih p (by omega) (by omega) (fun j hj => hok j (by omega)) τ) ?_
      rintro x τ2 ⟨hx, hK2, hN2⟩
      have hlq := attrsFlat_len (attrsF t.nodes p)
      generalize attrsF t.nodes p = ps at *
      have hg2 : τ2.get σ.next = some (typesC t) := by rw [hK2 σ.next (by omega)]; exact hg
      have hK3 : Keeps σ τ2 := hK.trans hK2 (by omega)
      rcases hx with ⟨rfl, e1, e2⟩ | ⟨id, rfl, hgi, hti, hid, hidl⟩
      · have : ps = [] := List.eq_nil_of_length_eq_zero e1
        subst this
        simp [go_sem, hg2, typesC, nodesA, hl, d, nodeC, attrsA, hlen]
        by_cases h0 : n.attrs = []
        · simp [go_sem, h0]
          exact ⟨.inl ⟨rfl, rfl, rfl⟩, hK3, by omega⟩
        · simp [go_sem, h0, show n.attrs.length ≤ 9223372036854775807 by omega, show n.attrs.length * 56 ≤ 140737488355328 by omega]
          refine ⟨.inr ⟨τ2.next, rfl, by simp [get_alloc], by simp [ty_alloc], by omega, by simp [next_alloc]⟩, ?_, by omega⟩
          rw [keeps_alloc _ _ (by omega)]; exact hK3
      · have hT : (ps.flatMap attrC).take (ps.length * 4) = ps.flatMap attrC := List.take_of_length_le (by omega)
        simp [go_sem, hg2, typesC, nodesA, hl, d, nodeC, attrsA, hlen, hgi, hti, hlq, show ps.length + n.attrs.length ≤ 9223372036854775807 by omega, show (ps.length + n.attrs.length) * 56 ≤ 140737488355328 by omega]
        refine ⟨.inr ⟨τ2.next, rfl, by simp [get_alloc, next_kill, hT], by simp [ty_alloc, next_kill], by omega, by simp [next_alloc, next_kill]⟩, ?_, by omega⟩
        intro j hj
        simp [get_alloc, get_kill, next_kill, show j ≠ τ2.next by omega, show j ≠ id by omega]
        exact hK3 j hj
theorem attrs_pure (t : Types) (h12 : t.nodes.length ≤ 12) (a : Nat) (hl : a < t.nodes.length) (hok : okUpto t.nodes a) : PureA Tryz.prog 134 [typesA t, .int a] (attrsA (attrsF t.nodes a)) :=
  fun σ => callA_frz ((attrs_ev t h12 a hl hok σ).mono fun x σ' ⟨h1, h2, _⟩ => ⟨h1.frz (attrs_data _), h2⟩)
end Go.Proofs.YtippinddoldhkaaGreat
namespace Go.Proofs.YtippinddoldhkaaGreat
open Go Go.Ew Go.Proofs Go.RowKit
set_option maxRecDepth 10000
theorem nodeF_ok {ns : List NodeT} {j : Nat} (h : nodeF ns j = 0) : -1 ≤ (nth ns j).parent ∧ (nth ns j).parent < j ∧ (nth ns j).attrs.length ≤ 4 := by
  unfold nodeF at h
  split at h
  · cases h
  split at h
  · cases h
  split at h
  · cases h
  · rename_i h1
    split at h
    · cases h
    · rename_i h2
      omega
theorem attribute_take (x : Attr) (l : List Attr) (k : Nat) (hk : k ≤ l.length) (hx : wfAttr x) (hb : l.length ≤ 140737488351232) : PureA Tryz.prog 146 [.agg (attrC x), .imm k ((l.flatMap attrC).take (k * 4))] (.int (attributeF x (l.take k))) := by
  have := attribute_ev x (l.take k) hx (by rw [List.length_take]; omega)
  unfold attrsA at this
  rwa [List.length_take, Nat.min_eq_left hk, ← takeF (f := attrC) (sz := 4) (fun _ => rfl)] at this
def NoInv (t : Types) (all : List Attr) (D : Nat) (σ0 σ : Mem) (n : Nat) (fr : Fr) (τ : Mem) : Prop :=
  ∃ k : Nat, k ≤ all.length ∧ n = all.length - k ∧ attrsErr (all.take k) (all.drop k) = D ∧ fr 6 = attrsA all ∧ fr 7 = .int k ∧ τ = σ
theorem node_ev (t : Types) (ht : wfTypes t) (h12 : t.nodes.length ≤ 12) (i : Nat) (hi : i < t.nodes.length) (hprev : ∀ j, j < i → nodeF t.nodes j = 0) : PureA Tryz.prog 101 [typesA t, .int i] (.int (nodeF t.nodes i)) := by
  refine pureA_of Tryz.func101 rfl (by kernel_rfl) (fun σ => ?_)
  have hx := ht.2.2.1 _ (nth_mem t.nodes i hi)
  have d := drop_node t.nodes i hi
  have hneq := nth_eq t.nodes i hi
  have hE : nodeF t.nodes i = if !isNameF (nth t.nodes i).name then 2 else if (t.nodes.take i).any (fun m => m.name == (nth t.nodes i).name) then 5 else if (nth t.nodes i).parent < -1 ∨ (i : Int) ≤ (nth t.nodes i).parent then 6
      else if 4 < (nth t.nodes i).attrs.length then 3 else if 8 < (attrsF t.nodes i).length then 3
      else attrsErr ((attrsF t.nodes i).take ((attrsF t.nodes i).length - (nth t.nodes i).attrs.length)) (nth t.nodes i).attrs := rfl
  have hok : -1 ≤ (nth t.nodes i).parent → (nth t.nodes i).parent < i → (nth t.nodes i).attrs.length ≤ 4 → okUpto t.nodes i := fun h1 h2 h3 j hj => by
    by_cases e : j = i
    · subst e; exact ⟨h1, h2, h3⟩
    · exact nodeF_ok (hprev j (by omega))
  have happ : okUpto t.nodes i → ∃ pre, attrsF t.nodes i = pre ++ (nth t.nodes i).attrs := fun h => by
    by_cases hp : (nth t.nodes i).parent < 0
    · exact ⟨[], by rw [attrsF_neg hp]; rfl⟩
    · exact ⟨_, attrsF_pos h (p := (nth t.nodes i).parent.toNat) (by omega)⟩
  have hwf : okUpto t.nodes i → ∀ x ∈ attrsF t.nodes i, wfAttr x := fun h => attrsF_wf t.nodes ht.2.2.1 i hi h
  have hcall : okUpto t.nodes i → PureA Tryz.prog 134 [typesA t, .int i] (attrsA (attrsF t.nodes i)) := fun h => attrs_pure t h12 i hi h
  generalize nodeF t.nodes i = D at hE ⊢
  generalize attrsF t.nodes i = all at *
  generalize nth t.nodes i = x at *
  obtain ⟨τ, hτ⟩ : ∃ τ, τ = ((σ.alloc 35 (typesC t)).alloc 92 [.str [], .int 0, .bool false, .nils]).set (σ.next + 1) (nodeC x) := ⟨_, rfl⟩
  have hK : Keeps σ τ := by
    intro j hj
    rw [hτ]
    simp [get_set, get_alloc, next_alloc, show ¬ j = σ.next by omega, show ¬ j = σ.next + 1 by omega]
  have hg1 : τ.get σ.next = some (typesC t) := by rw [hτ]; simp [get_set, get_alloc, next_alloc]
  have hg2 : τ.get (σ.next + 1) = some (nodeC x) := by rw [hτ]; simp [get_set, get_alloc, next_alloc]
  simp [go_sem, Tryz.results101, Tryz.ntmps101, typesA, typesC, nodesA, hi, d, nodeC, get_alloc, get_set]
  rw [show ((σ.alloc 35 [AV.imm t.nodes.length (List.flatMap nodeC t.nodes), edgesA t.edges]).alloc 92 [AV.lit (Value.string ⟨#[]⟩), AV.lit (Value.int IntKind.i64 0), AV.lit (Value.bool false), AV.nils]).set (σ.next + 1) [AV.str x.name, AV.int x.parent, AV.bool x.abst, attrsA x.attrs] = τ from hτ.symm]
  refine EWcall_pure (isName_ev _ hx.1.le) ?_
  rcases hc : rightF 1 x.name
  · rw [show isNameF x.name = false from hc] at hE
    rw [hE]
    simp [go_sem, hK]
  rw [show isNameF x.name = true from hc] at hE
  simp [go_sem, hg1, typesC, nodesA, show (i : Int) ≤ t.nodes.length by omega, show i ≤ t.nodes.length by omega]
  refine EWcall_frz (iContainsFuncNodeType_ev 145 [.iptr (nodeC x)] (fun y => y.name == x.name) (fun a => nodeName_ev a x) (t.nodes.take i) (by rw [List.length_take]; omega)) rfl ?_ ?_
  · have e1 := takeF (f := nodeC) (sz := 4) (fun _ => rfl) t.nodes i
    simp [go_sem, e1, Nat.min_eq_left (Nat.le_of_lt hi)]
    exact ⟨(nodes_data _).frz, frz_ptr (Nat.zero_le _) hg2 (nodeC_data x)⟩
  rcases hd : (t.nodes.take i).any fun m => m.name == x.name
  · rw [hd] at hE
    simp [go_sem, hg2, nodeC]
    by_cases hp1 : x.parent < -1
    · simp [hp1] at hE
      simp [go_sem, hp1, hE, hK]
    by_cases hp2 : (i : Int) ≤ x.parent
    · simp [hp2] at hE
      simp [go_sem, hp1, hp2, hE, hK, hg2, nodeC]
    simp only [hp1, hp2, or_self, if_false, Bool.not_true, Bool.false_eq_true] at hE
    simp [go_sem, hp1, hp2, hg2, nodeC, attrsA]
    by_cases ha4 : 4 < x.attrs.length
    · rw [if_pos ha4] at hE
      simp [go_sem, show (4 : Int) < x.attrs.length by omega, hE, hK]
    rw [if_neg ha4] at hE
    have hok' := hok (by omega) (by omega) (by omega)
    obtain ⟨pre, hpre⟩ := happ hok'
    have hwf' := hwf hok'
    simp [go_sem, show ¬ (4 : Int) < x.attrs.length by omega, hg1, typesC]
    refine EWcall_pure (hcall hok') ?_
    by_cases ha8 : 8 < all.length
    · rw [if_pos ha8] at hE
      simp [go_sem, attrsA, show (8 : Int) < all.length by omega, hE, hK]
    rw [if_neg ha8] at hE
    have hle : x.attrs.length ≤ all.length := by rw [hpre]; simp
    have hdrop : all.drop (all.length - x.attrs.length) = x.attrs := by
      rw [hpre, List.length_append, Nat.add_sub_cancel, List.drop_left]
    obtain ⟨k0, hk0⟩ : ∃ k0, k0 = all.length - x.attrs.length := ⟨_, rfl⟩
    have hwk : IntKind.i64.wrap ((all.length : Int) - (x.attrs.length : Int)) = (k0 : Int) := by rw [wrap64_of _ (by omega) (by omega)]; omega
    rw [← hk0] at hE hdrop
    simp [go_sem, attrsA, show ¬ (8 : Int) < all.length by omega, hg2, nodeC, hwk]
    refine EW_loop (NoInv t all D σ τ) (all.length - k0) ⟨k0, by omega, rfl, by rw [hdrop]; exact hE.symm, by simp [go_sem, attrsA], by simp [go_sem], rfl⟩ ?_
    rintro n fr τ' ⟨k, hk, rfl, hR, h6, h7, rfl⟩
    simp [go_sem, h6, h7, attrsA]
    by_cases hlt : k < all.length
    · have hwi : IntKind.i64.wrap ((k : Int) + 1) = ((k + 1 : Nat) : Int) := by rw [wrap64_of _ (by omega) (by omega)]; rfl
      have dk := drop_attr all k hlt
      rw [drop_nth all k hlt, attrsErr] at hR
      have hy := hwf' _ (nth_mem all k hlt)
      have htk := take_nth all k hlt
      generalize nth all k = y at *
      simp [go_sem, hlt]
      refine EW_regionD (by kernel_rfl) (by kernel_rfl) ?_
      simp [go_sem, h6, h7, attrsA, hlt, dk, attrC, show (k : Int) ≤ all.length by omega, hk]
      refine EWqcall_pure (attribute_take y all k hk hy (by omega)) rfl ?_
      by_cases hz : attributeF y (all.take k) = 0
      · simp only [hz, ne_eq, not_true_eq_false, if_false] at hR
        simp [go_sem, hz, h7]
        exact ⟨all.length - (k + 1), by omega, k + 1, by omega, rfl, by rw [htk]; exact hR, by simp [go_sem, h6], by simp [go_sem]; exact hwi, rfl⟩
      · rw [if_pos hz] at hR
        rw [← hR]
        simp [go_sem, hz, hK]
    · have : k = all.length := by omega
      subst this
      rw [List.drop_length, attrsErr] at hR
      rw [← hR]
      simp [go_sem, hK]
  · rw [hd] at hE
    simp at hE
    simp [go_sem, hE, hK]
end Go.Proofs.YtippinddoldhkaaGreat
namespace Go.Proofs.YtippinddoldhkaaGreat
open Go Go.Ew Go.Proofs Go.RowKit
set_option maxRecDepth 10000
theorem firstErr_some (f : Nat → Nat) : ∀ (k n s : Nat), k < n → (∀ j, s ≤ j → j < s + k → f j = 0) → f (s + k) ≠ 0 → firstErr f n s = some (s + k)
  | 0, n, s, hk, _, h => by
    obtain ⟨m, rfl⟩ : ∃ m, n = m + 1 := ⟨n - 1, by omega⟩
    rw [firstErr, if_pos (by simpa using h)]
    rfl
  | k + 1, n, s, hk, hz, h => by
    obtain ⟨m, rfl⟩ : ∃ m, n = m + 1 := ⟨n - 1, by omega⟩
    rw [firstErr, if_neg (by rw [hz s (Nat.le_refl _) (by omega)]; simp), firstErr_some f k m (s + 1) (by omega) (fun j h1 h2 => hz j (by omega) (by omega)) (by rw [show s + 1 + k = s + (k + 1) by omega]; exact h)]
    congr 1
    omega
theorem firstErr_none (f : Nat → Nat) : ∀ (n s : Nat), (∀ j, s ≤ j → j < s + n → f j = 0) → firstErr f n s = none
  | 0, _, _ => rfl
  | n + 1, s, h => by
    rw [firstErr, if_neg (by rw [h s (Nat.le_refl _) (by omega)]; simp)]
    exact firstErr_none f n (s + 1) fun j h1 h2 => h j (by omega) (by omega)
def validD (t : Types) : AV := .tup [.str (validF t).1, .int (validF t).2]
def V1Inv (t : Types) (σ : Mem) (n : Nat) (fr : Fr) (τ : Mem) : Prop :=
  ∃ i : Nat, i ≤ t.nodes.length ∧ n = t.nodes.length - i ∧ (∀ j, j < i → nodeF t.nodes j = 0) ∧ fr 1 = .ptr σ.next 0 ∧ fr 27 = nodesA t.nodes ∧ fr 28 = .int t.nodes.length ∧ fr 29 = .int i ∧ τ.get σ.next = some (typesC t) ∧ Keeps σ τ ∧ σ.next < τ.next
def V2Inv (t : Types) (σ : Mem) (n : Nat) (fr : Fr) (τ : Mem) : Prop :=
  ∃ i : Nat, i ≤ t.edges.length ∧ n = t.edges.length - i ∧ (∀ j, j < i → edgeF t j = 0) ∧ fr 1 = .ptr σ.next 0 ∧ fr 44 = edgesA t.edges ∧ fr 45 = .int t.edges.length ∧ fr 46 = .int i ∧ τ.get σ.next = some (typesC t) ∧ Keeps σ τ ∧ σ.next < τ.next
theorem valid_ev (t : Types) (ht : wfTypes t) : PureA Tryz.prog 49 [typesA t] (validD t) := by
  refine pureA_of Tryz.func49 rfl (by kernel_rfl) (fun σ => ?_)
  have hV : validF t = if t.nodes.length = 0 then ([], 7) else if 12 < t.nodes.length ∨ 20 < t.edges.length then ([], 3) else match firstErr (nodeF t.nodes) t.nodes.length 0 with
    | some i => ((nth t.nodes i).name, nodeF t.nodes i)
    | none => match firstErr (edgeF t) t.edges.length 0 with
      | some i => ((nth t.edges i).name, edgeF t i)
      | none => ([], 0) := rfl
  unfold validD
  generalize validF t = D at hV ⊢
  have hK : Keeps σ (σ.alloc 35 (typesC t)) := by rw [keeps_alloc _ _ (Nat.le_refl _)]; exact Keeps.refl _
  have hg : (σ.alloc 35 (typesC t)).get σ.next = some (typesC t) := by simp [get_alloc]
  have hN : (σ.alloc 35 (typesC t)).next = σ.next + 1 := rfl
  simp [go_sem, Tryz.results49, Tryz.ntmps49, typesA]
  generalize σ.alloc 35 (typesC t) = τ at hK hg hN ⊢
  simp [go_sem, hg, typesC, nodesA]
  by_cases h0 : t.nodes.length = 0
  · rw [if_pos h0] at hV
    have : t.nodes = [] := List.eq_nil_of_length_eq_zero h0
    simp [go_sem, this, hV, hK]
  rw [if_neg h0] at hV
  have hne : ¬ t.nodes = [] := fun e => h0 (by rw [e]; rfl)
  simp [go_sem, hne, hg, typesC, nodesA]
  by_cases h12 : 12 < t.nodes.length
  · rw [if_pos (.inl h12)] at hV
    simp [go_sem, show (12 : Int) < t.nodes.length by omega, hV, hK]
  by_cases h20 : 20 < t.edges.length
  · rw [if_pos (.inr h20)] at hV
    simp [go_sem, show ¬ (12 : Int) < t.nodes.length by omega, show (20 : Int) < t.edges.length by omega, hV, hK, hg, typesC, edgesA]
  rw [if_neg (by omega)] at hV
  simp [go_sem, show ¬ (12 : Int) < t.nodes.length by omega, show ¬ (20 : Int) < t.edges.length by omega, hg, typesC, nodesA, edgesA]
  refine EW_loop (V1Inv t σ) t.nodes.length ⟨0, by omega, by omega, fun j hj => by omega, by simp [go_sem], by simp [go_sem, nodesA], by simp [go_sem], by simp [go_sem], hg, hK, by omega⟩ ?_
  rintro n fr τ1 ⟨i, hi, rfl, hz, f1, f27, f28, f29, hg1, hK1, hN1⟩
  simp [go_sem, f28, f29]
  by_cases hlt : i < t.nodes.length
  · have hwi : IntKind.i64.wrap ((i : Int) + 1) = ((i + 1 : Nat) : Int) := by rw [wrap64_of _ (by omega) (by omega)]; rfl
    have d := drop_node t.nodes i hlt
    obtain ⟨τ2, hτ2⟩ : ∃ τ2, τ2 = (τ1.alloc 92 [.str [], .int 0, .bool false, .nils]).set τ1.next (nodeC (nth t.nodes i)) := ⟨_, rfl⟩
    have hK2 : Keeps σ τ2 := by rw [hτ2, keeps_set _ _ (by omega), keeps_alloc _ _ (by omega)]; exact hK1
    have hg2 : τ2.get σ.next = some (typesC t) := by rw [hτ2]; simp [get_set, get_alloc, show ¬ σ.next = τ1.next by omega]; exact hg1
    have hg3 : τ2.get τ1.next = some (nodeC (nth t.nodes i)) := by rw [hτ2]; simp [get_set]
    have hN2 : σ.next < τ2.next := by rw [hτ2]; simp [next_set, next_alloc]; omega
    simp [go_sem, hlt, f1, f27, f29, nodesA, d, nodeC]
    rw [show (τ1.alloc 92 [AV.lit (Value.string ⟨#[]⟩), AV.lit (Value.int IntKind.i64 0), AV.lit (Value.bool false), AV.nils]).set τ1.next [AV.str (nth t.nodes i).name, AV.int (nth t.nodes i).parent, AV.bool (nth t.nodes i).abst, attrsA (nth t.nodes i).attrs] = τ2 from hτ2.symm]
    simp [go_sem, hg2, typesC]
    refine EWcall_pure (node_ev t ht (by omega) i hlt hz) ?_
    by_cases hE : nodeF t.nodes i = 0
    · simp [go_sem, hE, f29]
      exact ⟨t.nodes.length - (i + 1), by omega, i + 1, by omega, rfl, fun j hj => by
        by_cases e : j = i
        · rw [e]; exact hE
        · exact hz j (by omega), by simp [go_sem, f1], by simp [go_sem, f27], by simp [go_sem, f28], by simp [go_sem]; exact hwi, hg2, hK2, hN2⟩
    · have hs := firstErr_some (nodeF t.nodes) i t.nodes.length 0 hlt (fun j _ h => hz j (by omega)) (by rw [Nat.zero_add]; exact hE)
      rw [Nat.zero_add] at hs
      rw [hs] at hV
      simp [go_sem, hE, hg3, nodeC, hV, hK2]
  · have : i = t.nodes.length := by omega
    rw [firstErr_none (nodeF t.nodes) t.nodes.length 0 (fun j _ h => hz j (by omega))] at hV
    simp only at hV
    simp [go_sem, hlt, f1, hg1, typesC, edgesA]
    refine EW_loop (V2Inv t σ) t.edges.length ⟨0, by omega, by omega, fun j hj => by omega, by simp [go_sem, f1], by simp [go_sem, edgesA], by simp [go_sem], by simp [go_sem], hg1, hK1, hN1⟩ ?_
    rintro n fr2 τ3 ⟨k, hk, rfl, hy, g1, g44, g45, g46, hg3, hK3, hN3⟩
    simp [go_sem, g45, g46]
    by_cases hlk : k < t.edges.length
    · have hwk : IntKind.i64.wrap ((k : Int) + 1) = ((k + 1 : Nat) : Int) := by rw [wrap64_of _ (by omega) (by omega)]; rfl
      have d := drop_edgeT t.edges k hlk
      obtain ⟨τ4, hτ4⟩ : ∃ τ4, τ4 = (τ3.alloc 97 [.str [], .int 0, .int 0, .int 0, .int 0, .int 0, .int 0]).set τ3.next (edgeC (nth t.edges k)) := ⟨_, rfl⟩
      have hK4 : Keeps σ τ4 := by rw [hτ4, keeps_set _ _ (by omega), keeps_alloc _ _ (by omega)]; exact hK3
      have hg4 : τ4.get σ.next = some (typesC t) := by rw [hτ4]; simp [get_set, get_alloc, show ¬ σ.next = τ3.next by omega]; exact hg3
      have hg5 : τ4.get τ3.next = some (edgeC (nth t.edges k)) := by rw [hτ4]; simp [get_set]
      have hN4 : σ.next < τ4.next := by rw [hτ4]; simp [next_set, next_alloc]; omega
      simp [go_sem, hlk, g1, g44, g46, edgesA, d, edgeC]
      rw [show (τ3.alloc 97 [AV.lit (Value.string ⟨#[]⟩), AV.lit (Value.int IntKind.i64 0), AV.lit (Value.int IntKind.i64 0), AV.lit (Value.int IntKind.i64 0), AV.lit (Value.int IntKind.i64 0), AV.lit (Value.int IntKind.i64 0), AV.lit (Value.int IntKind.i64 0)]).set τ3.next [AV.str (nth t.edges k).name, AV.int (nth t.edges k).src, AV.int (nth t.edges k).tgt, AV.int (nth t.edges k).outLow, AV.int (nth t.edges k).outHigh, AV.int (nth t.edges k).inLow, AV.int (nth t.edges k).inHigh] = τ4 from hτ4.symm]
      simp [go_sem, hg4, typesC]
      refine EWcall_pure (edgeFn_ev t k hlk ht) ?_
      by_cases hE : edgeF t k = 0
      · simp [go_sem, hE, g46]
        exact ⟨t.edges.length - (k + 1), by omega, k + 1, by omega, rfl, fun j hj => by
          by_cases e : j = k
          · rw [e]; exact hE
          · exact hy j (by omega), by simp [go_sem, g1], by simp [go_sem, g44], by simp [go_sem, g45], by simp [go_sem]; exact hwk, hg4, hK4, hN4⟩
      · have hs := firstErr_some (edgeF t) k t.edges.length 0 hlk (fun j _ h => hy j (by omega)) (by rw [Nat.zero_add]; exact hE)
        rw [Nat.zero_add] at hs
        rw [hs] at hV
        simp [go_sem, hE, hg5, edgeC, hV, hK4]
    · rw [firstErr_none (edgeF t) t.edges.length 0 (fun j _ h => hy j (by omega))] at hV
      simp [go_sem, hlk, hV, hK3]
end Go.Proofs.YtippinddoldhkaaGreat
namespace Go.Proofs.YtippinddoldhkaaGreat
open Go Go.Ew Go.Proofs Go.RowKit
set_option maxRecDepth 10000
theorem outside_ev (t : Types) (n : Int) : PureA Tryz.prog 173 [.int n, .iptr (typesC t)] (.bool (decide (n < 0) || decide ((t.nodes.length : Int) ≤ n))) := by
  refine pureA_of Tryz.func173 rfl (by kernel_rfl) (fun σ => ?_)
  simp [go_sem, Tryz.results173, Tryz.ntmps173, typesC, nodesA]
  rcases h1 : decide (n < 0)
  · simp [go_sem, nodesA]
  · simp [go_sem]
def givenF (t : Types) (l : List Int) : Nat := if (validF t).2 ≠ 0 then (validF t).2 else if l.any (fun n => decide (n < 0) || decide ((t.nodes.length : Int) ≤ n)) then 6 else 0
theorem given_ev (t : Types) (ht : wfTypes t) (l : List Int) (hl : l.length ≤ 4611686018427387904) : PureA Tryz.prog 133 [typesA t, intsA l] (.int (givenF t l)) := by
  refine pureA_of Tryz.func133 rfl (by kernel_rfl) (fun σ => ?_)
  have hK : Keeps σ (σ.alloc 35 (typesC t)) := by rw [keeps_alloc _ _ (Nat.le_refl _)]; exact Keeps.refl _
  have hg : (σ.alloc 35 (typesC t)).get σ.next = some (typesC t) := by simp [get_alloc]
  unfold givenF
  simp [go_sem, Tryz.results133, Tryz.ntmps133, typesA]
  generalize σ.alloc 35 (typesC t) = τ at hK hg ⊢
  simp [go_sem, hg, typesC]
  refine EWcall_pure (valid_ev t ht) ?_
  by_cases hv : (validF t).2 = 0
  · simp [go_sem, validD, hv]
    refine EWcall_frz (iContainsFuncInt_ev 173 [.iptr (typesC t)] (fun n => decide (n < 0) || decide ((t.nodes.length : Int) ≤ n)) (fun n => outside_ev t n) l hl) rfl ?_ ?_
    · simp [go_sem, intsA]
      exact ⟨(ints_data _).frz, frz_ptr (Nat.zero_le _) hg (typesC_data t)⟩
    · rcases hd : l.any fun n => decide (n < 0) || decide ((t.nodes.length : Int) ≤ n)
      · simp only [List.any_eq_false] at hd
        simp [go_sem, hK]
        intro n hn
        have := hd n hn
        simp at this
        omega
      · simp only [List.any_eq_true] at hd
        obtain ⟨n, hn, h⟩ := hd
        simp at h
        have : ∃ x, x ∈ l ∧ (x < 0 ∨ (t.nodes.length : Int) ≤ x) := ⟨n, hn, h⟩
        simp [go_sem, hK, this]
  · simp [go_sem, validD, hv, hK]

/-! ### slices.Reverse -/
theorem splice_set {α : Type} (cs : List α) (i : Nat) (x : α) (h : i < cs.length) : cs.take i ++ x :: cs.drop (i + 1) = cs.set i x := by
  rw [List.set_eq_take_append_cons_drop, if_pos h]
def rvF (l : List Int) (i k : Nat) : Int := if k < i ∨ l.length - 1 - i < k then nth l (l.length - 1 - k) else nth l k
def rvL (l : List Int) (i : Nat) : List AV := (List.range l.length).map fun k => AV.int (rvF l i k)
theorem rvL_get (l : List Int) (i k : Nat) (h : k < l.length) : (rvL l i)[k]? = some (AV.int (rvF l i k)) := by
  unfold rvL
  rw [List.getElem?_map, List.getElem?_range h]
  rfl
theorem rvL_len (l : List Int) (i : Nat) : (rvL l i).length = l.length := by simp [rvL]
theorem rvL_zero (l : List Int) : rvL l 0 = l.map AV.int := by
  apply List.ext_getElem?
  intro k
  by_cases h : k < l.length
  · rw [rvL_get l 0 k h, getM AV.int l k h, rvF, if_neg (by omega)]
  · rw [List.getElem?_eq_none (by rw [rvL_len]; omega), List.getElem?_eq_none (by simp; omega)]
theorem rvL_end (l : List Int) (i : Nat) (hi : l.length ≤ 2 * i + 1) : rvL l i = l.reverse.map AV.int := by
  apply List.ext_getElem?
  intro k
  by_cases h : k < l.length
  · rw [rvL_get l i k h, List.getElem?_map, List.getElem?_reverse h, List.getElem?_eq_getElem (by omega), nth_eq l _ (by omega)]
    rw [Option.map_some, show rvF l i k = nth l (l.length - 1 - k) from by
      unfold rvF
      by_cases c : k < i ∨ l.length - 1 - i < k
      · rw [if_pos c]
      · rw [if_neg c, show l.length - 1 - k = k by omega]]
  · rw [List.getElem?_eq_none (by rw [rvL_len]; omega), List.getElem?_eq_none (by simp; omega)]
theorem rvL_step (l : List Int) (i j : Nat) (hij : i < j) (hj : i + j + 1 = l.length) : ((rvL l i).set i (AV.int (nth l j))).set j (AV.int (nth l i)) = rvL l (i + 1) := by
  apply List.ext_getElem?
  intro k
  by_cases h : k < l.length
  · rw [rvL_get l (i + 1) k h]
    by_cases e1 : k = j
    · subst e1
      rw [List.getElem?_set_self (by rw [List.length_set, rvL_len]; omega), show rvF l (i + 1) k = nth l i from by unfold rvF; rw [if_pos (by omega), show l.length - 1 - k = i by omega]]
    · rw [List.getElem?_set_ne (Ne.symm e1)]
      by_cases e2 : k = i
      · subst e2
        rw [List.getElem?_set_self (by rw [rvL_len]; omega), show rvF l (k + 1) k = nth l j from by unfold rvF; rw [if_pos (by omega), show l.length - 1 - k = j by omega]]
      · rw [List.getElem?_set_ne (Ne.symm e2), rvL_get l i k h, show rvF l i k = rvF l (i + 1) k from by
          unfold rvF
          by_cases c : k < i ∨ l.length - 1 - i < k
          · rw [if_pos c, if_pos (by omega)]
          · rw [if_neg c, if_neg (by omega)]]
  · rw [List.getElem?_eq_none (by rw [List.length_set, List.length_set, rvL_len]; omega), List.getElem?_eq_none (by rw [rvL_len]; omega)]
def RevInv (l : List Int) (id : Nat) (σ : Mem) (n : Nat) (fr : Fr) (τ : Mem) : Prop :=
  ∃ i : Nat, 2 * i ≤ l.length + 1 ∧ n = l.length + 1 - 2 * i ∧ fr 0 = .arr id 0 l.length 1 ∧ fr 2 = .int i ∧ fr 3 = .int ((l.length : Int) - 1 - i) ∧ τ.get id = some (rvL l i) ∧ τ.ty = σ.ty ∧ τ.next = σ.next ∧ ∀ k, k ≠ id → τ.get k = σ.get k
theorem reverse_ev {σ : Mem} {id : Nat} (l : List Int) (hl : l.length ≤ 1000000000) (hg : σ.get id = some (l.map AV.int)) :
    CallA Tryz.prog 211 [.arr id 0 l.length 1] σ fun x σ' => x = .tup [] ∧ σ'.get id = some (l.reverse.map AV.int) ∧ σ'.ty = σ.ty ∧ σ'.next = σ.next ∧ ∀ k, k ≠ id → σ'.get k = σ.get k := by
  refine callA_of Tryz.func211 rfl (by kernel_rfl) ?_
  have hw0 : IntKind.i64.wrap ((l.length : Int) - 1) = (l.length : Int) - 1 := wrap64_of _ (by omega) (by omega)
  simp [go_sem, Tryz.results211, Tryz.ntmps211, hw0]
  refine EW_loop (RevInv l id σ) (l.length + 1) ⟨0, by omega, by omega, by simp [go_sem], by simp [go_sem], by simp [go_sem], by rw [rvL_zero]; exact hg, rfl, rfl, fun _ _ => rfl⟩ ?_
  rintro n fr τ ⟨i, hi, rfl, h0, h2, h3, hgi, hty, hnx, hot⟩
  simp [go_sem, h2, h3]
  by_cases hlt : (i : Int) < (l.length : Int) - 1 - i
  · obtain ⟨j, hj⟩ : ∃ j : Nat, (l.length : Int) - 1 - i = j := ⟨l.length - 1 - i, by omega⟩
    have hij : i < j := by omega
    have hwi : IntKind.i64.wrap ((i : Int) + 1) = ((i + 1 : Nat) : Int) := by rw [wrap64_of _ (by omega) (by omega)]; rfl
    have hwj : IntKind.i64.wrap ((j : Int) - 1) = (l.length : Int) - 1 - ((i + 1 : Nat) : Int) := by rw [wrap64_of _ (by omega) (by omega)]; omega
    rw [hj] at h3 hlt ⊢
    have hgI := rvL_get l i i (by omega)
    have hgJ := rvL_get l i j (by omega)
    have eI : rvF l i i = nth l i := by unfold rvF; rw [if_neg (by omega)]
    have eJ : rvF l i j = nth l j := by unfold rvF; rw [if_neg (by omega)]
    rw [eI] at hgI
    rw [eJ] at hgJ
    have hlen := rvL_len l i
    simp [go_sem, hij]
    refine EW_regionE Mem.empty (by kernel_rfl) (by kernel_rfl) (by simp [go_sem]) (fun _ => ?_)
    have hgI' : (rvL l i)[i]'(by omega) = AV.int (nth l i) := (List.getElem?_eq_some_iff.1 hgI).2
    have hgJ' : (rvL l i)[j]'(by omega) = AV.int (nth l j) := (List.getElem?_eq_some_iff.1 hgJ).2
    have hst := rvL_step l i j hij (by omega)
    have hs1 := splice_set (rvL l i) i (AV.int (nth l j)) (by omega)
    have hs2 := splice_set ((rvL l i).set i (AV.int (nth l j))) j (AV.int (nth l i)) (by rw [List.length_set]; omega)
    simp [go_sem, h0, h2, h3, hgi, hgI, hgJ, hgI', hgJ', hlen, get_set, hs1, hs2, hst, show i < l.length by omega, show j < l.length by omega, show i + 1 ≤ l.length by omega, show j + 1 ≤ l.length by omega]
    exact ⟨l.length + 1 - 2 * (i + 1), by omega, i + 1, by omega, rfl, by simp [go_sem, h0], by simp [go_sem]; exact hwi, by simp [go_sem]; exact hwj, by simp [get_set], by rw [← hty]; rfl, by rw [← hnx]; rfl, fun k hk => by simp [get_set, hk]; exact hot k hk⟩
  · simp [go_sem, hlt]
    exact ⟨by rw [hgi, rvL_end l i (by omega)]; simp, hty, hnx, hot⟩
/-! ### line, is, Below -/
/-- A type and its supertypes, upwards ('f': fuel). -/
def chainG (ns : List NodeT) : Nat → Int → List Int
  | 0, _ => []
  | f + 1, a => if a < 0 then [] else a :: chainG ns f (nth ns a.toNat).parent
def chainF (ns : List NodeT) (a : Nat) : List Int := chainG ns (a + 1) a
def isF (ns : List NodeT) (a : Nat) (b : Int) : Bool := (chainF ns a).any fun c => decide (b = c)
def okAll (ns : List NodeT) : Prop := ∀ j, j < ns.length → -1 ≤ (nth ns j).parent ∧ (nth ns j).parent < j
theorem chainG_fuel (ns : List NodeT) (hok : okAll ns) : ∀ (f a : Nat), a < ns.length → a < f → chainG ns f a = chainF ns a
  | 0, _, _, h => by omega
  | f + 1, a, hl, h => by
    unfold chainF
    rw [chainG, chainG, if_neg (by omega), if_neg (by omega)]
    obtain ⟨h1, h2⟩ := hok a hl
    simp only [Int.toNat_natCast]
    congr 1
    by_cases hp : (nth ns a).parent < 0
    · have neg : ∀ f, chainG ns f (nth ns a).parent = [] := fun f => by
        cases f with
        | zero => rfl
        | succ f => rw [chainG, if_pos hp]
      rw [neg, neg]
    · obtain ⟨p, hpp⟩ : ∃ p : Nat, (nth ns a).parent = p := ⟨(nth ns a).parent.toNat, by omega⟩
      rw [hpp, chainG_fuel ns hok f p (by omega) (by omega)]
      by_cases hf : f = a
      · subst hf; rw [chainG_fuel ns hok f p (by omega) (by omega)]
      · rw [chainG_fuel ns hok a p (by omega) (by omega)]
theorem chainF_eq {ns : List NodeT} (hok : okAll ns) {a : Nat} (hl : a < ns.length) : chainF ns a = (a : Int) :: (if (nth ns a).parent < 0 then [] else chainF ns (nth ns a).parent.toNat) := by
  obtain ⟨h1, h2⟩ := hok a hl
  conv => lhs; unfold chainF
  rw [chainG, if_neg (by omega)]
  simp only [Int.toNat_natCast]
  congr 1
  by_cases hp : (nth ns a).parent < 0
  · rw [if_pos hp]
    cases a with
    | zero => rfl
    | succ a => rw [chainG, if_pos hp]
  · obtain ⟨p, hpp⟩ : ∃ p : Nat, (nth ns a).parent = p := ⟨(nth ns a).parent.toNat, by omega⟩
    rw [if_neg hp, hpp, Int.toNat_natCast, chainG_fuel ns hok a p (by omega) (by omega)]
theorem valid_okAll {t : Types} (h : (validF t).2 = 0) : okAll t.nodes ∧ t.nodes.length ≤ 12 ∧ t.edges.length ≤ 20 ∧ 0 < t.nodes.length := by
  unfold validF at h
  split at h
  · cases h
  rename_i h0
  split at h
  · cases h
  rename_i h1
  refine ⟨fun j hj => ?_, by omega, by omega, by omega⟩
  have hz : nodeF t.nodes j = 0 := by
    by_cases hz : ∃ i, i < t.nodes.length ∧ nodeF t.nodes i ≠ 0
    · exfalso
      obtain ⟨i, hi, hne⟩ := hz
      induction i using Nat.strongRecOn with
      | _ i ih =>
        by_cases hall : ∀ k, k < i → nodeF t.nodes k = 0
        · have hs := firstErr_some (nodeF t.nodes) i t.nodes.length 0 hi (fun k _ hk => hall k (by omega)) (by rw [Nat.zero_add]; exact hne)
          rw [hs, Nat.zero_add] at h
          exact hne h
        · have hex : ∃ k, k < i ∧ nodeF t.nodes k ≠ 0 := by
            by_cases e : ∃ k, k < i ∧ nodeF t.nodes k ≠ 0
            · exact e
            · exact absurd (fun k hk => by
                by_cases z : nodeF t.nodes k = 0
                · exact z
                · exact absurd ⟨k, hk, z⟩ e) hall
          obtain ⟨k, hk, hk2⟩ := hex
          exact ih k hk (by omega) hk2
    · by_cases e : nodeF t.nodes j = 0
      · exact e
      · exact absurd ⟨j, hj, e⟩ hz
  exact ⟨(nodeF_ok hz).1, (nodeF_ok hz).2.1⟩
theorem chainF_len {ns : List NodeT} (hok : okAll ns) : ∀ (a : Nat), a < ns.length → (chainF ns a).length ≤ a + 1 := by
  intro a
  induction a using Nat.strongRecOn with
  | _ a ih =>
    intro hl
    obtain ⟨h1, h2⟩ := hok a hl
    rw [chainF_eq hok hl]
    by_cases hp : (nth ns a).parent < 0
    · rw [if_pos hp]; simp
    · rw [if_neg hp]
      have := ih (nth ns a).parent.toNat (by omega) (by omega)
      simp only [List.length_cons]
      omega
def LnInv (t : Types) (a : Nat) (σ : Mem) (n : Nat) (fr : Fr) (τ : Mem) : Prop :=
  ∃ (c : Int) (out : List Int), -1 ≤ c ∧ c < t.nodes.length ∧ n = (c + 1).toNat ∧ (out ++ (if c < 0 then [] else chainF t.nodes c.toNat)) = chainF t.nodes a ∧ fr 1 = .int c ∧ fr 2 = .ptr σ.next 0 ∧
    ArrAt (σ.next + 1) τ (fr 5) 3 (out.map AV.int) out.length 1 ∧ (c < 0 → out ≠ []) ∧ out.length + (c + 1).toNat ≤ a + 1 ∧ τ.get σ.next = some (typesC t) ∧ Keeps σ τ ∧ σ.next < τ.next
theorem line_ev (t : Types) (hok : okAll t.nodes) (h12 : t.nodes.length ≤ 12) (a : Nat) (ha : a < t.nodes.length) : PureA Tryz.prog 196 [typesA t, .int a] (intsA (chainF t.nodes a).reverse) := by
  refine pureA_of Tryz.func196 rfl (by kernel_rfl) (fun σ => ?_)
  have hK : Keeps σ (σ.alloc 35 (typesC t)) := by rw [keeps_alloc _ _ (Nat.le_refl _)]; exact Keeps.refl _
  have hg : (σ.alloc 35 (typesC t)).get σ.next = some (typesC t) := by simp [get_alloc]
  have hN : (σ.alloc 35 (typesC t)).next = σ.next + 1 := rfl
  simp [go_sem, Tryz.results196, Tryz.ntmps196, typesA]
  generalize σ.alloc 35 (typesC t) = τ at hK hg hN ⊢
  refine EW_loop (LnInv t a σ) (a + 1) ⟨a, [], by omega, by omega, by omega, by rw [if_neg (by omega)]; simp, by simp [go_sem], by simp [go_sem], .inl ⟨by simp [go_sem], rfl, rfl⟩, fun h => by omega, by simp, hg, hK, by omega⟩ ?_
  rintro n fr τ1 ⟨c, out, hc1, hc2, rfl, hR, h1, h2, h5, hne, hln, hg1, hK1, hN1⟩
  simp [go_sem, h1]
  by_cases hc : 0 ≤ c
  · obtain ⟨k, rfl⟩ : ∃ k : Nat, c = k := ⟨c.toNat, by omega⟩
    have hkl : k < t.nodes.length := by omega
    obtain ⟨p1, p2⟩ := hok k hkl
    have d := drop_node t.nodes k hkl
    rw [if_neg (by omega), Int.toNat_natCast, chainF_eq hok hkl] at hR
    have hR2 : (out ++ [(k : Int)]) ++ (if (nth t.nodes k).parent < 0 then [] else chainF t.nodes (nth t.nodes k).parent.toNat) = chainF t.nodes a := by rw [← hR]; simp
    have fin : ∀ (fr' : Fr) (τ2 : Mem) (wid : Nat), fr' 1 = .int (nth t.nodes k).parent → fr' 2 = .ptr σ.next 0 → fr' 5 = .arr wid 0 (out.length + 1) 1 → τ2.get wid = some ((out ++ [(k : Int)]).map AV.int) → τ2.ty wid = 3 → σ.next < wid → wid < τ2.next → τ2.get σ.next = some (typesC t) → Keeps σ τ2 →
        ∃ m : Nat, (m : Int) < (k : Int) + 1 ∧ LnInv t a σ m fr' τ2 := fun fr' τ2 wid a1 a2 a5 b1 b2 b3 b4 b5 b6 =>
      ⟨((nth t.nodes k).parent + 1).toNat, by omega, (nth t.nodes k).parent, out ++ [(k : Int)], p1, by omega, rfl, hR2, a1, a2, .inr ⟨wid, by rw [a5]; simp, b1, b2, by omega, b4⟩, fun _ => by simp, by simp; omega, b5, b6, by omega⟩
    rcases h5 with ⟨e5, e1, e2⟩ | ⟨id, e5, hgi, hti, hid, hidl⟩
    · have ho : out = [] := List.eq_nil_of_length_eq_zero e1
      subst ho
      have hne0 : ¬ σ.next = τ1.next := by omega
      simp [go_sem, h1, h2, e5, get_alloc, hne0, hg1, typesC, nodesA, hkl, d, nodeC, next_alloc, show ¬ σ.next = τ1.next + 1 by omega]
      refine fin _ _ (τ1.next + 1) (by simp [go_sem]) (by simp [go_sem, h2]) (by simp [go_sem]) (by simp [get_alloc, next_alloc]) (by simp [ty_alloc, next_alloc]) (by omega) (by simp [next_alloc]) (by simp [get_alloc, next_alloc, hne0, show ¬ σ.next = τ1.next + 1 by omega]; exact hg1) ?_
      intro j hj
      simp [get_alloc, next_alloc, show ¬ j = τ1.next by omega, show ¬ j = τ1.next + 1 by omega]
      exact hK1 j hj
    · have hne0 : ¬ σ.next = τ1.next := by omega
      have hlo : (out.map AV.int).length = out.length := by simp
      have hT : (out.map AV.int).take out.length = out.map AV.int := List.take_of_length_le (by simp)
      simp [go_sem, h1, h2, e5, get_alloc, get_kill, ty_alloc, ty_kill, hgi, hti, hne0, hg1, typesC, nodesA, hkl, d, nodeC, next_alloc, next_kill, show ¬ σ.next = τ1.next + 1 by omega, show ¬ id = τ1.next by omega, show ¬ σ.next = id by omega, show (out.length + 1) * 8 ≤ 140737488355328 by omega, show out.length ≤ 9223372036854775806 by omega]
      refine fin _ _ (τ1.next + 1) (by simp [go_sem]) (by simp [go_sem, h2]) (by simp [go_sem]) (by simp [get_alloc, next_alloc, next_kill, hT]) (by simp [ty_alloc, next_alloc, next_kill]) (by omega) (by simp [next_alloc, next_kill]) (by simp [get_alloc, get_kill, next_alloc, next_kill, hne0, show ¬ σ.next = τ1.next + 1 by omega, show ¬ σ.next = id by omega]; exact hg1) ?_
      intro j hj
      simp [get_alloc, get_kill, next_alloc, next_kill, show ¬ j = τ1.next by omega, show ¬ j = τ1.next + 1 by omega, show ¬ j = id by omega]
      exact hK1 j hj
  · rw [if_pos (by omega), List.append_nil] at hR
    have hone := hne (by omega)
    rw [← hR]
    rcases h5 with ⟨e5, e1, e2⟩ | ⟨id, e5, hgi, hti, hid, hidl⟩
    · exact absurd (List.eq_nil_of_length_eq_zero e1) hone
    · simp [go_sem, hc, e5]
      refine EWcall_of (reverse_ev out (by omega) hgi) ?_
      rintro x τ2 ⟨rfl, hr1, hr2, hr3, hr4⟩
      simp [go_sem, e5]
      refine ⟨?_, fun j hj => by rw [hr4 j (by omega)]; exact hK1 j hj⟩
      have := frz_arr (n0 := σ.next) (n := out.length) (sz := 1) (by omega) hr1 (ints_data _)
      simpa [intsA] using this
theorem is_ev (t : Types) (hok : okAll t.nodes) (h12 : t.nodes.length ≤ 12) (a : Nat) (ha : a < t.nodes.length) (b : Int) : PureA Tryz.prog 172 [typesA t, .int a, .int b] (.bool (isF t.nodes a b)) := by
  refine pureA_of Tryz.func172 rfl (by kernel_rfl) (fun σ => ?_)
  have hK : Keeps σ (σ.alloc 35 (typesC t)) := by rw [keeps_alloc _ _ (Nat.le_refl _)]; exact Keeps.refl _
  have hg : (σ.alloc 35 (typesC t)).get σ.next = some (typesC t) := by simp [get_alloc]
  have hlen := chainF_len hok a ha
  simp [go_sem, Tryz.results172, Tryz.ntmps172, typesA]
  generalize σ.alloc 35 (typesC t) = τ at hK hg ⊢
  simp [go_sem, hg, typesC]
  refine EWcall_pure (line_ev t hok h12 a ha) ?_
  simp [go_sem]
  refine EWcall_pure (iContainsInt_ev b (chainF t.nodes a).reverse (by simp; omega)) ?_
  have : (chainF t.nodes a).reverse.any (fun c => decide (b = c)) = isF t.nodes a b := by unfold isF; rw [List.any_reverse]
  rw [this]
  simp [go_sem, hK]
end Go.Proofs.YtippinddoldhkaaGreat
namespace Go.Proofs.YtippinddoldhkaaGreat
open Go Go.Ew Go.Proofs Go.RowKit
set_option maxRecDepth 10000
def belowF (ns : List NodeT) (a : Int) (n : Nat) : List Int := ((List.range n).filter fun b => isF ns b a).map fun (b : Nat) => (b : Int)
theorem belowF_succ (ns : List NodeT) (a : Int) (n : Nat) : belowF ns a (n + 1) = belowF ns a n ++ (if isF ns n a then [(n : Int)] else []) := by
  unfold belowF
  rw [List.range_succ, List.filter_append, List.map_append]
  congr 1
  by_cases h : isF ns n a = true
  · simp [h]
  · simp [h]
theorem belowF_len (ns : List NodeT) (a : Int) (n : Nat) : (belowF ns a n).length ≤ n := by
  unfold belowF
  rw [List.length_map]
  exact Nat.le_trans (List.length_filter_le _ _) (by simp)
def BwInv (t : Types) (a : Int) (σ : Mem) (n : Nat) (fr : Fr) (τ : Mem) : Prop :=
  ∃ i : Nat, i ≤ t.nodes.length ∧ n = t.nodes.length - i ∧ fr 1 = .int a ∧ fr 2 = .ptr σ.next 0 ∧ fr 18 = .int t.nodes.length ∧ fr 19 = .int i ∧
    ArrAt (σ.next + 1) τ (fr 7) 3 ((belowF t.nodes a i).map AV.int) (belowF t.nodes a i).length 1 ∧ τ.get σ.next = some (typesC t) ∧ Keeps σ τ ∧ σ.next < τ.next
theorem below_ev (t : Types) (ht : wfTypes t) (hv : (validF t).2 = 0) (a : Nat) (ha : a < t.nodes.length) : PureA Tryz.prog 128 [typesA t, .int a] (.tup [intsA (belowF t.nodes a t.nodes.length), .int 0]) := by
  obtain ⟨hok, h12, _, _⟩ := valid_okAll hv
  refine pureA_of Tryz.func128 rfl (by kernel_rfl) (fun σ => ?_)
  have hK : Keeps σ (σ.alloc 35 (typesC t)) := by rw [keeps_alloc _ _ (Nat.le_refl _)]; exact Keeps.refl _
  have hg : (σ.alloc 35 (typesC t)).get σ.next = some (typesC t) := by simp [get_alloc]
  have hN : (σ.alloc 35 (typesC t)).next = σ.next + 1 := rfl
  simp [go_sem, Tryz.results128, Tryz.ntmps128, typesA]
  generalize σ.alloc 35 (typesC t) = τ at hK hg hN ⊢
  simp [go_sem, hg, typesC]
  have hgiv : givenF t [(a : Int)] = 0 := by simp [givenF, hv]; omega
  obtain ⟨τ1, hτ1⟩ : ∃ τ1, τ1 = τ.alloc 3 [AV.int (a : Int)] := ⟨_, rfl⟩
  have hK1 : Keeps σ τ1 := by rw [hτ1, keeps_alloc _ _ (by omega)]; exact hK
  have hg1 : τ1.get σ.next = some (typesC t) := by rw [hτ1]; simp [get_alloc, show ¬ σ.next = τ.next by omega]; exact hg
  have hN1 : σ.next < τ1.next := by rw [hτ1]; simp [next_alloc]; omega
  refine EWcall_frz (given_ev t ht [(a : Int)] (by simp)) rfl ?_ ?_
  · simp [go_sem]
    exact ⟨(DataA.agg (typesC_data t)) _ _, frz_arr (Nat.zero_le _) (by simp [get_alloc]) (ints_data _)⟩
  rw [hgiv, ← hτ1]
  simp [go_sem, hg1, typesC, nodesA]
  refine EW_loop (BwInv t a σ) t.nodes.length ⟨0, by omega, by omega, by simp [go_sem], by simp [go_sem], by simp [go_sem], by simp [go_sem], .inl ⟨by simp [go_sem], rfl, rfl⟩, hg1, hK1, hN1⟩ ?_
  rintro n fr τ2 ⟨i, hi, rfl, f1, f2, f18, f19, f7, hg2, hK2, hN2⟩
  simp [go_sem, f18, f19]
  by_cases hlt : i < t.nodes.length
  · have hwi : IntKind.i64.wrap ((i : Int) + 1) = ((i + 1 : Nat) : Int) := by rw [wrap64_of _ (by omega) (by omega)]; rfl
    have hbl := belowF_len t.nodes a i
    have hsucc := belowF_succ t.nodes a i
    simp [go_sem, hlt, f1, f2, f19, hg2, typesC]
    refine EWcall_pure (is_ev t hok h12 i hlt a) ?_
    rcases hc : isF t.nodes i a
    · rw [hc] at hsucc
      simp only [Bool.false_eq_true, if_false, List.append_nil] at hsucc
      simp [go_sem, f19]
      exact ⟨t.nodes.length - (i + 1), by omega, i + 1, by omega, rfl, by simp [go_sem, f1], by simp [go_sem, f2], by simp [go_sem, f18], by simp [go_sem]; exact hwi, by rw [hsucc]; simp [go_sem]; exact f7, hg2, hK2, hN2⟩
    · rw [hc] at hsucc
      simp only [if_true] at hsucc
      have fin : ∀ (fr' : Fr) (τ3 : Mem) (wid : Nat), fr' 1 = .int a → fr' 2 = .ptr σ.next 0 → fr' 18 = .int t.nodes.length → fr' 19 = .int ((i + 1 : Nat) : Int) → fr' 7 = .arr wid 0 ((belowF t.nodes a i).length + 1) 1 → τ3.get wid = some ((belowF t.nodes a i ++ [(i : Int)]).map AV.int) → τ3.ty wid = 3 → σ.next < wid → wid < τ3.next → τ3.get σ.next = some (typesC t) → Keeps σ τ3 →
          ∃ m, m < t.nodes.length - i ∧ BwInv t a σ m fr' τ3 := fun fr' τ3 wid a1 a2 a18 a19 a7 b1 b2 b3 b4 b5 b6 =>
        ⟨t.nodes.length - (i + 1), by omega, i + 1, by omega, rfl, a1, a2, a18, a19, by rw [hsucc]; exact .inr ⟨wid, by rw [a7]; simp, b1, b2, by omega, b4⟩, b5, b6, by omega⟩
      generalize belowF t.nodes a i = out at *
      have hne0 : ¬ σ.next = τ2.next := by omega
      rcases f7 with ⟨e7, e1, e2⟩ | ⟨id, e7, hgi, hti, hid, hidl⟩
      · have ho : out = [] := List.eq_nil_of_length_eq_zero e1
        subst ho
        simp [go_sem, e7, f19, get_alloc, next_alloc]
        refine fin _ _ (τ2.next + 1) (by simp [go_sem, f1]) (by simp [go_sem, f2]) (by simp [go_sem, f18]) (by simp [go_sem]; exact hwi) (by simp [go_sem]) (by simp [get_alloc, next_alloc]) (by simp [ty_alloc, next_alloc]) (by omega) (by simp [next_alloc]) (by simp [get_alloc, next_alloc, hne0, show ¬ σ.next = τ2.next + 1 by omega]; exact hg2) ?_
        intro j hj
        simp [get_alloc, next_alloc, show ¬ j = τ2.next by omega, show ¬ j = τ2.next + 1 by omega]
        exact hK2 j hj
      · have hlo : (out.map AV.int).length = out.length := by simp
        have hT : (out.map AV.int).take out.length = out.map AV.int := List.take_of_length_le (by simp)
        simp [go_sem, e7, f19, get_alloc, get_kill, ty_alloc, ty_kill, hgi, hti, next_alloc, next_kill, show ¬ id = τ2.next by omega, show (out.length + 1) * 8 ≤ 140737488355328 by omega, show out.length ≤ 9223372036854775806 by omega]
        refine fin _ _ (τ2.next + 1) (by simp [go_sem, f1]) (by simp [go_sem, f2]) (by simp [go_sem, f18]) (by simp [go_sem]; exact hwi) (by simp [go_sem]) (by simp [get_alloc, next_alloc, next_kill, hT]) (by simp [ty_alloc, next_alloc, next_kill]) (by omega) (by simp [next_alloc, next_kill]) (by simp [get_alloc, get_kill, next_alloc, next_kill, hne0, show ¬ σ.next = τ2.next + 1 by omega, show ¬ σ.next = id by omega]; exact hg2) ?_
        intro j hj
        simp [get_alloc, get_kill, next_alloc, next_kill, show ¬ j = τ2.next by omega, show ¬ j = τ2.next + 1 by omega, show ¬ j = id by omega]
        exact hK2 j hj
  · have : i = t.nodes.length := by omega
    subst this
    simp [go_sem, hlt]
    exact ⟨f7.same (by omega) (Nat.le_refl _) (fun _ _ _ => ⟨rfl, rfl⟩) |>.frz (ints_data _), hK2⟩

/-! ### graph.Valid -/
theorem gwithin_ev (a b : Int) : PureA Tryz.prog 104 [.int a, .int b] (.bool (decide (0 ≤ a) && decide (a ≤ b))) := by
  refine pureA_of Tryz.func104 rfl (by kernel_rfl) (fun σ => ?_)
  simp [go_sem, Tryz.results104, Tryz.ntmps104]
  rcases h1 : decide (0 ≤ a) <;> simp [go_sem]
theorem gkind_ev (n : Int) : PureA Tryz.prog 103 [.int n] (.bool (!kindF n)) := by
  refine pureA_of Tryz.func103 rfl (by kernel_rfl) (fun σ => ?_)
  simp [go_sem, Tryz.results103, Tryz.ntmps103]
  refine EWcall_pure (gwithin_ev n 99) ?_
  simp [go_sem, kindF]
theorem gfits_ev (e : E3) (n : Nat) (hn : n ≤ 1000000000000000000) : PureA Tryz.prog 106 [.agg (e3C e), .int n] (.bool (fitsF n e)) := by
  refine pureA_of Tryz.func106 rfl (by kernel_rfl) (fun σ => ?_)
  have hK : Keeps σ (σ.alloc 109 (e3C e)) := by rw [keeps_alloc _ _ (Nat.le_refl _)]; exact Keeps.refl _
  have hg : (σ.alloc 109 (e3C e)).get σ.next = some (e3C e) := by simp [get_alloc]
  have hw : IntKind.i64.wrap ((n : Int) - 1) = (n : Int) - 1 := wrap64_of _ (by omega) (by omega)
  have hE : fitsF n e = (kindF e.kind && (decide (0 ≤ e.src) && decide (e.src ≤ (n : Int) - 1)) && (decide (0 ≤ e.tgt) && decide (e.tgt ≤ (n : Int) - 1))) := by
    unfold fitsF
    have a1 : decide (e.src < (n : Int)) = decide (e.src ≤ (n : Int) - 1) := decide_eq_decide.2 (by omega)
    have a2 : decide (e.tgt < (n : Int)) = decide (e.tgt ≤ (n : Int) - 1) := decide_eq_decide.2 (by omega)
    rw [a1, a2]
  rw [hE]
  simp [go_sem, Tryz.results106, Tryz.ntmps106]
  generalize σ.alloc 109 (e3C e) = τ at hK hg ⊢
  simp [go_sem, hg, e3C]
  refine EWcall_pure (gwithin_ev e.kind 99) ?_
  rw [show (decide (0 ≤ e.kind) && decide (e.kind ≤ 99)) = kindF e.kind from rfl]
  rcases h1 : kindF e.kind
  · simp [go_sem, hK]
  simp [go_sem, hg, e3C, hw]
  refine EWcall_pure (gwithin_ev e.src ((n : Int) - 1)) ?_
  rcases h2 : (decide (0 ≤ e.src) && decide (e.src ≤ (n : Int) - 1))
  · simp [go_sem, hK]
  simp [go_sem, hg, e3C, hw]
  refine EWcall_pure (gwithin_ev e.tgt ((n : Int) - 1)) ?_
  simp [go_sem, hK]
theorem gedge_ev (e : E3) (g : Graph) (hn : g.nodes.length ≤ 1000000000000000000) : PureA Tryz.prog 105 [.agg (e3C e), .iptr (graphC g)] (.bool (!fitsF g.nodes.length e)) := by
  refine pureA_of Tryz.func105 rfl (by kernel_rfl) (fun σ => ?_)
  simp [go_sem, Tryz.results105, Tryz.ntmps105, get_alloc, graphC, intsA, e3C]
  refine EWcall_pure (gfits_ev e g.nodes.length hn) ?_
  simp [go_sem]
def wfGraph (g : Graph) : Prop := g.nodes.length ≤ 1000000000000000000 ∧ g.edges.length ≤ 1000000000000000000
theorem gvalid_ev (g : Graph) (hw : wfGraph g) : PureA Tryz.prog 50 [graphA g] (.int (gvalidF g)) := by
  refine pureA_of Tryz.func50 rfl (by kernel_rfl) (fun σ => ?_)
  have hE : gvalidF g = if 40 < g.nodes.length ∨ 80 < g.edges.length then 3 else if g.nodes.any (fun n => !kindF n) then 6 else if g.edges.any (fun e => !fitsF g.nodes.length e) then 6 else 0 := rfl
  generalize gvalidF g = D at hE ⊢
  have hK : Keeps σ (σ.alloc 38 (graphC g)) := by rw [keeps_alloc _ _ (Nat.le_refl _)]; exact Keeps.refl _
  have hg : (σ.alloc 38 (graphC g)).get σ.next = some (graphC g) := by simp [get_alloc]
  simp [go_sem, Tryz.results50, Tryz.ntmps50, graphA]
  generalize σ.alloc 38 (graphC g) = τ at hK hg ⊢
  simp [go_sem, hg, graphC, intsA, e3sA]
  by_cases h1 : 40 < g.nodes.length
  · rw [if_pos (.inl h1)] at hE
    simp [go_sem, show (40 : Int) < g.nodes.length by omega, hE, hK]
  by_cases h2 : 80 < g.edges.length
  · rw [if_pos (.inr h2)] at hE
    simp [go_sem, show ¬ (40 : Int) < g.nodes.length by omega, show (80 : Int) < g.edges.length by omega, hE, hK, hg, graphC, e3sA]
  rw [if_neg (by omega)] at hE
  simp [go_sem, show ¬ (40 : Int) < g.nodes.length by omega, show ¬ (80 : Int) < g.edges.length by omega, hg, graphC, intsA, e3sA]
  refine EWcall_pure (iContainsFuncInt_ev 103 [] (fun n => !kindF n) (fun n => gkind_ev n) g.nodes (by omega)) ?_
  rcases h3 : g.nodes.any fun n => !kindF n
  · rw [h3] at hE
    simp [go_sem, hg, graphC, e3sA]
    refine EWcall_frz (iContainsFuncEdge_ev 105 [.iptr (graphC g)] (fun e => !fitsF g.nodes.length e) (fun e => gedge_ev e g hw.1) g.edges (by omega)) rfl ?_ ?_
    · simp [go_sem]
      exact ⟨(e3_data _).frz, frz_ptr (Nat.zero_le _) hg (graphC_data g)⟩
    rcases h4 : g.edges.any fun e => !fitsF g.nodes.length e
    · rw [h4] at hE
      simp at hE
      simp [go_sem, hE, hK]
    · rw [h4] at hE
      simp at hE
      simp [go_sem, hE, hK]
  · rw [h3] at hE
    simp at hE
    simp [go_sem, hE, hK]
end Go.Proofs.YtippinddoldhkaaGreat
namespace Go.Proofs.YtippinddoldhkaaGreat
open Go Go.Ew Go.Proofs Go.RowKit
set_option maxRecDepth 10000
theorem within1_ev (t : Types) (n : Int) : PureA Tryz.prog 183 [.int n, .iptr (typesC t)] (.bool (decide ((t.nodes.length : Int) ≤ n))) := by
  refine pureA_of Tryz.func183 rfl (by kernel_rfl) (fun σ => ?_)
  simp [go_sem, Tryz.results183, Tryz.ntmps183, typesC, nodesA]
theorem within2_ev (t : Types) (e : E3) : PureA Tryz.prog 184 [.agg (e3C e), .iptr (typesC t)] (.bool (decide ((t.edges.length : Int) ≤ e.kind))) := by
  refine pureA_of Tryz.func184 rfl (by kernel_rfl) (fun σ => ?_)
  simp [go_sem, Tryz.results184, Tryz.ntmps184, get_alloc, typesC, edgesA, e3C]
def withinF (t : Types) (g : Graph) : Bool := !(g.nodes.any fun n => decide ((t.nodes.length : Int) ≤ n)) && !(g.edges.any fun e => decide ((t.edges.length : Int) ≤ e.kind))
theorem within_ev (t : Types) (g : Graph) (hw : wfGraph g) : PureA Tryz.prog 158 [typesA t, graphA g] (.bool (withinF t g)) := by
  refine pureA_of Tryz.func158 rfl (by kernel_rfl) (fun σ => ?_)
  obtain ⟨hw1, hw2⟩ := hw
  unfold withinF
  obtain ⟨τ, hτ⟩ : ∃ τ, τ = (σ.alloc 35 (typesC t)).alloc 38 (graphC g) := ⟨_, rfl⟩
  have hK : Keeps σ τ := by rw [hτ, keeps_alloc _ _ (by simp [next_alloc]), keeps_alloc _ _ (Nat.le_refl _)]; exact Keeps.refl _
  have hg : τ.get σ.next = some (typesC t) := by rw [hτ]; simp [get_alloc, next_alloc]
  have hg2 : τ.get (σ.next + 1) = some (graphC g) := by rw [hτ]; simp [get_alloc, next_alloc]
  simp [go_sem, Tryz.results158, Tryz.ntmps158, typesA, graphA, next_alloc]
  rw [← hτ]
  simp [go_sem, hg2, graphC, intsA, e3sA]
  refine EWcall_frz (iContainsFuncInt_ev 183 [.iptr (typesC t)] (fun n => decide ((t.nodes.length : Int) ≤ n)) (fun n => within1_ev t n) g.nodes (by omega)) rfl ?_ ?_
  · simp [go_sem]
    exact ⟨(ints_data _).frz, frz_ptr (Nat.zero_le _) hg (typesC_data t)⟩
  rcases h1 : g.nodes.any fun n => decide ((t.nodes.length : Int) ≤ n)
  · simp [go_sem, hg2, graphC, e3sA]
    refine EWcall_frz (iContainsFuncEdge_ev 184 [.iptr (typesC t)] (fun e => decide ((t.edges.length : Int) ≤ e.kind)) (fun e => within2_ev t e) g.edges (by omega)) rfl ?_ ?_
    · simp [go_sem]
      exact ⟨(e3_data _).frz, frz_ptr (Nat.zero_le _) hg (typesC_data t)⟩
    simp [go_sem, hK]
  · simp [go_sem, hK]

def svalidF (t : Types) (g h : Graph) : Nat :=
  if (validF t).2 ≠ 0 then (validF t).2 else if gvalidF g ≠ 0 then gvalidF g else if gvalidF h ≠ 0 then gvalidF h else if withinF t g && withinF t h then 0 else 13
def pairN (g h : Graph) (i : Nat) : Graph := if i = 0 then g else h
def SvInv (t : Types) (g h : Graph) (σ : Mem) (n : Nat) (fr : Fr) (τ : Mem) : Prop :=
  ∃ i : Nat, i ≤ 2 ∧ n = 2 - i ∧ (∀ j, j < i → gvalidF (pairN g h j) = 0) ∧ fr 3 = .ptr σ.next 0 ∧ fr 4 = .ptr (σ.next + 1) 0 ∧ fr 5 = .ptr (σ.next + 2) 0 ∧
    fr 22 = .arr (σ.next + 3) 0 2 2 ∧ fr 23 = .int 2 ∧ fr 24 = .int i ∧
    τ.get σ.next = some (typesC t) ∧ τ.get (σ.next + 1) = some (graphC g) ∧ τ.get (σ.next + 2) = some (graphC h) ∧ τ.get (σ.next + 3) = some (graphC g ++ graphC h) ∧ Keeps σ τ ∧ σ.next + 3 < τ.next
theorem zero_graph : zeroTy Tryz.prog 38 = some [.nils, .nils] := by kernel_rfl
theorem svalid_ev (t : Types) (g h : Graph) (ht : wfTypes t) (hg : wfGraph g) (hh : wfGraph h) : PureA Tryz.prog 119 [typesA t, graphA g, graphA h] (.int (svalidF t g h)) := by
  refine pureA_of Tryz.func119 rfl (by kernel_rfl) (fun σ => ?_)
  have hE : svalidF t g h = if (validF t).2 ≠ 0 then (validF t).2 else if gvalidF g ≠ 0 then gvalidF g else if gvalidF h ≠ 0 then gvalidF h else if withinF t g && withinF t h then 0 else 13 := rfl
  generalize svalidF t g h = D at hE ⊢
  obtain ⟨τ, hτ⟩ : ∃ τ, τ = ((σ.alloc 35 (typesC t)).alloc 38 (graphC g)).alloc 38 (graphC h) := ⟨_, rfl⟩
  have hN : τ.next = σ.next + 3 := by rw [hτ]; rfl
  have hK : Keeps σ τ := by rw [hτ, keeps_alloc _ _ (by simp [next_alloc]; omega), keeps_alloc _ _ (by simp [next_alloc]), keeps_alloc _ _ (Nat.le_refl _)]; exact Keeps.refl _
  have hg0 : τ.get σ.next = some (typesC t) := by rw [hτ]; simp [get_alloc, next_alloc, show ¬ σ.next = σ.next + 1 + 1 by omega]
  have hg1 : τ.get (σ.next + 1) = some (graphC g) := by rw [hτ]; simp [get_alloc, next_alloc]
  have hg2 : τ.get (σ.next + 2) = some (graphC h) := by rw [hτ]; simp [get_alloc, next_alloc]
  simp [go_sem, Tryz.results119, Tryz.ntmps119, typesA, graphA, next_alloc]
  rw [← hτ]
  simp [go_sem, hg0, typesC]
  refine EWcall_pure (valid_ev t ht) ?_
  by_cases h0 : (validF t).2 = 0
  · rw [if_neg (by omega)] at hE
    simp [go_sem, zero_graph, validD, h0, hg1, hg2, graphC, intsA, e3sA, hN]
    refine EW_loop (SvInv t g h σ) 2 ⟨0, by omega, by omega, by omega, by simp [go_sem], by simp [go_sem], by simp [go_sem], by simp [go_sem], by simp [go_sem], by simp [go_sem], by simp [get_alloc, hN, show ¬ σ.next = σ.next + 3 by omega]; exact hg0, by simp [get_alloc, hN]; exact hg1, by simp [get_alloc, hN]; exact hg2, by simp [get_alloc, hN, graphC, intsA, e3sA], by rw [keeps_alloc _ _ (by omega)]; exact hK, by simp [next_alloc]; omega⟩ ?_
    rintro n fr τ2 ⟨i, hi, rfl, hb, f3, f4, f5, f22, f23, f24, g0, g1, g2, g3, hK2, hN2⟩
    simp [go_sem, f23, f24]
    by_cases hlt : i < 2
    · have hwi : IntKind.i64.wrap ((i : Int) + 1) = ((i + 1 : Nat) : Int) := by rw [wrap64_of _ (by omega) (by omega)]; rfl
      have hp := gvalid_ev (pairN g h i) (by unfold pairN; split <;> assumption)
      have hd : (graphC g ++ graphC h).drop (i * 2) = graphC (pairN g h i) ++ (graphC g ++ graphC h).drop (i * 2 + 2) := by
        rcases (show i = 0 ∨ i = 1 by omega) with rfl | rfl <;> rfl
      have hl : (graphC g ++ graphC h).length = 4 := rfl
      have g3' := g3
      generalize graphC g ++ graphC h = L at g3' hd hl
      have hd' : L.drop (i * 2) = .imm (pairN g h i).nodes.length ((pairN g h i).nodes.map AV.int) :: .imm (pairN g h i).edges.length ((pairN g h i).edges.flatMap e3C) :: L.drop (i * 2 + 2) := hd
      simp [go_sem, zero_graph, show (i : Int) < 2 by omega, f22, f24, g3', hl, show i * 2 < 4 by omega, hd', get_alloc, get_set]
      have hn3 : ∀ j, j ≤ σ.next + 3 → ¬ j = τ2.next := fun j hj => by omega
      refine EWcall_pure hp ?_
      by_cases hz : gvalidF (pairN g h i) = 0
      · simp [go_sem, hz, f24]
        refine ⟨2 - (i + 1), by omega, i + 1, by omega, rfl, ?_, by simp [go_sem, f3], by simp [go_sem, f4], by simp [go_sem, f5], by simp [go_sem, f22], by simp [go_sem, f23], by simp [go_sem]; exact hwi, ?_⟩
        · intro j hj
          by_cases hji : j < i
          · exact hb j hji
          · rw [show j = i by omega]; exact hz
        · refine ⟨?_, ?_, ?_, ?_, ?_, ?_⟩
          · simp [get_set, get_alloc, hn3 σ.next (by omega)]; exact g0
          · simp [get_set, get_alloc, hn3 (σ.next + 1) (by omega)]; exact g1
          · simp [get_set, get_alloc, hn3 (σ.next + 2) (by omega)]; exact g2
          · simp [get_set, get_alloc, hn3 (σ.next + 3) (by omega)]; exact g3
          · intro j hj; simp [get_set, get_alloc, hn3 j (by omega)]; exact hK2 j hj
          · simp [next_set, next_alloc]; omega
      · have hD : D = gvalidF (pairN g h i) := by
          rcases (show i = 0 ∨ i = 1 by omega) with rfl | rfl
          · rw [if_pos (by exact hz)] at hE; exact hE
          · rw [if_neg (by have := hb 0 (by omega); simpa [pairN] using this), if_pos (by exact hz)] at hE; exact hE
        simp [go_sem, hz, hD]
        intro j hj
        simp [get_set, get_alloc, hn3 j (by omega)]
        exact hK2 j hj
    · have : i = 2 := by omega
      subst this
      have e1 : gvalidF g = 0 := hb 0 (by omega)
      have e2 : gvalidF h = 0 := hb 1 (by omega)
      rw [if_neg (by omega), if_neg (by omega)] at hE
      simp [go_sem, f3, f4, g0, g1, typesC, graphC]
      refine EWcall_pure (within_ev t g hg) ?_
      rcases h1 : withinF t g
      · simp [h1] at hE
        simp [go_sem, hE, hK2]
      · simp [go_sem, f3, f5, g0, g2, typesC, graphC]
        refine EWcall_pure (within_ev t h hh) ?_
        rcases h2 : withinF t h
        · simp [h1, h2] at hE
          simp [go_sem, hE, hK2]
        · simp [h1, h2] at hE
          simp [go_sem, hE, hK2]
  · rw [if_pos h0] at hE
    simp [go_sem, validD, h0, hE, hK]
end Go.Proofs.YtippinddoldhkaaGreat
namespace Go.Proofs.YtippinddoldhkaaGreat
open Go Go.Ew Go.Proofs Go.RowKit
set_option maxRecDepth 10000
end Go.Proofs.YtippinddoldhkaaGreat
namespace Go.Proofs.YtippinddoldhkaaGreat
open Go Go.Ew Go.Proofs Go.RowKit
set_option maxRecDepth 10000
/-- What a search is about. -/
structure Quest where
  p : Graph
  g : Graph
  is : List (List Bool)
  part : Option Morph
  inj : Bool
  most : Nat
def partN (m : Option Morph) : AV := match m with | none => .nils | some m => intsA m.nodes
def partE (m : Option Morph) : AV := match m with | none => .nils | some m => intsA m.edges
def questC (q : Quest) : List AV := [intsA q.p.nodes, e3sA q.p.edges, intsA q.g.nodes, e3sA q.g.edges, boolssA q.is] ++ [partN q.part, partE q.part, .bool q.inj, .int q.most]
def finC (q : Quest) (ns es : List Int) (out : List Morph) : List AV := questC q ++ [intsA ns, intsA es, morphsA out]
theorem given_nil_ev (i : Int) : PureA Tryz.prog 207 [.nils, .int i] (.int (-1)) := by
  refine pureA_of Tryz.func207 rfl (by kernel_rfl) (fun σ => ?_)
  simp [go_sem, Tryz.results207, Tryz.ntmps207]
theorem given_some_ev (l : List Int) (i : Nat) (hi : i < l.length) : PureA Tryz.prog 207 [intsA l, .int i] (.int (nth l i)) := by
  refine pureA_of Tryz.func207 rfl (by kernel_rfl) (fun σ => ?_)
  have hm : (l.map AV.int).drop i = AV.int (nth l i) :: (l.drop (i + 1)).map AV.int := by rw [← List.map_drop, drop_nth l i hi]; rfl
  simp [go_sem, Tryz.results207, Tryz.ntmps207, intsA, show 0 < l.length by omega, hi, hm]
/-- The image that is given for an element, or -1. -/
def givenI (m : Option Morph) (edges : Bool) (i : Nat) : Int :=
  match m with
  | none => -1
  | some m => if edges then nth m.edges i else nth m.nodes i
theorem givenE_ev (m : Option Morph) (i : Nat) (hi : ∀ x, m = some x → i < x.edges.length) : PureA Tryz.prog 207 [partE m, .int i] (.int (givenI m true i)) := by
  cases m with
  | none => exact given_nil_ev i
  | some x => exact given_some_ev x.edges i (hi x rfl)
theorem givenN_ev (m : Option Morph) (i : Nat) (hi : ∀ x, m = some x → i < x.nodes.length) : PureA Tryz.prog 207 [partN m, .int i] (.int (givenI m false i)) := by
  cases m with
  | none => exact given_nil_ev i
  | some x => exact given_some_ev x.nodes i (hi x rfl)
def fitsQ (q : Quest) (ns : List Int) (i k : Nat) : Bool :=
  let x := nth q.p.edges i
  let w := givenI q.part true i
  !(decide (0 ≤ w) && decide (w ≠ (k : Int))) && decide (nth q.g.edges k = ⟨x.kind, nth ns x.src.toNat, nth ns x.tgt.toNat⟩)
theorem fits_ev (q : Quest) (ns es : List Int) (out : List Morph) (i k : Nat) (hi : i < q.p.edges.length) (hk : k < q.g.edges.length) (hp : ∀ m, q.part = some m → i < m.edges.length)
    (h1 : 0 ≤ (nth q.p.edges i).src) (h2 : (nth q.p.edges i).src < ns.length) (h3 : 0 ≤ (nth q.p.edges i).tgt) (h4 : (nth q.p.edges i).tgt < ns.length) :
    PureA Tryz.prog 209 [.iptr (finC q ns es out), .int i, .int k] (.bool (fitsQ q ns i k)) := by
  refine pureA_of Tryz.func209 rfl (by kernel_rfl) (fun σ => ?_)
  have hd := drop_e3 q.p.edges i hi
  have hE : fitsQ q ns i k = (!(decide (0 ≤ givenI q.part true i) && decide (givenI q.part true i ≠ (k : Int))) && decide (nth q.g.edges k = ⟨(nth q.p.edges i).kind, nth ns (nth q.p.edges i).src.toNat, nth ns (nth q.p.edges i).tgt.toNat⟩)) := rfl
  generalize fitsQ q ns i k = D at hE ⊢
  have hlen : (q.p.edges.flatMap e3C).length = q.p.edges.length * 3 := length_flatMap (f := e3C) (sz := 3) (fun _ => rfl) _
  have hlen2 : (q.g.edges.flatMap e3C).length = q.g.edges.length * 3 := length_flatMap (f := e3C) (sz := 3) (fun _ => rfl) _
  have hd2 := drop_e3 q.g.edges k hk
  generalize nth q.p.edges i = x at *
  generalize nth q.g.edges k = y at *
  obtain ⟨xk, xs, xt⟩ := x
  obtain ⟨yk, ys, yt⟩ := y
  simp only at h1 h2 h3 h4
  obtain ⟨a, rfl⟩ := Int.eq_ofNat_of_zero_le h1
  obtain ⟨b, rfl⟩ := Int.eq_ofNat_of_zero_le h3
  have ha : a < ns.length := by omega
  have hb : b < ns.length := by omega
  have hda : (ns.map AV.int).drop a = AV.int (nth ns a) :: (ns.drop (a + 1)).map AV.int := by rw [← List.map_drop, drop_nth ns a ha]; rfl
  have hdb : (ns.map AV.int).drop b = AV.int (nth ns b) :: (ns.drop (b + 1)).map AV.int := by rw [← List.map_drop, drop_nth ns b hb]; rfl
  simp [go_sem, Tryz.results209, Tryz.ntmps209, finC, questC, e3sA, hi, hd, e3C]
  refine EWcall_pure (givenE_ev q.part i hp) ?_
  generalize givenI q.part true i = w at *
  by_cases cc : 0 ≤ w ∧ w ≠ (k : Int)
  · obtain ⟨c1, c2⟩ := cc
    simp [c1, c2] at hE
    simp [go_sem, c1, c2, hE]
  · have hE' : D = decide ((⟨yk, ys, yt⟩ : E3) = ⟨xk, nth ns a, nth ns b⟩) := by
      by_cases c1 : 0 ≤ w
      · by_cases c2 : w = (k : Int)
        · simp [c2] at hE
          simp [hE]
        · exact absurd ⟨c1, c2⟩ cc
      · simp [c1] at hE
        simp [hE]
    clear hE
    have hc : ¬ 0 ≤ w ∨ w = (k : Int) := by
      by_cases c1 : 0 ≤ w
      · exact .inr (Decidable.byContradiction fun c2 => cc ⟨c1, c2⟩)
      · exact .inl c1
    rcases hc with c | c
    all_goals
      simp [go_sem, c]
      refine EW_regionD (by kernel_rfl) (by kernel_rfl) ?_
      simp [go_sem, hk, hd2, e3C, intsA, ha, hb, hda, hdb, get_set, get_alloc]
      rw [hE', Bool.eq_iff_iff]
      simp
end Go.Proofs.YtippinddoldhkaaGreat
namespace Go.Proofs.YtippinddoldhkaaGreat
open Go Go.Ew Go.Proofs Go.RowKit
set_option maxRecDepth 10000
/-- Whether an edge of the pattern between the last node and earlier ones can have an image. -/
def okE (q : Quest) (ns : List Int) (i : Nat) : Bool :=
  let x := nth q.p.edges i
  if max x.src x.tgt = (ns.length : Int) - 1 then (List.range q.g.edges.length).any (fitsQ q ns i) else true
def possibleQ (q : Quest) (ns : List Int) : Bool := (List.range q.p.edges.length).all (okE q ns)
/-- What a search asks of its data. -/
def wfQ (q : Quest) : Prop := wfGraph q.p ∧ wfGraph q.g ∧ (∀ i, i < q.p.edges.length → (0 ≤ (nth q.p.edges i).src ∧ (nth q.p.edges i).src < q.p.nodes.length) ∧ (0 ≤ (nth q.p.edges i).tgt ∧ (nth q.p.edges i).tgt < q.p.nodes.length)) ∧
  ∀ m, q.part = some m → m.nodes.length = q.p.nodes.length ∧ m.edges.length = q.p.edges.length
def PoInv (q : Quest) (ns es : List Int) (out : List Morph) (σ : Mem) (n : Nat) (fr : Fr) (τ : Mem) : Prop :=
  ∃ i : Nat, i ≤ q.p.edges.length ∧ n = q.p.edges.length - i ∧ (∀ j, j < i → okE q ns j = true) ∧ fr 0 = .iptr (finC q ns es out) ∧ fr 3 = .int ((ns.length : Int) - 1) ∧ fr 18 = e3sA q.p.edges ∧ fr 19 = .int q.p.edges.length ∧ fr 20 = .int i ∧ Keeps σ τ ∧ σ.next ≤ τ.next
def PiInv (q : Quest) (ns es : List Int) (out : List Morph) (i : Nat) (σ : Mem) (n : Nat) (fr : Fr) (τ : Mem) : Prop :=
  ∃ k : Nat, k ≤ q.g.edges.length ∧ n = q.g.edges.length - k ∧ (∀ j, j < k → fitsQ q ns i j = false) ∧ fr 0 = .iptr (finC q ns es out) ∧ fr 3 = .int ((ns.length : Int) - 1) ∧ fr 18 = e3sA q.p.edges ∧ fr 19 = .int q.p.edges.length ∧ fr 20 = .int i ∧
    fr 4 = .int i ∧ fr 6 = .bool false ∧ fr 37 = .int q.g.edges.length ∧ fr 38 = .int k ∧ Keeps σ τ ∧ σ.next ≤ τ.next
theorem possible_ev (q : Quest) (hw : wfQ q) (ns es : List Int) (out : List Morph) (hn : ns.length ≤ q.p.nodes.length) :
    PureA Tryz.prog 208 [.iptr (finC q ns es out)] (.bool (possibleQ q ns)) := by
  refine pureA_of Tryz.func208 rfl (by kernel_rfl) (fun σ => ?_)
  obtain ⟨⟨hp1, hp2⟩, ⟨hg1, hg2⟩, hpe, hpart⟩ := hw
  have hA : (∀ j, j < q.p.edges.length → okE q ns j = true) → possibleQ q ns = true := fun h => List.all_eq_true.2 fun j hj => h j (List.mem_range.1 hj)
  have hB : ∀ j, j < q.p.edges.length → okE q ns j = false → possibleQ q ns = false := fun j hj h => by
    cases hc : possibleQ q ns
    · rfl
    · exact absurd (List.all_eq_true.1 hc j (List.mem_range.2 hj)) (by simp [h])
  generalize possibleQ q ns = D at hA hB ⊢
  have hw1 : IntKind.i64.wrap ((ns.length : Int) - 1) = (ns.length : Int) - 1 := wrap64_of _ (by omega) (by omega)
  simp [go_sem, Tryz.results208, Tryz.ntmps208, finC, questC, e3sA, intsA, hw1]
  refine EW_loop (PoInv q ns es out σ) q.p.edges.length ⟨0, by omega, by omega, by omega, by simp [go_sem, finC, questC, e3sA, intsA], by simp [go_sem], by simp [go_sem, e3sA], by simp [go_sem], by simp [go_sem], Keeps.refl _, Nat.le_refl _⟩ ?_
  rintro n fr τ ⟨i, hi, rfl, hb, f0, f3, f18, f19, f20, hK, hN⟩
  simp [go_sem, f19, f20]
  by_cases hlt : i < q.p.edges.length
  · have hwi : IntKind.i64.wrap ((i : Int) + 1) = ((i + 1 : Nat) : Int) := by rw [wrap64_of _ (by omega) (by omega)]; rfl
    have hd := drop_e3 q.p.edges i hlt
    obtain ⟨⟨x1, x2⟩, x3, x4⟩ := hpe i hlt
    have hok : okE q ns i = if max (nth q.p.edges i).src (nth q.p.edges i).tgt = (ns.length : Int) - 1 then (List.range q.g.edges.length).any (fitsQ q ns i) else true := rfl
    have hfit : max (nth q.p.edges i).src (nth q.p.edges i).tgt = (ns.length : Int) - 1 → ∀ k, k < q.g.edges.length → PureA Tryz.prog 209 [.iptr (finC q ns es out), .int i, .int k] (.bool (fitsQ q ns i k)) := fun hm k hk =>
      fits_ev q ns es out i k hlt hk (fun m hm => by have := (hpart m hm).2; omega) x1 (by omega) x3 (by omega)
    generalize nth q.p.edges i = x at *
    simp [go_sem, hlt, f18, f20, f3, e3sA, hd, e3C, get_alloc, get_set]
    obtain ⟨τ1, hτ1⟩ : ∃ τ1, τ1 = (τ.alloc 109 [.int 0, .int 0, .int 0]).set τ.next [.int x.kind, .int x.src, .int x.tgt] := ⟨_, rfl⟩
    have hK1 : Keeps σ τ1 := by
      rw [hτ1, keeps_set _ _ hN, keeps_alloc _ _ hN]
      exact hK
    have hN1 : σ.next ≤ τ1.next := by rw [hτ1]; simp [next_set, next_alloc]; omega
    have nxt : okE q ns i = true → ∀ j, j < i + 1 → okE q ns j = true := fun h j hj => by
      by_cases hji : j < i
      · exact hb j hji
      · rw [show j = i by omega]; exact h
    rw [← hτ1]
    clear hτ1 hK hN
    by_cases hm : max x.src x.tgt = (ns.length : Int) - 1
    · rw [if_pos hm] at hok
      have hfit' := hfit hm
      simp [go_sem, hm, f0, finC, questC, e3sA]
      refine EW_loop (PiInv q ns es out i σ) q.g.edges.length ⟨0, by omega, by omega, by omega, by simp [go_sem, f0], by simp [go_sem, f3], by simp [go_sem, f18], by simp [go_sem, f19], by simp [go_sem, f20], by simp [go_sem], by simp [go_sem], by simp [go_sem], by simp [go_sem], hK1, hN1⟩ ?_
      clear hK1 hN1 f0 f3 f18 f19 f20
      rintro n fr τ ⟨k, hk, rfl, hbk, f0, f3, f18, f19, f20, f4, f6, f37, f38, hK, hN⟩
      simp [go_sem, f37, f38]
      by_cases hlk : k < q.g.edges.length
      · have hwk : IntKind.i64.wrap ((k : Int) + 1) = ((k + 1 : Nat) : Int) := by rw [wrap64_of _ (by omega) (by omega)]; rfl
        simp [go_sem, hlk, f0, f4, f38]
        refine EWcall_pure (hfit' k hlk) ?_
        rcases hf : fitsQ q ns i k
        · simp [go_sem, f38]
          refine ⟨q.g.edges.length - (k + 1), by omega, k + 1, by omega, rfl, ?_, by simp [go_sem, f0], by simp [go_sem, f3], by simp [go_sem, f18], by simp [go_sem, f19], by simp [go_sem, f20], by simp [go_sem, f4], by simp [go_sem, f6], by simp [go_sem, f37], by simp [go_sem]; exact hwk, hK, hN⟩
          intro j hj
          by_cases hjk : j < k
          · exact hbk j hjk
          · rw [show j = k by omega]; exact hf
        · have hoi : okE q ns i = true := by rw [hok]; exact List.any_eq_true.2 ⟨k, List.mem_range.2 hlk, hf⟩
          simp [go_sem, f20]
          exact ⟨q.p.edges.length - (i + 1), by omega, i + 1, by omega, rfl, nxt hoi, by simp [go_sem, f0], by simp [go_sem, f3], by simp [go_sem, f18], by simp [go_sem, f19], by simp [go_sem]; exact hwi, hK, hN⟩
      · have : k = q.g.edges.length := by omega
        subst this
        have hoi : okE q ns i = false := by
          rw [hok, Bool.eq_false_iff]
          intro hc
          obtain ⟨j, hj, h⟩ := List.any_eq_true.1 hc
          rw [hbk j (List.mem_range.1 hj)] at h
          cases h
        simp [go_sem, f6, hB i hlt hoi, hK]
    · rw [if_neg hm] at hok
      simp [go_sem, hm, f20]
      exact ⟨q.p.edges.length - (i + 1), by omega, i + 1, by omega, rfl, nxt hok, by simp [go_sem, f0], by simp [go_sem, f3], by simp [go_sem, f18, e3sA], by simp [go_sem, f19], by simp [go_sem]; exact hwi, hK1, hN1⟩
  · have : i = q.p.edges.length := by omega
    subst this
    simp [go_sem, hlt, hA hb, hK]
end Go.Proofs.YtippinddoldhkaaGreat
namespace Go.Proofs.YtippinddoldhkaaGreat
open Go Go.Ew Go.Proofs Go.RowKit
set_option maxRecDepth 10000
/-- The types below a type, as flags. -/
def rowF (t : Types) (a : Nat) : List Bool := (List.range t.nodes.length).map fun b => isF t.nodes b a
def rowsF (t : Types) (n : Nat) : List (List Bool) := (List.range n).map (rowF t)
theorem rowsF_succ (t : Types) (n : Nat) : rowsF t (n + 1) = rowsF t n ++ [rowF t n] := by simp [rowsF, List.range_succ]
theorem rowsF_len (t : Types) (n : Nat) : (rowsF t n).length = n := by simp [rowsF]
theorem rowF_len (t : Types) (n : Nat) : (rowF t n).length = t.nodes.length := by simp [rowF]
/-- A row behind its first writes. -/
def rowJ (bs : List Int) (n j : Nat) : List AV := (List.range n).map fun (b : Nat) => AV.bool (decide ((b : Int) ∈ bs.take j))
theorem rowJ_len (bs : List Int) (n j : Nat) : (rowJ bs n j).length = n := by simp [rowJ]
theorem rowJ_zero (bs : List Int) (n : Nat) : rowJ bs n 0 = List.replicate n (AV.bool false) := by
  apply List.ext_getElem?
  intro k
  by_cases h : k < n
  · simp [rowJ, h]
  · simp [rowJ, h]
theorem zerosA_rep (x : AV) : ∀ n : Nat, zerosA [x] n = List.replicate n x
  | 0 => rfl
  | n + 1 => by rw [zerosA, zerosA_rep x n]; rfl
theorem nth_belowF (ns : List NodeT) (a : Int) (n j : Nat) (h : j < (belowF ns a n).length) : ∃ b : Nat, nth (belowF ns a n) j = (b : Int) ∧ b < n := by
  have hm := nth_mem (belowF ns a n) j h
  unfold belowF at hm
  obtain ⟨b, hb, e⟩ := List.mem_map.1 hm
  rw [List.mem_filter, List.mem_range] at hb
  exact ⟨b, e.symm, hb.1⟩
theorem rowJ_step (bs : List Int) (n j b : Nat) (hj : j < bs.length) (hb : nth bs j = (b : Int)) : (rowJ bs n j).set b (AV.bool true) = rowJ bs n (j + 1) := by
  apply List.ext_getElem?
  intro k
  by_cases h : k < n
  · by_cases e : k = b
    · subst e
      rw [List.getElem?_set_self (by rw [rowJ_len]; omega)]
      simp [rowJ, h, take_nth bs j hj, hb]
    · rw [List.getElem?_set_ne (Ne.symm e)]
      simp [rowJ, h, take_nth bs j hj, hb, show ¬ (k : Int) = (b : Int) by omega]
  · rw [List.getElem?_eq_none (by rw [List.length_set, rowJ_len]; omega), List.getElem?_eq_none (by rw [rowJ_len]; omega)]
theorem mem_belowF (ns : List NodeT) (a : Int) (n b : Nat) : (b : Int) ∈ belowF ns a n ↔ b < n ∧ isF ns b a = true := by
  unfold belowF
  rw [List.mem_map]
  constructor
  · rintro ⟨c, hc, e⟩
    have : c = b := by omega
    subst this
    rw [List.mem_filter, List.mem_range] at hc
    exact hc
  · intro h
    exact ⟨b, by rw [List.mem_filter, List.mem_range]; exact h, rfl⟩
theorem rowJ_end (t : Types) (a : Nat) : rowJ (belowF t.nodes a t.nodes.length) t.nodes.length (belowF t.nodes a t.nodes.length).length = (rowF t a).map AV.bool := by
  unfold rowJ rowF
  rw [List.take_length, List.map_map]
  apply List.map_congr_left
  intro b hb
  rw [List.mem_range] at hb
  simp only [Function.comp]
  congr 1
  rw [Bool.eq_iff_iff, decide_eq_true_iff, mem_belowF]
  exact ⟨fun h => h.2, fun h => ⟨hb, h⟩⟩
/-- A slice of rows, each an object of its own. -/
def RowsAt (lo hi : Nat) (τ : Mem) (v : AV) (N : Nat) (rows : List (List Bool)) : Prop :=
  (v = .nils ∧ rows = []) ∨ ∃ (oid : Nat) (vs : List AV), v = .arr oid 0 rows.length 1 ∧ τ.get oid = some vs ∧ τ.ty oid = 111 ∧ lo ≤ oid ∧ oid < hi ∧ vs.length = rows.length ∧
    ∀ (j : Nat) (r : List Bool), rows[j]? = some r → ∃ id : Nat, vs[j]? = some (.arr id 0 N 1) ∧ τ.get id = some (r.map AV.bool) ∧ lo ≤ id ∧ id < hi ∧ id ≠ oid
theorem RowsAt.same {lo hi hi' : Nat} {τ τ' : Mem} {v : AV} {N : Nat} {rows : List (List Bool)} (h : RowsAt lo hi τ v N rows) (hh : hi ≤ hi') (hs : ∀ i, lo ≤ i → i < hi → τ'.get i = τ.get i ∧ τ'.ty i = τ.ty i) : RowsAt lo hi' τ' v N rows := by
  rcases h with h | ⟨oid, vs, h1, h2, h3, h4, h5, h6, h7⟩
  · exact .inl h
  · refine .inr ⟨oid, vs, h1, by rw [(hs oid h4 h5).1]; exact h2, by rw [(hs oid h4 h5).2]; exact h3, h4, by omega, h6, fun j r hj => ?_⟩
    obtain ⟨id, a, b, c, d, e⟩ := h7 j r hj
    exact ⟨id, a, by rw [(hs id c d).1]; exact b, c, by omega, e⟩
theorem RowsAt.frz {lo hi : Nat} {τ : Mem} {v : AV} {N n0 : Nat} {rows : List (List Bool)} (h : RowsAt lo hi τ v N rows) (hr : ∀ r ∈ rows, r.length = N) (h0 : n0 ≤ lo) : Frz n0 τ v (boolssA rows) := by
  rcases h with ⟨rfl, rfl⟩ | ⟨oid, vs, rfl, h2, h3, h4, h5, h6, h7⟩
  · exact .nils
  · refine .arr oid 0 rows.length 1 vs (rows.map boolsA) (by omega) h2 (by simp [h6]) fun j x y hx hy => ?_
    rw [List.drop_zero] at hx
    rw [List.getElem?_map] at hy
    obtain ⟨r, hr', rfl⟩ := Option.map_eq_some_iff.1 hy
    obtain ⟨id, a, b, c, d, e⟩ := h7 j r hr'
    rw [a] at hx
    cases hx
    unfold boolsA
    rw [hr r (List.mem_of_getElem? hr')]
    exact frz_arr (by omega) b (fun x hx => by obtain ⟨c, _, rfl⟩ := List.mem_map.1 hx; exact .lit _)
def BlInv (t : Types) (σ : Mem) (n : Nat) (fr : Fr) (τ : Mem) : Prop :=
  ∃ i : Nat, i ≤ t.nodes.length ∧ n = t.nodes.length - i ∧ fr 1 = .ptr σ.next 0 ∧ fr 12 = .int t.nodes.length ∧ fr 13 = .int i ∧
    RowsAt (σ.next + 1) τ.next τ (fr 3) t.nodes.length (rowsF t i) ∧ τ.get σ.next = some (typesC t) ∧ Keeps σ τ ∧ σ.next < τ.next
def BkInv (t : Types) (i rid : Nat) (v : AV) (σ : Mem) (n : Nat) (fr : Fr) (τ : Mem) : Prop :=
  ∃ j : Nat, j ≤ (belowF t.nodes i t.nodes.length).length ∧ n = (belowF t.nodes i t.nodes.length).length - j ∧ fr 1 = .ptr σ.next 0 ∧ fr 12 = .int t.nodes.length ∧ fr 13 = .int i ∧ fr 3 = v ∧
    fr 5 = .arr rid 0 t.nodes.length 1 ∧ fr 26 = intsA (belowF t.nodes i t.nodes.length) ∧ fr 27 = .int (belowF t.nodes i t.nodes.length).length ∧ fr 28 = .int j ∧
    τ.get rid = some (rowJ (belowF t.nodes i t.nodes.length) t.nodes.length j) ∧ τ.ty rid = 4 ∧ rid < τ.next ∧
    RowsAt (σ.next + 1) rid τ v t.nodes.length (rowsF t i) ∧ τ.get σ.next = some (typesC t) ∧ Keeps σ τ
theorem sbelow_ev (t : Types) (ht : wfTypes t) (hv : (validF t).2 = 0) : PureA Tryz.prog 159 [typesA t] (boolssA (rowsF t t.nodes.length)) := by
  obtain ⟨hok, h12, _, _⟩ := valid_okAll hv
  refine pureA_of Tryz.func159 rfl (by kernel_rfl) (fun σ => ?_)
  have hK : Keeps σ (σ.alloc 35 (typesC t)) := by rw [keeps_alloc _ _ (Nat.le_refl _)]; exact Keeps.refl _
  have hg : (σ.alloc 35 (typesC t)).get σ.next = some (typesC t) := by simp [get_alloc]
  have hN : (σ.alloc 35 (typesC t)).next = σ.next + 1 := rfl
  simp [go_sem, Tryz.results159, Tryz.ntmps159, typesA]
  generalize σ.alloc 35 (typesC t) = τ at hK hg hN ⊢
  simp [go_sem, hg, typesC, nodesA]
  refine EW_loop (BlInv t σ) t.nodes.length ⟨0, by omega, by omega, by simp [go_sem], by simp [go_sem], by simp [go_sem], .inl ⟨by simp [go_sem], rfl⟩, hg, hK, by omega⟩ ?_
  rintro n fr τ1 ⟨i, hi, rfl, f1, f12, f13, f3, hg1, hK1, hN1⟩
  simp [go_sem, f12, f13]
  by_cases hlt : i < t.nodes.length
  · have hwi : IntKind.i64.wrap ((i : Int) + 1) = ((i + 1 : Nat) : Int) := by rw [wrap64_of _ (by omega) (by omega)]; rfl
    have hbl := belowF_len t.nodes i t.nodes.length
    simp [go_sem, hlt, f1, f13, hg1, typesC, nodesA, show (t.nodes.length : Int) ≤ 9223372036854775807 by omega, show (t.nodes.length : Int) ≤ 281474976710656 by omega]
    obtain ⟨τ2, hτ2⟩ : ∃ τ2, τ2 = τ1.alloc 4 (zerosA [AV.lit (Value.bool false)] t.nodes.length) := ⟨_, rfl⟩
    have hz : zerosA [AV.lit (Value.bool false)] t.nodes.length = rowJ (belowF t.nodes i t.nodes.length) t.nodes.length 0 := by
      rw [rowJ_zero, zerosA_rep]
    have hr2 : τ2.get τ1.next = some (rowJ (belowF t.nodes i t.nodes.length) t.nodes.length 0) := by rw [hτ2, hz]; simp [get_alloc]
    have ht2 : τ2.ty τ1.next = 4 := by rw [hτ2]; simp [ty_alloc]
    have hn2 : τ2.next = τ1.next + 1 := by rw [hτ2]; rfl
    have hK2 : Keeps σ τ2 := by rw [hτ2, keeps_alloc _ _ (by omega)]; exact hK1
    have hg2 : τ2.get σ.next = some (typesC t) := by rw [hτ2]; simp [get_alloc, show ¬ σ.next = τ1.next by omega]; exact hg1
    have h32 : RowsAt (σ.next + 1) τ1.next τ2 (fr 3) t.nodes.length (rowsF t i) := f3.same (Nat.le_refl _) fun k _ hk => ⟨by rw [hτ2]; simp [get_alloc, show ¬ k = τ1.next by omega], by rw [hτ2]; simp [ty_alloc, show ¬ k = τ1.next by omega]⟩
    rw [← hτ2]
    clear hτ2 f3 hg1 hK1
    generalize τ1.next = rid at *
    clear τ1
    simp [go_sem, f1, f13, hg2, typesC]
    refine EWcall_pure (below_ev t ht hv i hlt) ?_
    simp [go_sem, intsA]
    refine EW_loop (BkInv t i rid (fr 3) σ) (belowF t.nodes i t.nodes.length).length ⟨0, by omega, by omega, by simp [go_sem, f1], by simp [go_sem, f12], by simp [go_sem, f13], by simp [go_sem], by simp [go_sem], by simp [go_sem, intsA], by simp [go_sem], by simp [go_sem], hr2, ht2, by omega, h32, hg2, hK2⟩ ?_
    generalize fr 3 = v
    have hne : ¬ σ.next = rid := by omega
    clear f1 f12 f13 h32 hg2 hK2 hr2 ht2 hn2 hz fr τ2
    rintro n fr τ1 ⟨j, hj, rfl, f1, f12, f13, f3, f5, f26, f27, f28, g1, g2, g3, g4, g5, g6⟩
    simp [go_sem, f27, f28]
    by_cases hlj : j < (belowF t.nodes i t.nodes.length).length
    · have hwj : IntKind.i64.wrap ((j : Int) + 1) = ((j + 1 : Nat) : Int) := by rw [wrap64_of _ (by omega) (by omega)]; rfl
      obtain ⟨b, hb, hbn⟩ := nth_belowF t.nodes i t.nodes.length j hlj
      have hst := rowJ_step (belowF t.nodes i t.nodes.length) t.nodes.length j b hlj hb
      have hrl := rowJ_len (belowF t.nodes i t.nodes.length) t.nodes.length j
      have hsp := splice_set (rowJ (belowF t.nodes i t.nodes.length) t.nodes.length j) b (AV.bool true) (by omega)
      have hm : ((belowF t.nodes i t.nodes.length).map AV.int).drop j = AV.int (b : Int) :: ((belowF t.nodes i t.nodes.length).drop (j + 1)).map AV.int := by rw [← List.map_drop, drop_nth _ j hlj, hb]; rfl
      simp [go_sem, hlj, f26, f28, intsA, hm, f5, g1, hbn, hrl, hsp, hst, show b + 1 ≤ t.nodes.length by omega]
      have hn1 : ¬ σ.next = rid := hne
      refine ⟨(belowF t.nodes i t.nodes.length).length - (j + 1), by omega, j + 1, by omega, rfl, by simp [go_sem, f1], by simp [go_sem, f12], by simp [go_sem, f13], by simp [go_sem, f3], by simp [go_sem, f5], by simp [go_sem, f26], by simp [go_sem, f27], by simp [go_sem]; exact hwj, by simp [get_set], by simp [ty_set]; exact g2, by simp [next_set]; exact g3, g4.same (Nat.le_refl _) fun k _ hk => ⟨by simp [get_set, show ¬ k = rid by omega], by simp [ty_set]⟩, by simp [get_set, hn1]; exact g5, ?_⟩
      rw [keeps_set _ _ (by omega)]
      exact g6
    · have : j = (belowF t.nodes i t.nodes.length).length := by omega
      subst this
      rw [rowJ_end] at g1
      have fin : ∀ (fr' : Fr) (τ3 : Mem) (oid : Nat) (vs : List AV), fr' 1 = .ptr σ.next 0 → fr' 12 = .int t.nodes.length → fr' 13 = .int ((i + 1 : Nat) : Int) → fr' 3 = .arr oid 0 (i + 1) 1 →
          τ3.get oid = some (vs ++ [AV.arr rid 0 t.nodes.length 1]) → τ3.ty oid = 111 → rid < oid → oid < τ3.next → vs.length = i →
          (∀ (j : Nat) (r : List Bool), (rowsF t i)[j]? = some r → ∃ id : Nat, vs[j]? = some (.arr id 0 t.nodes.length 1) ∧ τ3.get id = some (r.map AV.bool) ∧ σ.next + 1 ≤ id ∧ id < rid) →
          τ3.get rid = some ((rowF t i).map AV.bool) → τ3.get σ.next = some (typesC t) → Keeps σ τ3 → ∃ m, m < t.nodes.length - i ∧ BlInv t σ m fr' τ3 := by
        intro fr' τ3 oid vs a1 a12 a13 a3 b1 b2 b3 b4 b5 b6 b7 b8 b9
        refine ⟨t.nodes.length - (i + 1), by omega, i + 1, by omega, rfl, a1, a12, a13, ?_, b8, b9, by omega⟩
        refine .inr ⟨oid, _, by rw [a3, rowsF_len], b1, b2, by omega, b4, by simp [rowsF_len, b5], fun j r hj => ?_⟩
        rw [rowsF_succ] at hj
        by_cases hji : j < i
        · rw [List.getElem?_append_left (by rw [rowsF_len]; exact hji)] at hj
          obtain ⟨id, c1, c2, c3, c4⟩ := b6 j r hj
          exact ⟨id, by rw [List.getElem?_append_left (by omega)]; exact c1, c2, c3, by omega, by omega⟩
        · rw [List.getElem?_append_right (by rw [rowsF_len]; omega), rowsF_len] at hj
          by_cases hje : j = i
          · subst hje
            simp at hj
            subst hj
            exact ⟨rid, by rw [List.getElem?_append_right (by omega)]; simp [b5], b7, by omega, by omega, by omega⟩
          · rw [List.getElem?_eq_none (by simp; omega)] at hj
            cases hj
      have hne3 : ¬ σ.next = τ1.next := by omega
      rcases g4 with ⟨rfl, e1⟩ | ⟨oid, vs, rfl, e2, e3, e4, e5, e6, e7⟩
      · have hi0 : i = 0 := by have := rowsF_len t i; rw [e1] at this; simpa using this.symm
        subst hi0
        simp [go_sem, hlj, f3, f5, f13, get_alloc, next_alloc]
        refine fin _ _ (τ1.next + 1) [] (by simp [go_sem, f1]) (by simp [go_sem, f12]) (by simp [go_sem]; exact hwi) (by simp [go_sem]) (by simp [get_alloc, next_alloc]) (by simp [ty_alloc, next_alloc]) (by omega) (by simp [next_alloc]) rfl (fun j r hj => by rw [e1] at hj; simp at hj) (by simp [get_alloc, next_alloc, show ¬ rid = τ1.next by omega, show ¬ rid = τ1.next + 1 by omega]; exact g1) (by simp [get_alloc, next_alloc, hne3, show ¬ σ.next = τ1.next + 1 by omega]; exact g5) ?_
        intro j hj
        simp [get_alloc, next_alloc, show ¬ j = τ1.next by omega, show ¬ j = τ1.next + 1 by omega]
        exact g6 j hj
      · rw [rowsF_len] at e6 f3
        have hT : vs.take i = vs := List.take_of_length_le (by omega)
        simp [go_sem, hlj, f3, f5, f13, get_alloc, get_kill, ty_alloc, ty_kill, e2, e3, e6, next_alloc, next_kill, rowsF_len, show ¬ oid = τ1.next by omega, show (i + 1) * 24 ≤ 140737488355328 by omega, show i ≤ 9223372036854775806 by omega]
        refine fin _ _ (τ1.next + 1) vs (by simp [go_sem, f1]) (by simp [go_sem, f12]) (by simp [go_sem]; exact hwi) (by simp [go_sem]) (by simp [get_alloc, next_alloc, next_kill, hT]) (by simp [ty_alloc, next_alloc, next_kill]) (by omega) (by simp [next_alloc, next_kill]) e6 (fun j r hj => ?_) (by simp [get_alloc, get_kill, next_alloc, next_kill, show ¬ rid = τ1.next by omega, show ¬ rid = τ1.next + 1 by omega, show ¬ rid = oid by omega]; exact g1) (by simp [get_alloc, get_kill, next_alloc, next_kill, hne3, show ¬ σ.next = τ1.next + 1 by omega, show ¬ σ.next = oid by omega]; exact g5) ?_
        · obtain ⟨id, c1, c2, c3, c4, c5⟩ := e7 j r hj
          exact ⟨id, c1, by simp [get_alloc, get_kill, next_alloc, next_kill, show ¬ id = τ1.next by omega, show ¬ id = τ1.next + 1 by omega, c5]; exact c2, c3, c4⟩
        · intro j hj
          simp [get_alloc, get_kill, next_alloc, next_kill, show ¬ j = τ1.next by omega, show ¬ j = τ1.next + 1 by omega, show ¬ j = oid by omega]
          exact g6 j hj
  · have : i = t.nodes.length := by omega
    subst this
    simp [go_sem, hlt]
    exact ⟨f3.frz (fun r hr => by obtain ⟨a, _, rfl⟩ := List.mem_map.1 hr; exact rowF_len t a) (by omega), hK1⟩
end Go.Proofs.YtippinddoldhkaaGreat
namespace Go.Proofs.YtippinddoldhkaaGreat
open Go Go.Ew Go.Proofs Go.RowKit
set_option maxRecDepth 10000
/-- Whether a node of the graph is passed by as the image of the next node. -/
def skipN (q : Quest) (ns : List Int) (k : Nat) : Bool :=
  let w := givenI q.part false ns.length
  (decide (0 ≤ w) && decide (w ≠ (k : Int))) || !(nth (nth q.is (nth q.p.nodes ns.length).toNat) (nth q.g.nodes k).toNat) || (q.inj && ns.any fun c => decide ((k : Int) = c))
def skipE (q : Quest) (ns es : List Int) (k : Nat) : Bool := !fitsQ q ns es.length k || (q.inj && es.any fun c => decide ((k : Int) = c))
/-- The search, with what is found so far; the number: how many elements have no image yet. -/
def findQ (q : Quest) : Nat → List Int → List Int → List Morph → List Morph
  | 0, ns, es, out => if out.length = q.most then out else out ++ [⟨ns, es⟩]
  | f + 1, ns, es, out => if out.length = q.most then out else
    if ns.length < q.p.nodes.length then (List.range q.g.nodes.length).foldl (fun o (k : Nat) => if skipN q ns k then o else if possibleQ q (ns ++ [(k : Int)]) then findQ q f (ns ++ [(k : Int)]) es o else o) out
    else (List.range q.g.edges.length).foldl (fun o (k : Nat) => if skipE q ns es k then o else findQ q f ns (es ++ [(k : Int)]) o) out
theorem foldl_len {β : Type} (M : Nat) (g : List β → Nat → List β) (hg : ∀ o k, o.length ≤ M → (g o k).length ≤ M) : ∀ (l : List Nat) (o : List β), o.length ≤ M → (l.foldl g o).length ≤ M
  | [], _, h => h
  | k :: l, o, h => foldl_len M g hg l (g o k) (hg o k h)
theorem findQ_len (q : Quest) : ∀ (f : Nat) (ns es : List Int) (out : List Morph), out.length ≤ q.most → (findQ q f ns es out).length ≤ q.most
  | 0, ns, es, out, h => by
    unfold findQ
    split
    · exact h
    · simp; omega
  | f + 1, ns, es, out, h => by
    unfold findQ
    split
    · exact h
    split
    · refine foldl_len q.most _ (fun o k ho => ?_) _ _ h
      split
      · exact ho
      split
      · exact findQ_len q f _ _ o ho
      · exact ho
    · refine foldl_len q.most _ (fun o k ho => ?_) _ _ h
      split
      · exact ho
      · exact findQ_len q f _ _ o ho
/-- A slice of ints that may have room behind its end. -/
def SlAt (lo : Nat) (τ : Mem) (v : AV) (l : List Int) : Prop :=
  (v = .nils ∧ l = []) ∨ ∃ (id : Nat) (cs : List AV), v = .arr id 0 l.length 1 ∧ τ.get id = some cs ∧ cs.take l.length = l.map AV.int ∧ τ.ty id = 3 ∧ lo ≤ id ∧ id < τ.next
theorem SlAt.len {lo : Nat} {τ : Mem} {v : AV} {l : List Int} {id : Nat} {cs : List AV} (_ : SlAt lo τ v l) (h : cs.take l.length = l.map AV.int) : l.length ≤ cs.length := by
  have := congrArg List.length h
  simp at this
  omega
theorem SlAt.same {lo : Nat} {τ τ' : Mem} {v : AV} {l : List Int} (h : SlAt lo τ v l) (hn : τ.next ≤ τ'.next) (hs : ∀ i, idOf v = some i → τ'.get i = τ.get i ∧ τ'.ty i = τ.ty i) : SlAt lo τ' v l := by
  rcases h with h | ⟨id, cs, rfl, h2, h3, h4, h5, h6⟩
  · exact .inl h
  · obtain ⟨a, b⟩ := hs id rfl
    exact .inr ⟨id, cs, rfl, by rw [a]; exact h2, h3, by rw [b]; exact h4, h5, by omega⟩
theorem SlAt.frz {lo n0 : Nat} {τ : Mem} {v : AV} {l : List Int} (h : SlAt lo τ v l) (h0 : n0 ≤ lo) : Frz n0 τ v (intsA l) := by
  rcases h with ⟨rfl, rfl⟩ | ⟨id, cs, rfl, h2, h3, h4, h5, h6⟩
  · exact .nils
  · have hl : l.length ≤ cs.length := by have := congrArg List.length h3; simp at this; omega
    refine .arr id 0 l.length 1 cs (l.map AV.int) (by omega) h2 (by simp; omega) fun j x y hx hy => ?_
    rw [List.drop_zero] at hx
    have hj : j < l.length := by have := (List.getElem?_eq_some_iff.1 hy).1; simpa using this
    rw [← h3, List.getElem?_take, if_pos hj, hx] at hy
    cases hy
    have hm : x ∈ l.map AV.int := by rw [← h3]; exact List.mem_of_getElem? (by rw [List.getElem?_take, if_pos hj]; exact hx)
    obtain ⟨c, _, rfl⟩ := List.mem_map.1 hm
    exact .lit _
/-- The finder's object. -/
def FinAt (fid : Nat) (τ : Mem) (q : Quest) (ns es : List Int) (out : List Morph) : Prop :=
  ∃ vn ve vo : AV, τ.get fid = some (questC q ++ [vn, ve, vo]) ∧ fid < τ.next ∧ SlAt (fid + 1) τ vn ns ∧ SlAt (fid + 1) τ ve es ∧ ArrAt (fid + 1) τ vo 64 (out.flatMap morphC) out.length 2 ∧ Apart vn ve ∧ Apart vn vo ∧ Apart ve vo
theorem partN_data (m : Option Morph) : DataA (partN m) := by
  cases m with
  | none => exact fun _ _ => .nil
  | some m => exact .imm (ints_data _)
theorem partE_data (m : Option Morph) : DataA (partE m) := by
  cases m with
  | none => exact fun _ _ => .nil
  | some m => exact .imm (ints_data _)
theorem bools_data (l : List Bool) : DataL (l.map AV.bool) := fun x hx => by obtain ⟨c, _, rfl⟩ := List.mem_map.1 hx; exact .lit _
theorem boolss_data (l : List (List Bool)) : DataL (l.map boolsA) := fun x hx => by obtain ⟨c, _, rfl⟩ := List.mem_map.1 hx; exact .imm (bools_data c)
theorem questC_data (q : Quest) : DataL (questC q) := .cons (.imm (ints_data _)) (.cons (.imm (e3_data _)) (.cons (.imm (ints_data _)) (.cons (.imm (e3_data _)) (.cons (.imm (boolss_data _)) (.cons (partN_data _) (.cons (partE_data _) (.cons (.lit _) (.cons (.lit _) .nil))))))))
/-- The finder's object as data. -/
theorem FinAt.frz {fid : Nat} {τ : Mem} {q : Quest} {ns es : List Int} {out : List Morph} (h : FinAt fid τ q ns es out) : Frz 0 τ (.ptr fid 0) (.iptr (finC q ns es out)) := by
  obtain ⟨vn, ve, vo, h1, h2, h3, h4, h5, _⟩ := h
  have hL : FrzL 0 τ (questC q ++ [vn, ve, vo]) (finC q ns es out) := by
    have hq := (questC_data q).frz (n0 := 0) (σ := τ)
    unfold finC
    refine ⟨by simp, fun j x y hx hy => ?_⟩
    by_cases hj : j < (questC q).length
    · rw [List.getElem?_append_left hj] at hx hy
      exact hq.2 j x y hx hy
    · rw [List.getElem?_append_right (by omega)] at hx hy
      have hE : FrzL 0 τ [vn, ve, vo] [intsA ns, intsA es, morphsA out] := by
        rw [frzL_cons, frzL_cons, frzL_cons]
        exact ⟨h3.frz (Nat.zero_le _), h4.frz (Nat.zero_le _), (h5.same (Nat.zero_le _) (Nat.le_refl _) fun _ _ _ => ⟨rfl, rfl⟩).frz (n0 := 0) (morphs_data out), by rw [frzL_nil]; trivial⟩
      exact hE.2 _ x y hx hy
  exact .ptr fid 0 _ _ (Nat.zero_le _) h1 (by rw [Nat.zero_add, hL.1]; exact Nat.le_refl _) (by simpa using hL.2)
end Go.Proofs.YtippinddoldhkaaGreat
namespace Go.Proofs.YtippinddoldhkaaGreat
open Go Go.Ew Go.Proofs Go.RowKit
set_option maxRecDepth 10000
def FindR (fid : Nat) (σ : Mem) (q : Quest) (ns es : List Int) (out : List Morph) (x : AV) (τ : Mem) : Prop := x = .tup [] ∧ FinAt fid τ q ns es out ∧ (∀ j, j < fid → τ.get j = σ.get j) ∧ σ.next ≤ τ.next
/-- What 'find' asks beside 'wfQ'. -/
def wfQ2 (q : Quest) : Prop := wfQ q ∧ q.most ≤ 100000 ∧ (∀ i, i < q.p.nodes.length → 0 ≤ nth q.p.nodes i ∧ nth q.p.nodes i < q.is.length) ∧ (∀ k, k < q.g.nodes.length → ∀ r ∈ q.is, 0 ≤ nth q.g.nodes k ∧ nth q.g.nodes k < r.length) ∧ q.p.nodes.length ≤ 1000 ∧ q.p.edges.length ≤ 1000
theorem lenA_imm (P : Program) (t : TypeId) (n : Nat) (cs : List AV) : lenA P t (.imm n cs) = (sliceTy P t).map fun _ => .int n := rfl
theorem lenA_arr (P : Program) (t : TypeId) (i o n s : Nat) : lenA P t (.arr i o n s) = (sliceTy P t).map fun _ => .int n := rfl
theorem sl_lenA {lo : Nat} {τ : Mem} {v : AV} {l : List Int} (h : SlAt lo τ v l) (t : TypeId) (ht : (sliceTy Tryz.prog t).isSome = true) : lenA Tryz.prog t v = some (.int l.length) := by
  obtain ⟨x, hx⟩ := Option.isSome_iff_exists.1 ht
  rcases h with ⟨rfl, rfl⟩ | ⟨id, cs, rfl, _⟩
  · simp only [lenA, hx, Option.map_some]; rfl
  · simp only [lenA, hx, Option.map_some]
theorem out_lenA {lo : Nat} {τ : Mem} {v : AV} {e : TypeId} {cs : List AV} {n sz : Nat} (h : ArrAt lo τ v e cs n sz) (t : TypeId) (ht : (sliceTy Tryz.prog t).isSome = true) : lenA Tryz.prog t v = some (.int n) := by
  obtain ⟨x, hx⟩ := Option.isSome_iff_exists.1 ht
  rcases h with ⟨rfl, rfl, rfl⟩ | ⟨id, rfl, _⟩
  · simp only [lenA, hx, Option.map_some]
  · simp only [lenA, hx, Option.map_some]
/-- A clone of a slice of the caller's own. -/
theorem cloneOwn_ev {lo : Nat} {σ : Mem} {v : AV} {l : List Int} (h : SlAt lo σ v l) (hl : l.length ≤ 1000000000) : CallA Tryz.prog 11 [v] σ fun x σ' => x = .imm l.length (l.map AV.int) ∧ σ' = σ := by
  refine callA_frz ?_
  rcases h with ⟨rfl, rfl⟩ | ⟨id, cs, rfl, h2, h3, h4, h5, h6⟩
  · refine callA_of Tryz.func11 rfl (by kernel_rfl) ?_
    simp [go_sem, Tryz.results11, Tryz.ntmps11]
  · have hlc : l.length ≤ cs.length := by have := congrArg List.length h3; simp at this; omega
    refine callA_of Tryz.func11 rfl (by kernel_rfl) ?_
    simp [go_sem, Tryz.results11, Tryz.ntmps11, get_alloc, ty_alloc, h2, h3, h4, hlc, show ¬ id = σ.next by omega, show l.length ≤ 9223372036854775807 by omega, show l.length * 8 ≤ 140737488355328 by omega]
    exact ⟨frz_arr (by simp) (by simp [get_alloc, next_alloc, next_kill]) (ints_data l), fun i hi => by simp [get_alloc, get_kill, show i ≠ σ.next by omega, show i ≠ σ.next + 1 by omega]⟩
theorem zero_morph : zeroTy Tryz.prog 64 = some [.nils, .nils] := by kernel_rfl
theorem SlAt.id_lt {lo : Nat} {τ : Mem} {v : AV} {l : List Int} (h : SlAt lo τ v l) : ∀ i, idOf v = some i → lo ≤ i ∧ i < τ.next := by
  intro i hi
  rcases h with ⟨rfl, _⟩ | ⟨id, cs, rfl, _, _, _, h5, h6⟩
  · cases hi
  · cases hi
    exact ⟨h5, h6⟩
/-- One more match in the finder's object. -/
theorem FinAt.more {fid : Nat} {τ τ' : Mem} {q : Quest} {ns es : List Int} {out : List Morph} {vn ve : AV} {nid : Nat} {m : Morph} (h3 : SlAt (fid + 1) τ vn ns) (h4 : SlAt (fid + 1) τ ve es) (h6 : Apart vn ve) (h2 : fid < τ.next)
    (a1 : τ'.get fid = some (questC q ++ [vn, ve, .arr nid 0 (out.length + 1) 2])) (a2 : τ'.get nid = some (out.flatMap morphC ++ morphC m)) (a3 : τ'.ty nid = 64) (a4 : τ.next ≤ nid) (a5 : nid < τ'.next)
    (a6 : ∀ i, fid < i → i < τ.next → idOf vn = some i ∨ idOf ve = some i → τ'.get i = τ.get i ∧ τ'.ty i = τ.ty i) : FinAt fid τ' q ns es (out ++ [m]) := by
  have i3 := h3.id_lt
  have i4 := h4.id_lt
  refine ⟨vn, ve, _, a1, by omega, h3.same (by omega) fun i hi => ?_, h4.same (by omega) fun i hi => ?_, .inr ⟨nid, by simp, by rw [a2]; simp, a3, by omega, a5⟩, h6, fun i hi hj => ?_, fun i hi hj => ?_⟩
  · have := i3 i hi; exact a6 i (by omega) (by omega) (.inl hi)
  · have := i4 i hi; exact a6 i (by omega) (by omega) (.inr hi)
  · have := i3 i hi; cases hj; omega
  · have := i4 i hi; cases hj; omega
theorem arr_id_lt {lo : Nat} {τ : Mem} {v : AV} {e : TypeId} {cs : List AV} {n sz : Nat} (h : ArrAt lo τ v e cs n sz) : ∀ i, idOf v = some i → lo ≤ i ∧ i < τ.next := by
  intro i hi
  rcases h with ⟨rfl, _⟩ | ⟨id, rfl, _, _, h5, h6⟩
  · cases hi
  · cases hi
    exact ⟨h5, h6⟩
/-- One more node in the finder's object. -/
theorem FinAt.pushN {fid : Nat} {τ τ' : Mem} {q : Quest} {ns es : List Int} {out : List Morph} {ve vo : AV} {nid : Nat} {k : Int} (h4 : SlAt (fid + 1) τ ve es) (h5 : ArrAt (fid + 1) τ vo 64 (out.flatMap morphC) out.length 2) (h8 : Apart ve vo) (h2 : fid < τ.next)
    (a1 : τ'.get fid = some (questC q ++ [.arr nid 0 (ns.length + 1) 1, ve, vo])) (a2 : τ'.get nid = some (ns.map AV.int ++ [AV.int k])) (a3 : τ'.ty nid = 3) (a4 : τ.next ≤ nid) (a5 : nid < τ'.next)
    (a6 : ∀ i, fid < i → i < τ.next → idOf ve = some i ∨ idOf vo = some i → τ'.get i = τ.get i ∧ τ'.ty i = τ.ty i) : FinAt fid τ' q (ns ++ [k]) es out := by
  have i4 := h4.id_lt
  have i5 := arr_id_lt h5
  refine ⟨_, ve, vo, a1, by omega, .inr ⟨nid, _, by simp, a2, by rw [List.take_of_length_le (by simp)]; simp, a3, by omega, a5⟩, h4.same (by omega) fun i hi => ?_, h5.same (by omega) (by omega) fun i m hi => ?_, fun i hi hj => ?_, fun i hi hj => ?_, h8⟩
  · have := i4 i hi; exact a6 i (by omega) (by omega) (.inl hi)
  · have := i5 i (by rw [hi]; rfl); exact a6 i (by omega) (by omega) (.inr (by rw [hi]; rfl))
  · have := i4 i hj; cases hi; omega
  · have := i5 i hj; cases hi; omega
/-- The last node goes. -/
theorem FinAt.popN {fid : Nat} {τ : Mem} {q : Quest} {ns es : List Int} {out : List Morph} {we wo : AV} {wid : Nat} {ws : List AV} {k : Int} (w2 : fid < τ.next) (w4 : SlAt (fid + 1) τ we es) (w5 : ArrAt (fid + 1) τ wo 64 (out.flatMap morphC) out.length 2) (w6 : Apart (.arr wid 0 (ns ++ [k]).length 1) we) (w7 : Apart (.arr wid 0 (ns ++ [k]).length 1) wo) (w8 : Apart we wo)
    (v1 : τ.get wid = some ws) (v2 : ws.take (ns ++ [k]).length = (ns ++ [k]).map AV.int) (v3 : τ.ty wid = 3) (v4 : fid + 1 ≤ wid) (v5 : wid < τ.next) : FinAt fid (τ.set fid (questC q ++ [.arr wid 0 ns.length 1, we, wo])) q ns es out := by
  have i4 := w4.id_lt
  have i5 := arr_id_lt w5
  have hv : ws.take ns.length = ns.map AV.int := by
    have := congrArg (List.take ns.length) v2
    rw [List.take_take] at this
    simpa using this
  refine ⟨_, we, wo, by simp [get_set], by rw [next_set]; exact w2, .inr ⟨wid, ws, rfl, by simp [get_set, show ¬ wid = fid by omega]; exact v1, hv, by rw [ty_set]; exact v3, v4, by rw [next_set]; exact v5⟩, w4.same (by rw [next_set]; exact Nat.le_refl _) fun i hi => ?_, w5.same (by omega) (by rw [next_set]; exact Nat.le_refl _) fun i m hi => ?_, fun i hi => w6 i hi, fun i hi => w7 i hi, w8⟩
  · have := i4 i hi; exact ⟨by simp [get_set, show ¬ i = fid by omega], by rw [ty_set]⟩
  · have := i5 i (by rw [hi]; rfl); exact ⟨by simp [get_set, show ¬ i = fid by omega], by rw [ty_set]⟩
/-- One more edge in the finder's object. -/
theorem FinAt.pushE {fid : Nat} {τ τ' : Mem} {q : Quest} {ns es : List Int} {out : List Morph} {vn vo : AV} {nid : Nat} {k : Int} (h3 : SlAt (fid + 1) τ vn ns) (h5 : ArrAt (fid + 1) τ vo 64 (out.flatMap morphC) out.length 2) (h7 : Apart vn vo) (h2 : fid < τ.next)
    (a1 : τ'.get fid = some (questC q ++ [vn, .arr nid 0 (es.length + 1) 1, vo])) (a2 : τ'.get nid = some (es.map AV.int ++ [AV.int k])) (a3 : τ'.ty nid = 3) (a4 : τ.next ≤ nid) (a5 : nid < τ'.next)
    (a6 : ∀ i, fid < i → i < τ.next → idOf vn = some i ∨ idOf vo = some i → τ'.get i = τ.get i ∧ τ'.ty i = τ.ty i) : FinAt fid τ' q ns (es ++ [k]) out := by
  have i3 := h3.id_lt
  have i5 := arr_id_lt h5
  refine ⟨vn, _, vo, a1, by omega, h3.same (by omega) fun i hi => ?_, .inr ⟨nid, _, by simp, a2, by rw [List.take_of_length_le (by simp)]; simp, a3, by omega, a5⟩, h5.same (by omega) (by omega) fun i m hi => ?_, fun i hi hj => ?_, h7, fun i hi hj => ?_⟩
  · have := i3 i hi; exact a6 i (by omega) (by omega) (.inl hi)
  · have := i5 i (by rw [hi]; rfl); exact a6 i (by omega) (by omega) (.inr (by rw [hi]; rfl))
  · have := i3 i hi; cases hj; omega
  · have := i5 i hj; cases hi; omega
/-- The last edge goes. -/
theorem FinAt.popE {fid : Nat} {τ : Mem} {q : Quest} {ns es : List Int} {out : List Morph} {wn wo : AV} {wid : Nat} {ws : List AV} {k : Int} (w2 : fid < τ.next) (w3 : SlAt (fid + 1) τ wn ns) (w5 : ArrAt (fid + 1) τ wo 64 (out.flatMap morphC) out.length 2) (w6 : Apart wn (.arr wid 0 (es ++ [k]).length 1)) (w7 : Apart wn wo) (w8 : Apart (.arr wid 0 (es ++ [k]).length 1) wo)
    (v1 : τ.get wid = some ws) (v2 : ws.take (es ++ [k]).length = (es ++ [k]).map AV.int) (v3 : τ.ty wid = 3) (v4 : fid + 1 ≤ wid) (v5 : wid < τ.next) : FinAt fid (τ.set fid (questC q ++ [wn, .arr wid 0 es.length 1, wo])) q ns es out := by
  have i3 := w3.id_lt
  have i5 := arr_id_lt w5
  have hv : ws.take es.length = es.map AV.int := by
    have := congrArg (List.take es.length) v2
    rw [List.take_take] at this
    simpa using this
  refine ⟨wn, _, wo, by simp [get_set], by rw [next_set]; exact w2, w3.same (by rw [next_set]; exact Nat.le_refl _) fun i hi => ?_, .inr ⟨wid, ws, rfl, by simp [get_set, show ¬ wid = fid by omega]; exact v1, hv, by rw [ty_set]; exact v3, v4, by rw [next_set]; exact v5⟩, w5.same (by omega) (by rw [next_set]; exact Nat.le_refl _) fun i m hi => ?_, fun i hi => w6 i hi, w7, fun i hi => w8 i hi⟩
  · have := i3 i hi; exact ⟨by simp [get_set, show ¬ i = fid by omega], by rw [ty_set]⟩
  · have := i5 i (by rw [hi]; rfl); exact ⟨by simp [get_set, show ¬ i = fid by omega], by rw [ty_set]⟩
def FeInv (q : Quest) (step : List Morph → Nat → List Morph) (ns es : List Int) (out : List Morph) (fid : Nat) (σ : Mem) (n : Nat) (fr : Fr) (τ : Mem) : Prop :=
  ∃ k : Nat, k ≤ q.g.edges.length ∧ n = q.g.edges.length - k ∧ fr 0 = .ptr fid 0 ∧ fr 6 = .int es.length ∧ fr 162 = e3sA q.g.edges ∧ fr 163 = .int q.g.edges.length ∧ fr 164 = .int k ∧
    FinAt fid τ q ns es ((List.range k).foldl step out) ∧ (∀ j, j < fid → τ.get j = σ.get j) ∧ σ.next ≤ τ.next
def FnInv (q : Quest) (step : List Morph → Nat → List Morph) (ns es : List Int) (out : List Morph) (fid : Nat) (σ : Mem) (n : Nat) (fr : Fr) (τ : Mem) : Prop :=
  ∃ k : Nat, k ≤ q.g.nodes.length ∧ n = q.g.nodes.length - k ∧ fr 0 = .ptr fid 0 ∧ fr 2 = .int ns.length ∧ fr 61 = intsA q.g.nodes ∧ fr 62 = .int q.g.nodes.length ∧ fr 63 = .int k ∧
    FinAt fid τ q ns es ((List.range k).foldl step out) ∧ (∀ j, j < fid → τ.get j = σ.get j) ∧ σ.next ≤ τ.next
attribute [-go_sem] lenA
attribute [local go_sem] lenA_imm lenA_arr
theorem find_ev (q : Quest) (hw : wfQ2 q) : ∀ (f : Nat) (ns es : List Int) (out : List Morph) (fid : Nat) (σ : Mem), f + ns.length + es.length = q.p.nodes.length + q.p.edges.length → ns.length ≤ q.p.nodes.length → es.length ≤ q.p.edges.length → (es ≠ [] → ns.length = q.p.nodes.length) →
    out.length ≤ q.most → FinAt fid σ q ns es out → CallA Tryz.prog 191 [.ptr fid 0] σ (FindR fid σ q ns es (findQ q f ns es out)) := by
  obtain ⟨hq, hmost, hpk, hgk, hpn, hpe⟩ := hw
  obtain ⟨⟨hp1, hp2⟩, ⟨hg1, hg2⟩, hpe', hpart⟩ := hq
  intro f
  induction f with
  | zero =>
    intro ns es out fid σ hf hn he hne ho hF
    have hF' := hF
    obtain ⟨vn, ve, vo, h1, h2, h3, h4, h5, h6, h7, h8⟩ := hF
    refine callA_of Tryz.func191 rfl (by kernel_rfl) ?_
    simp [go_sem, Tryz.results191, Tryz.ntmps191]
    refine EW_regionD (by kernel_rfl) (by kernel_rfl) ?_
    have ln := sl_lenA h3
    have le := sl_lenA h4
    have lo := out_lenA h5
    simp [go_sem, h1, questC, ln, le, lo, intsA, e3sA]
    by_cases hm : out.length = q.most
    · simp [go_sem, hm]
      refine ⟨rfl, ?_, fun _ _ => rfl, Nat.le_refl _⟩
      unfold findQ
      rw [if_pos hm]
      exact hF'
    · have hm' : ¬ (out.length : Int) = q.most := by omega
      simp [go_sem, hm']
      refine EW_regionD (by kernel_rfl) (by kernel_rfl) ?_
      simp [go_sem, h1, questC, ln, intsA, show ¬ ns.length < q.p.nodes.length by omega]
      refine EW_regionD (by kernel_rfl) (by kernel_rfl) ?_
      simp [go_sem, h1, questC, le, e3sA, show ¬ es.length < q.p.edges.length by omega]
      have hfin0 : findQ q 0 ns es out = out ++ [⟨ns, es⟩] := by unfold findQ; rw [if_neg hm]
      rw [hfin0]
      rcases h5 with ⟨rfl, e1, e2⟩ | ⟨oid, rfl, e1, e2, e3, e4⟩
      · refine EW_regionZ σ 18 [0, 1, 2, 3, 4, 5, 6, 7, 8, 10, 11, 12, 13, 9, 14, 15, 16, 17] (by kernel_rfl) (by kernel_rfl) (by simp [go_sem, sub_self]) (fun hfin => ?_)
        have hs : Sub σ σ := by simp [sub_self]
        have hnn : σ.get σ.next = none := hfin _ (Nat.le_refl _)
        have hnn1 : σ.get (σ.next + 1) = none := hfin _ (by omega)
        have hs2 : ∀ t c, Sub σ (σ.alloc t c) := fun t c i cs hi => by
          rw [get_alloc]
          split
          · rename_i e; rw [e, hnn] at hi; cases hi
          · exact hi
        have hs3 : ∀ t c t' c', Sub σ ((σ.alloc t c).alloc t' c') := fun t c t' c' i cs hi => by
          rw [get_alloc]
          split
          · rename_i e; rw [e, next_alloc, hnn1] at hi; cases hi
          · exact hs2 t c i cs hi
        simp [go_sem, h1, questC]
        refine EWlc_of (cloneOwn_ev h3 (by omega)) ?_
        rintro x τ ⟨rfl, rfl⟩
        refine ⟨hs, ?_⟩
        simp [go_sem]
        refine EWlc_of (cloneOwn_ev h4 (by omega)) ?_
        rintro x τ ⟨rfl, rfl⟩
        refine ⟨hs, ?_⟩
        simp [go_sem, zero_morph, get_alloc, next_alloc, hs2, hs3, h1, questC, show ¬ fid = τ.next by omega, show ¬ fid = τ.next + 1 by omega]
        have e0 : out = [] := List.eq_nil_of_length_eq_zero e1
        subst e0
        refine ⟨rfl, FinAt.more (out := []) (nid := τ.next + 1) (vn := vn) (ve := ve) h3 h4 h6 h2 (by simp [get_set, questC]) (by simp [get_set, get_alloc, next_alloc, show ¬ τ.next + 1 = fid by omega, morphC, intsA]) (by simp [ty_set, ty_alloc, next_alloc]) (by omega) (by simp [next_set, next_alloc]) (fun i hi hj _ => ⟨by simp [get_set, get_alloc, next_alloc, show ¬ i = fid by omega, show ¬ i = τ.next by omega, show ¬ i = τ.next + 1 by omega], by simp [ty_set, ty_alloc, next_alloc, show ¬ i = τ.next by omega, show ¬ i = τ.next + 1 by omega]⟩), fun j hj => by simp [get_set, get_alloc, next_alloc, show ¬ j = fid by omega, show ¬ j = τ.next by omega, show ¬ j = τ.next + 1 by omega], by simp [next_set, next_alloc]; omega⟩
      · have hnf : ¬ fid = oid := by omega
        have hlo : (out.flatMap morphC).length = out.length * 2 := length_flatMap (f := morphC) (sz := 2) (fun _ => rfl) out
        have hT : (out.flatMap morphC).take (out.length * 2) = out.flatMap morphC := List.take_of_length_le (by omega)
        refine EW_regionZ (σ.kill oid) 18 [0, 1, 2, 3, 4, 5, 6, 7, 8, 10, 11, 12, 13, 9, 14, 15, 16, 17] (by kernel_rfl) (by kernel_rfl) (sub_kill oid (by simp [sub_self])) (fun hfin => ?_)
        have hs : Sub (σ.kill oid) σ := sub_kill oid (by simp [sub_self])
        have hnn : σ.get σ.next = none := hfin _ (Nat.le_refl _)
        have hnn1 : σ.get (σ.next + 1) = none := hfin _ (by omega)
        have hs2 : ∀ t c, Sub (σ.kill oid) (σ.alloc t c) := fun t c i cs hi => by
          rw [get_alloc]
          split
          · rename_i e; rw [get_kill] at hi; split at hi
            · cases hi
            · rw [e, hnn] at hi; cases hi
          · exact hs i cs hi
        have hs3 : ∀ t c t' c', Sub (σ.kill oid) (((σ.alloc t c).kill oid).alloc t' c') := fun t c t' c' i cs hi => by
          rw [get_alloc]
          split
          · rename_i e; rw [get_kill] at hi; split at hi
            · cases hi
            · rw [e, next_kill, next_alloc, hnn1] at hi; cases hi
          · have hi' := hi
            rw [get_kill] at hi ⊢
            split at hi
            · cases hi
            · rename_i e2
              rw [if_neg e2]
              exact hs2 t c i cs hi'
        simp [go_sem, h1, questC, get_kill, hnf]
        refine EWlc_of (cloneOwn_ev h3 (by omega)) ?_
        rintro x τ ⟨rfl, rfl⟩
        refine ⟨hs, ?_⟩
        simp [go_sem]
        refine EWlc_of (cloneOwn_ev h4 (by omega)) ?_
        rintro x τ ⟨rfl, rfl⟩
        refine ⟨hs, ?_⟩
        simp [go_sem, zero_morph, get_alloc, get_kill, ty_alloc, ty_kill, next_alloc, next_kill, hs2, hs3, h1, e1, e2, hlo, hT, questC, show ¬ fid = τ.next by omega, show ¬ fid = τ.next + 1 by omega, hnf, show ¬ oid = τ.next by omega, show out.length ≤ 9223372036854775806 by omega, show (out.length + 1) * 48 ≤ 140737488355328 by omega]
        have n7 : ∀ i, idOf vn = some i → ¬ i = oid := fun i hi e => h7 i hi (by rw [e]; rfl)
        have n8 : ∀ i, idOf ve = some i → ¬ i = oid := fun i hi e => h8 i hi (by rw [e]; rfl)
        refine ⟨rfl, FinAt.more (nid := τ.next + 1) (vn := vn) (ve := ve) h3 h4 h6 h2 (by simp [get_set, questC]) (by simp [get_set, get_alloc, next_alloc, next_kill, show ¬ τ.next + 1 = fid by omega, morphC, intsA, hT]) (by simp [ty_set, ty_alloc, next_alloc, next_kill]) (by omega) (by simp [next_set, next_alloc, next_kill]) (fun i hi hj hor => ?_), fun j hj => by simp [get_set, get_alloc, get_kill, next_alloc, next_kill, show ¬ j = fid by omega, show ¬ j = τ.next by omega, show ¬ j = τ.next + 1 by omega, show ¬ j = oid by omega], by simp [next_set, next_alloc, next_kill]; omega⟩
        have hio : ¬ i = oid := by rcases hor with h | h
                                   · exact n7 i h
                                   · exact n8 i h
        exact ⟨by simp [get_set, get_alloc, get_kill, next_alloc, next_kill, show ¬ i = fid by omega, show ¬ i = τ.next by omega, show ¬ i = τ.next + 1 by omega, hio], by simp [ty_set, ty_alloc, ty_kill, next_alloc, next_kill, show ¬ i = τ.next by omega, show ¬ i = τ.next + 1 by omega]⟩
  | succ f ih =>
    intro ns es out fid σ hf hn he hne ho hF
    have hF' := hF
    obtain ⟨vn, ve, vo, h1, h2, h3, h4, h5, h6, h7, h8⟩ := hF
    refine callA_of Tryz.func191 rfl (by kernel_rfl) ?_
    simp [go_sem, Tryz.results191, Tryz.ntmps191]
    refine EW_regionD (by kernel_rfl) (by kernel_rfl) ?_
    have ln := sl_lenA h3
    have le := sl_lenA h4
    have lo := out_lenA h5
    simp [go_sem, h1, questC, lo]
    by_cases hm : out.length = q.most
    · simp [go_sem, hm]
      refine ⟨rfl, ?_, fun _ _ => rfl, Nat.le_refl _⟩
      unfold findQ
      rw [if_pos hm]
      exact hF'
    · have hm' : ¬ (out.length : Int) = q.most := by omega
      have hE : findQ q (f + 1) ns es out = if ns.length < q.p.nodes.length then (List.range q.g.nodes.length).foldl (fun o (k : Nat) => if skipN q ns k then o else if possibleQ q (ns ++ [(k : Int)]) then findQ q f (ns ++ [(k : Int)]) es o else o) out
          else (List.range q.g.edges.length).foldl (fun o (k : Nat) => if skipE q ns es k then o else findQ q f ns (es ++ [(k : Int)]) o) out := by
        rw [findQ, if_neg hm]
      simp [go_sem, hm']
      refine EW_regionD (by kernel_rfl) (by kernel_rfl) ?_
      by_cases hlt : ns.length < q.p.nodes.length
      · rw [if_pos hlt] at hE
        simp [go_sem, h1, questC, ln, intsA, hlt]
        rw [hE]
        clear hE hm hm'
        have hes : es = [] := Classical.byContradiction fun h => by have := hne h; omega
        generalize hstep : (fun o (k : Nat) => if skipN q ns k then o else if possibleQ q (ns ++ [(k : Int)]) then findQ q f (ns ++ [(k : Int)]) es o else o) = step
        have hlen : ∀ (o : List Morph) (k : Nat), o.length ≤ q.most → (step o k).length ≤ q.most := fun o k h => by
          rw [← hstep]
          simp only
          split
          · exact h
          split
          · exact findQ_len q f _ _ o h
          · exact h
        refine EW_loop (FnInv q step ns es out fid σ) q.g.nodes.length ⟨0, by omega, by omega, by simp [go_sem], by simp [go_sem], by simp [go_sem, intsA], by simp [go_sem], by simp [go_sem], hF', fun _ _ => rfl, Nat.le_refl _⟩ ?_
        clear ln le lo hF' h1 h3 h4 h5 h6 h7 h8
        rintro n fr τ ⟨k, hk, rfl, f0, f2, f61, f62, f63, hF, hK, hN⟩
        have hcur : ((List.range k).foldl step out).length ≤ q.most := foldl_len q.most step hlen _ _ ho
        have hsucc : (List.range (k + 1)).foldl step out = step ((List.range k).foldl step out) k := by rw [List.range_succ, List.foldl_append]; rfl
        simp [go_sem, f62, f63]
        by_cases hlk : k < q.g.nodes.length
        · have hwk : IntKind.i64.wrap ((k : Int) + 1) = ((k + 1 : Nat) : Int) := by rw [wrap64_of _ (by omega) (by omega)]; rfl
          have hmk : (q.g.nodes.map AV.int).drop k = AV.int (nth q.g.nodes k) :: (q.g.nodes.drop (k + 1)).map AV.int := by rw [← List.map_drop, drop_nth _ k hlk]; rfl
          have hF' := hF
          obtain ⟨un, ue, uo, g1, g2, g3, g4, g5, g6, g7, g8⟩ := hF'
          simp [go_sem, hlk, f0, f2, f61, f63, intsA, hmk, g1, questC]
          refine EWcall_pure (givenN_ev q.part ns.length (fun m hm => by rw [(hpart m hm).1]; exact hlt)) ?_
          simp [go_sem]
          refine EW_cut (fun fr' τ' => fr' 0 = .ptr fid 0 ∧ fr' 2 = .int ns.length ∧ fr' 3 = .int k ∧ fr' 61 = intsA q.g.nodes ∧ fr' 62 = .int q.g.nodes.length ∧ fr' 63 = .int k ∧ fr' 115 = .bool (skipN q ns k) ∧ τ' = τ) ?_ ?_
          · have hS : skipN q ns k = ((decide (0 ≤ givenI q.part false ns.length) && decide (givenI q.part false ns.length ≠ (k : Int))) || !(nth (nth q.is (nth q.p.nodes ns.length).toNat) (nth q.g.nodes k).toNat) || (q.inj && ns.any fun c => decide ((k : Int) = c))) := rfl
            generalize skipN q ns k = S at hS ⊢
            obtain ⟨a1, a2⟩ := hpk ns.length hlt
            obtain ⟨a, ha⟩ := Int.eq_ofNat_of_zero_le a1
            rw [ha] at a2 hS
            have a2' : a < q.is.length := by omega
            have hrow := nth_mem q.is a a2'
            obtain ⟨b1, b2⟩ := hgk k hlk _ hrow
            obtain ⟨b, hb⟩ := Int.eq_ofNat_of_zero_le b1
            rw [hb] at b2 hS
            have b2' : b < (nth q.is a).length := by omega
            have hmp : (q.p.nodes.map AV.int).drop ns.length = AV.int (a : Int) :: (q.p.nodes.drop (ns.length + 1)).map AV.int := by rw [← List.map_drop, drop_nth _ _ hlt, ← ha]; rfl
            have hmi : (q.is.map boolsA).drop a = boolsA (nth q.is a) :: (q.is.drop (a + 1)).map boolsA := by rw [← List.map_drop, drop_nth _ _ a2']; rfl
            have hmr : ((nth q.is a).map AV.bool).drop b = AV.bool (nth (nth q.is a) b) :: ((nth q.is a).drop (b + 1)).map AV.bool := by rw [← List.map_drop, drop_nth _ _ b2']; rfl
            simp only [Int.toNat_natCast] at hS
            generalize nth (nth q.is a) b = fl at hS hmr
            generalize hwd : givenI q.part false ns.length = w at hS ⊢
            refine EW_regionI τ (by kernel_rfl) (by kernel_rfl) (by simp [sub_self]) (fun _ => ?_)
            by_cases cc : 0 ≤ w ∧ w ≠ (k : Int)
            · obtain ⟨c1, c2⟩ := cc
              simp [c1, c2] at hS
              simp [go_sem, c1, c2, f0, f2, f61, f62, f63, hS]
            · have hS' : S = (!fl || (q.inj && ns.any fun c => decide ((k : Int) = c))) := by
                by_cases c1 : 0 ≤ w
                · by_cases c2 : w = (k : Int)
                  · simp [c2] at hS
                    simp [hS]
                  · exact absurd ⟨c1, c2⟩ cc
                · simp [c1] at hS
                  simp [hS]
              clear hS
              have hc : ¬ 0 ≤ w ∨ w = (k : Int) := by
                by_cases c1 : 0 ≤ w
                · exact .inr (Decidable.byContradiction fun c2 => cc ⟨c1, c2⟩)
                · exact .inl c1
              rcases hc with c | c
              all_goals
                rcases fl
                · simp at hS'
                  simp [go_sem, c, f0, f2, f61, f62, f63, g1, questC, hlt, hmp, hmi, hmr, a2', b2', boolssA, boolsA, intsA, hb, hS']
                · rcases hj : q.inj
                  · rw [hj] at hS'
                    simp at hS'
                    simp [go_sem, c, f0, f2, f61, f62, f63, g1, questC, hlt, hmp, hmi, hmr, a2', b2', boolssA, boolsA, intsA, hb, hS', hj]
                  · rw [hj] at hS'
                    simp only [Bool.not_true, Bool.false_or, Bool.true_and] at hS'
                    simp [go_sem, c, f0, f2, f61, f62, f63, g1, questC, hlt, hmp, hmi, hmr, a2', b2', boolssA, boolsA, intsA, hb, hj]
                    refine EWlc_frz (iContainsInt_ev (k : Int) ns (by omega)) rfl (by rw [frzL_cons, frzL_cons]; exact ⟨g3.frz (Nat.zero_le _), .lit _, by rw [frzL_nil]; trivial⟩) (by simp [sub_self]) ?_
                    rw [hS']
                    simp [go_sem, f0, f2, f61, f62, f63, intsA]
          · intro fr1 τ1 hM
            obtain ⟨m0, m2, m3, m61, m62, m63, m115, rfl⟩ := hM
            have again : ∀ (fr' : Fr) (τ' : Mem), fr' 0 = .ptr fid 0 → fr' 2 = .int ns.length → fr' 61 = intsA q.g.nodes → fr' 62 = .int q.g.nodes.length → fr' 63 = .int ((k + 1 : Nat) : Int) → FinAt fid τ' q ns es (step ((List.range k).foldl step out) k) → (∀ j, j < fid → τ'.get j = σ.get j) → σ.next ≤ τ'.next →
                ∃ m, m < q.g.nodes.length - k ∧ FnInv q step ns es out fid σ m fr' τ' := fun fr' τ' b0 b2 b61 b62 b63 bF bK bN =>
              ⟨q.g.nodes.length - (k + 1), by omega, k + 1, by omega, rfl, b0, b2, b61, b62, b63, by rw [hsucc]; exact bF, bK, bN⟩
            rcases hsk : skipN q ns k
            · rw [hsk] at m115
              have hcl : ((List.range k).foldl step out).length ≤ q.most := hcur
              generalize hcu : (List.range k).foldl step out = cur at *
              have g2' : fid < τ1.next := g2
              rcases g3 with ⟨rfl, e1⟩ | ⟨nid, cs, rfl, e1, e2, e3, e4, e5⟩
              · simp [go_sem, m115, m0, m3, g1, questC, get_alloc, next_alloc, show ¬ fid = τ1.next by omega, show ¬ fid = τ1.next + 1 by omega, get_set]
                obtain ⟨τ2, hτ2⟩ : ∃ τ2, τ2 = ((τ1.alloc 3 [AV.int (k : Int)]).alloc 3 [AV.int (k : Int)]).set fid (questC q ++ [.arr (τ1.next + 1) 0 1 1, ue, uo]) := ⟨_, rfl⟩
                change EWcall _ _ _ _ _ _ _ _ _ _ (((τ1.alloc 3 [AV.int (k : Int)]).alloc 3 [AV.int (k : Int)]).set fid (questC q ++ [.arr (τ1.next + 1) 0 1 1, ue, uo]))
                have hF2 : FinAt fid τ2 q (ns ++ [(k : Int)]) es cur := FinAt.pushN (nid := τ1.next + 1) (ve := ue) (vo := uo) g4 g5 g8 g2' (by rw [hτ2]; simp [get_set, e1]) (by rw [hτ2]; simp [get_set, get_alloc, next_alloc, show ¬ τ1.next + 1 = fid by omega, e1]) (by rw [hτ2]; simp [ty_set, ty_alloc, next_alloc]) (by omega) (by rw [hτ2]; simp [next_set, next_alloc])
                  (fun i hi hj _ => by rw [hτ2]; exact ⟨by simp [get_set, get_alloc, next_alloc, show ¬ i = fid by omega, show ¬ i = τ1.next by omega, show ¬ i = τ1.next + 1 by omega], by simp [ty_set, ty_alloc, next_alloc, show ¬ i = τ1.next by omega, show ¬ i = τ1.next + 1 by omega]⟩)
                have hK2 : ∀ j, j < fid → τ2.get j = σ.get j := fun j hj => by rw [hτ2]; simp [get_set, get_alloc, next_alloc, show ¬ j = fid by omega, show ¬ j = τ1.next by omega, show ¬ j = τ1.next + 1 by omega]; exact hK j hj
                have hN2 : σ.next ≤ τ2.next := by rw [hτ2]; simp [next_set, next_alloc]; omega
                rw [← hτ2]
                refine EWcall_frz (possible_ev q ⟨⟨hp1, hp2⟩, ⟨hg1, hg2⟩, hpe', hpart⟩ (ns ++ [(k : Int)]) es cur (by simp; omega)) rfl (by rw [frzL_cons]; exact ⟨hF2.frz, by rw [frzL_nil]; trivial⟩) ?_
                simp [go_sem]
                refine EWc_cut (fun fr' τ' => fr' 0 = .ptr fid 0 ∧ fr' 2 = .int ns.length ∧ fr' 61 = intsA q.g.nodes ∧ fr' 62 = .int q.g.nodes.length ∧ fr' 63 = .int k ∧ FinAt fid τ' q (ns ++ [(k : Int)]) es (step cur k) ∧ (∀ j, j < fid → τ'.get j = σ.get j) ∧ σ.next ≤ τ'.next) ?_ ?_
                · rcases hpo : possibleQ q (ns ++ [(k : Int)])
                  · have hst : step cur k = cur := by rw [← hstep]; simp [hsk, hpo]
                    simp [go_sem, m0, m2, m61, m62, m63]
                    exact ⟨by rw [hst]; exact hF2, hK2, hN2⟩
                  · have hst : step cur k = findQ q f (ns ++ [(k : Int)]) es cur := by rw [← hstep]; simp [hsk, hpo]
                    simp [go_sem, m0]
                    refine EWcall_of (ih (ns ++ [(k : Int)]) es cur fid τ2 (by simp; omega) (by simp; omega) he (fun h => absurd hes h) hcl hF2) ?_
                    rintro x τ3 ⟨rfl, hF3, hK3, hN3⟩
                    simp [go_sem, m0, m2, m61, m62, m63]
                    exact ⟨by rw [hst]; exact hF3, fun j hj => by rw [hK3 j hj]; exact hK2 j hj, by omega⟩
                · rintro fr2 τ3 ⟨p0, p2, p61, p62, p63, pF, pK, pN⟩
                  obtain ⟨wn, we, wo, w1, w2, w3, w4, w5, w6, w7, w8⟩ := pF
                  rcases w3 with ⟨_, e⟩ | ⟨wid, ws, rfl, v1, v2, v3, v4, v5⟩
                  · simp at e
                  · have hwl : ns.length + 1 ≤ ws.length := by have := congrArg List.length v2; simp at this; omega
                    simp [go_sem, p0, p2, p63, w1, questC, v1, hwl, show (ns.length : Int) ≤ (ns.length : Int) + 1 by omega]
                    exact again _ _ (by simp [go_sem, p0]) (by simp [go_sem, p2]) (by simp [go_sem, p61]) (by simp [go_sem, p62]) (by simp [go_sem]; exact hwk) (FinAt.popN w2 w4 w5 w6 w7 w8 v1 v2 v3 v4 v5) (fun j hj => by rw [get_set, if_neg (by omega)]; exact pK j hj) (by rw [next_set]; exact pN)
              · have hcs : ns.length ≤ cs.length := by have := congrArg List.length e2; simp at this; omega
                simp [go_sem, m115, m0, m3, g1, questC, get_alloc, get_kill, ty_alloc, ty_kill, next_alloc, next_kill, e1, e2, e3, hcs, show ¬ fid = τ1.next by omega, show ¬ fid = τ1.next + 1 by omega, show ¬ fid = nid by omega, show ¬ nid = τ1.next by omega, get_set, show ns.length ≤ 9223372036854775806 by omega, show (ns.length + 1) * 8 ≤ 140737488355328 by omega]
                obtain ⟨τ2, hτ2⟩ : ∃ τ2, τ2 = (((τ1.alloc 3 [AV.int (k : Int)]).kill nid).alloc 3 (ns.map AV.int ++ [AV.int (k : Int)])).set fid (questC q ++ [.arr (τ1.next + 1) 0 (ns.length + 1) 1, ue, uo]) := ⟨_, rfl⟩
                change EWcall _ _ _ _ _ _ _ _ _ _ ((((τ1.alloc 3 [AV.int (k : Int)]).kill nid).alloc 3 (ns.map AV.int ++ [AV.int (k : Int)])).set fid (questC q ++ [.arr (τ1.next + 1) 0 (ns.length + 1) 1, ue, uo]))
                have n7 : ∀ i, idOf ue = some i → ¬ i = nid := fun i hi e => g6 nid rfl (by rw [hi, e])
                have n8 : ∀ i, idOf uo = some i → ¬ i = nid := fun i hi e => g7 nid rfl (by rw [hi, e])
                have hF2 : FinAt fid τ2 q (ns ++ [(k : Int)]) es cur := FinAt.pushN (nid := τ1.next + 1) (ve := ue) (vo := uo) g4 g5 g8 g2' (by rw [hτ2]; simp [get_set]) (by rw [hτ2]; simp [get_set, get_alloc, next_alloc, next_kill, show ¬ τ1.next + 1 = fid by omega]) (by rw [hτ2]; simp [ty_set, ty_alloc, next_alloc, next_kill]) (by omega) (by rw [hτ2]; simp [next_set, next_alloc, next_kill])
                  (fun i hi hj hor => by
                    have hio : ¬ i = nid := by
                      rcases hor with h | h
                      · exact n7 i h
                      · exact n8 i h
                    rw [hτ2]
                    exact ⟨by simp [get_set, get_alloc, get_kill, next_alloc, next_kill, show ¬ i = fid by omega, show ¬ i = τ1.next by omega, show ¬ i = τ1.next + 1 by omega, hio], by simp [ty_set, ty_alloc, ty_kill, next_alloc, next_kill, show ¬ i = τ1.next by omega, show ¬ i = τ1.next + 1 by omega]⟩)
                have hK2 : ∀ j, j < fid → τ2.get j = σ.get j := fun j hj => by rw [hτ2]; simp [get_set, get_alloc, get_kill, next_alloc, next_kill, show ¬ j = fid by omega, show ¬ j = τ1.next by omega, show ¬ j = τ1.next + 1 by omega, show ¬ j = nid by omega]; exact hK j hj
                have hN2 : σ.next ≤ τ2.next := by rw [hτ2]; simp [next_set, next_alloc, next_kill]; omega
                rw [← hτ2]
                refine EWcall_frz (possible_ev q ⟨⟨hp1, hp2⟩, ⟨hg1, hg2⟩, hpe', hpart⟩ (ns ++ [(k : Int)]) es cur (by simp; omega)) rfl (by rw [frzL_cons]; exact ⟨hF2.frz, by rw [frzL_nil]; trivial⟩) ?_
                simp [go_sem]
                refine EWc_cut (fun fr' τ' => fr' 0 = .ptr fid 0 ∧ fr' 2 = .int ns.length ∧ fr' 61 = intsA q.g.nodes ∧ fr' 62 = .int q.g.nodes.length ∧ fr' 63 = .int k ∧ FinAt fid τ' q (ns ++ [(k : Int)]) es (step cur k) ∧ (∀ j, j < fid → τ'.get j = σ.get j) ∧ σ.next ≤ τ'.next) ?_ ?_
                · rcases hpo : possibleQ q (ns ++ [(k : Int)])
                  · have hst : step cur k = cur := by rw [← hstep]; simp [hsk, hpo]
                    simp [go_sem, m0, m2, m61, m62, m63]
                    exact ⟨by rw [hst]; exact hF2, hK2, hN2⟩
                  · have hst : step cur k = findQ q f (ns ++ [(k : Int)]) es cur := by rw [← hstep]; simp [hsk, hpo]
                    simp [go_sem, m0]
                    refine EWcall_of (ih (ns ++ [(k : Int)]) es cur fid τ2 (by simp; omega) (by simp; omega) he (fun h => absurd hes h) hcl hF2) ?_
                    rintro x τ3 ⟨rfl, hF3, hK3, hN3⟩
                    simp [go_sem, m0, m2, m61, m62, m63]
                    exact ⟨by rw [hst]; exact hF3, fun j hj => by rw [hK3 j hj]; exact hK2 j hj, by omega⟩
                · rintro fr2 τ3 ⟨p0, p2, p61, p62, p63, pF, pK, pN⟩
                  obtain ⟨wn, we, wo, w1, w2, w3, w4, w5, w6, w7, w8⟩ := pF
                  rcases w3 with ⟨_, e⟩ | ⟨wid, ws, rfl, v1, v2, v3, v4, v5⟩
                  · simp at e
                  · have hwl : ns.length + 1 ≤ ws.length := by have := congrArg List.length v2; simp at this; omega
                    simp [go_sem, p0, p2, p63, w1, questC, v1, hwl, show (ns.length : Int) ≤ (ns.length : Int) + 1 by omega]
                    exact again _ _ (by simp [go_sem, p0]) (by simp [go_sem, p2]) (by simp [go_sem, p61]) (by simp [go_sem, p62]) (by simp [go_sem]; exact hwk) (FinAt.popN w2 w4 w5 w6 w7 w8 v1 v2 v3 v4 v5) (fun j hj => by rw [get_set, if_neg (by omega)]; exact pK j hj) (by rw [next_set]; exact pN)
            · rw [hsk] at m115
              have hst : step ((List.range k).foldl step out) k = (List.range k).foldl step out := by rw [← hstep]; simp [hsk]
              simp [go_sem, m115, m63]
              refine again _ _ (by simp [go_sem, m0]) (by simp [go_sem, m2]) (by simp [go_sem, m61]) (by simp [go_sem, m62]) (by simp [go_sem]; exact hwk) (by rw [hst]; exact hF) hK hN
        · have : k = q.g.nodes.length := by omega
          subst this
          simp [go_sem, hlk]
          exact ⟨rfl, hF, hK, hN⟩
      · rw [if_neg hlt] at hE
        have hnl : ns.length = q.p.nodes.length := by omega
        simp [go_sem, h1, questC, ln, intsA, hlt]
        refine EW_regionD (by kernel_rfl) (by kernel_rfl) ?_
        have hle : es.length < q.p.edges.length := by omega
        simp [go_sem, h1, questC, le, e3sA, hle]
        rw [hE]
        clear hE hm hm'
        generalize hstep : (fun o (k : Nat) => if skipE q ns es k then o else findQ q f ns (es ++ [(k : Int)]) o) = step
        have hlen : ∀ (o : List Morph) (k : Nat), o.length ≤ q.most → (step o k).length ≤ q.most := fun o k h => by
          rw [← hstep]
          simp only
          split
          · exact h
          · exact findQ_len q f _ _ o h
        refine EW_loop (FeInv q step ns es out fid σ) q.g.edges.length ⟨0, by omega, by omega, by simp [go_sem], by simp [go_sem], by simp [go_sem, e3sA], by simp [go_sem], by simp [go_sem], hF', fun _ _ => rfl, Nat.le_refl _⟩ ?_
        clear ln le lo hF' h1 h3 h4 h5 h6 h7 h8
        rintro n fr τ ⟨k, hk, rfl, f0, f6, f162, f163, f164, hF, hK, hN⟩
        have hcur : ((List.range k).foldl step out).length ≤ q.most := foldl_len q.most step hlen _ _ ho
        have hsucc : (List.range (k + 1)).foldl step out = step ((List.range k).foldl step out) k := by rw [List.range_succ, List.foldl_append]; rfl
        simp [go_sem, f163, f164]
        by_cases hlk : k < q.g.edges.length
        · have hwk : IntKind.i64.wrap ((k : Int) + 1) = ((k + 1 : Nat) : Int) := by rw [wrap64_of _ (by omega) (by omega)]; rfl
          obtain ⟨⟨x1, x2⟩, x3, x4⟩ := hpe' es.length hle
          have hF' := hF
          obtain ⟨un, ue, uo, g1, g2, g3, g4, g5, g6, g7, g8⟩ := hF'
          simp [go_sem, hlk, f0, f6, f164]
          refine EWcall_frz (fits_ev q ns es ((List.range k).foldl step out) es.length k hle hlk (fun m hm => by rw [(hpart m hm).2]; exact hle) x1 (by omega) x3 (by omega)) rfl (by rw [frzL_cons, frzL_cons, frzL_cons]; exact ⟨hF.frz, .lit _, .lit _, by rw [frzL_nil]; trivial⟩) ?_
          have hS : skipE q ns es k = (!fitsQ q ns es.length k || (q.inj && es.any fun c => decide ((k : Int) = c))) := rfl
          generalize fitsQ q ns es.length k = fl at hS ⊢
          have again : ∀ (fr' : Fr) (τ' : Mem), fr' 0 = .ptr fid 0 → fr' 6 = .int es.length → fr' 162 = e3sA q.g.edges → fr' 163 = .int q.g.edges.length → fr' 164 = .int ((k + 1 : Nat) : Int) → FinAt fid τ' q ns es (step ((List.range k).foldl step out) k) → (∀ j, j < fid → τ'.get j = σ.get j) → σ.next ≤ τ'.next →
              ∃ m, m < q.g.edges.length - k ∧ FeInv q step ns es out fid σ m fr' τ' := fun fr' τ' b0 b2 b61 b62 b63 bF bK bN =>
            ⟨q.g.edges.length - (k + 1), by omega, k + 1, by omega, rfl, b0, b2, b61, b62, b63, by rw [hsucc]; exact bF, bK, bN⟩
          rcases fl
          · have hsk : skipE q ns es k = true := by rw [hS]; rfl
            have hst : step ((List.range k).foldl step out) k = (List.range k).foldl step out := by rw [← hstep]; simp [hsk]
            simp [go_sem, f164]
            exact again _ _ (by simp [go_sem, f0]) (by simp [go_sem, f6]) (by simp [go_sem, f162]) (by simp [go_sem, f163]) (by simp [go_sem]; exact hwk) (by rw [hst]; exact hF) hK hN
          · rcases hj : q.inj
            · have hsk : skipE q ns es k = false := by rw [hS, hj]; rfl
              have hst : step ((List.range k).foldl step out) k = findQ q f ns (es ++ [(k : Int)]) ((List.range k).foldl step out) := by rw [← hstep]; simp [hsk]
              have hcl : ((List.range k).foldl step out).length ≤ q.most := hcur
              have g2' : fid < τ.next := g2
              simp [go_sem, f0, f164, g1, questC, hj]
              rcases g4 with ⟨rfl, e1⟩ | ⟨nid, cs, rfl, e1, e2, e3, e4, e5⟩
              · simp [go_sem, f0, f6, f164, g1, questC, get_alloc, next_alloc, show ¬ fid = τ.next by omega, show ¬ fid = τ.next + 1 by omega, get_set]
                obtain ⟨τ2, hτ2⟩ : ∃ τ2, τ2 = ((τ.alloc 3 [AV.int (k : Int)]).alloc 3 [AV.int (k : Int)]).set fid (questC q ++ [un, .arr (τ.next + 1) 0 1 1, uo]) := ⟨_, rfl⟩
                change EWcall _ _ _ _ _ _ _ _ _ _ (((τ.alloc 3 [AV.int (k : Int)]).alloc 3 [AV.int (k : Int)]).set fid (questC q ++ [un, .arr (τ.next + 1) 0 1 1, uo]))
                have hF2 : FinAt fid τ2 q ns (es ++ [(k : Int)]) ((List.range k).foldl step out) := FinAt.pushE (nid := τ.next + 1) (vn := un) (vo := uo) g3 g5 g7 g2' (by rw [hτ2]; simp [get_set, e1]) (by rw [hτ2]; simp [get_set, get_alloc, next_alloc, show ¬ τ.next + 1 = fid by omega, e1]) (by rw [hτ2]; simp [ty_set, ty_alloc, next_alloc]) (by omega) (by rw [hτ2]; simp [next_set, next_alloc])
                  (fun i hi hj _ => by rw [hτ2]; exact ⟨by simp [get_set, get_alloc, next_alloc, show ¬ i = fid by omega, show ¬ i = τ.next by omega, show ¬ i = τ.next + 1 by omega], by simp [ty_set, ty_alloc, next_alloc, show ¬ i = τ.next by omega, show ¬ i = τ.next + 1 by omega]⟩)
                have hK2 : ∀ j, j < fid → τ2.get j = σ.get j := fun j hj => by rw [hτ2]; simp [get_set, get_alloc, next_alloc, show ¬ j = fid by omega, show ¬ j = τ.next by omega, show ¬ j = τ.next + 1 by omega]; exact hK j hj
                have hN2 : σ.next ≤ τ2.next := by rw [hτ2]; simp [next_set, next_alloc]; omega
                rw [← hτ2]
                refine EWcall_of (ih ns (es ++ [(k : Int)]) ((List.range k).foldl step out) fid τ2 (by simp; omega) (by omega) (by simp; omega) (fun _ => hnl) hcl hF2) ?_
                rintro x τ3 ⟨rfl, hF3, hK3, hN3⟩
                obtain ⟨wn, we, wo, w1, w2, w3, w4, w5, w6, w7, w8⟩ := hF3
                rcases w4 with ⟨_, e⟩ | ⟨wid, ws, rfl, v1, v2, v3, v4, v5⟩
                · simp at e
                · have hwl : es.length + 1 ≤ ws.length := by have := congrArg List.length v2; simp at this; omega
                  simp [go_sem, f0, f6, f164, w1, questC, v1, hwl, show (es.length : Int) ≤ (es.length : Int) + 1 by omega]
                  exact again _ _ (by simp [go_sem, f0]) (by simp [go_sem, f6]) (by simp [go_sem, f162]) (by simp [go_sem, f163]) (by simp [go_sem]; exact hwk) (by rw [hst]; exact FinAt.popE w2 w3 w5 w6 w7 w8 v1 v2 v3 v4 v5) (fun j hj => by rw [get_set, if_neg (by omega), hK3 j hj]; exact hK2 j hj) (by rw [next_set]; omega)
              · have hcs : es.length ≤ cs.length := by have := congrArg List.length e2; simp at this; omega
                simp [go_sem, f0, f6, f164, g1, questC, get_alloc, get_kill, ty_alloc, ty_kill, next_alloc, next_kill, e1, e2, e3, hcs, show ¬ fid = τ.next by omega, show ¬ fid = τ.next + 1 by omega, show ¬ fid = nid by omega, show ¬ nid = τ.next by omega, get_set, show es.length ≤ 9223372036854775806 by omega, show (es.length + 1) * 8 ≤ 140737488355328 by omega]
                obtain ⟨τ2, hτ2⟩ : ∃ τ2, τ2 = (((τ.alloc 3 [AV.int (k : Int)]).kill nid).alloc 3 (es.map AV.int ++ [AV.int (k : Int)])).set fid (questC q ++ [un, .arr (τ.next + 1) 0 (es.length + 1) 1, uo]) := ⟨_, rfl⟩
                change EWcall _ _ _ _ _ _ _ _ _ _ ((((τ.alloc 3 [AV.int (k : Int)]).kill nid).alloc 3 (es.map AV.int ++ [AV.int (k : Int)])).set fid (questC q ++ [un, .arr (τ.next + 1) 0 (es.length + 1) 1, uo]))
                have n7 : ∀ i, idOf un = some i → ¬ i = nid := fun i hi e => g6 i hi (by rw [e]; rfl)
                have n8 : ∀ i, idOf uo = some i → ¬ i = nid := fun i hi e => g8 nid rfl (by rw [hi, e])
                have hF2 : FinAt fid τ2 q ns (es ++ [(k : Int)]) ((List.range k).foldl step out) := FinAt.pushE (nid := τ.next + 1) (vn := un) (vo := uo) g3 g5 g7 g2' (by rw [hτ2]; simp [get_set]) (by rw [hτ2]; simp [get_set, get_alloc, next_alloc, next_kill, show ¬ τ.next + 1 = fid by omega]) (by rw [hτ2]; simp [ty_set, ty_alloc, next_alloc, next_kill]) (by omega) (by rw [hτ2]; simp [next_set, next_alloc, next_kill])
                  (fun i hi hj hor => by
                    have hio : ¬ i = nid := by
                      rcases hor with h | h
                      · exact n7 i h
                      · exact n8 i h
                    rw [hτ2]
                    exact ⟨by simp [get_set, get_alloc, get_kill, next_alloc, next_kill, show ¬ i = fid by omega, show ¬ i = τ.next by omega, show ¬ i = τ.next + 1 by omega, hio], by simp [ty_set, ty_alloc, ty_kill, next_alloc, next_kill, show ¬ i = τ.next by omega, show ¬ i = τ.next + 1 by omega]⟩)
                have hK2 : ∀ j, j < fid → τ2.get j = σ.get j := fun j hj => by rw [hτ2]; simp [get_set, get_alloc, get_kill, next_alloc, next_kill, show ¬ j = fid by omega, show ¬ j = τ.next by omega, show ¬ j = τ.next + 1 by omega, show ¬ j = nid by omega]; exact hK j hj
                have hN2 : σ.next ≤ τ2.next := by rw [hτ2]; simp [next_set, next_alloc, next_kill]; omega
                rw [← hτ2]
                refine EWcall_of (ih ns (es ++ [(k : Int)]) ((List.range k).foldl step out) fid τ2 (by simp; omega) (by omega) (by simp; omega) (fun _ => hnl) hcl hF2) ?_
                rintro x τ3 ⟨rfl, hF3, hK3, hN3⟩
                obtain ⟨wn, we, wo, w1, w2, w3, w4, w5, w6, w7, w8⟩ := hF3
                rcases w4 with ⟨_, e⟩ | ⟨wid, ws, rfl, v1, v2, v3, v4, v5⟩
                · simp at e
                · have hwl : es.length + 1 ≤ ws.length := by have := congrArg List.length v2; simp at this; omega
                  simp [go_sem, f0, f6, f164, w1, questC, v1, hwl, show (es.length : Int) ≤ (es.length : Int) + 1 by omega]
                  exact again _ _ (by simp [go_sem, f0]) (by simp [go_sem, f6]) (by simp [go_sem, f162]) (by simp [go_sem, f163]) (by simp [go_sem]; exact hwk) (by rw [hst]; exact FinAt.popE w2 w3 w5 w6 w7 w8 v1 v2 v3 v4 v5) (fun j hj => by rw [get_set, if_neg (by omega), hK3 j hj]; exact hK2 j hj) (by rw [next_set]; omega)
            · rw [hj] at hS
              simp only [Bool.not_true, Bool.false_or, Bool.true_and] at hS
              simp [go_sem, f0, f164, g1, questC, hj]
              refine EWcall_frz (iContainsInt_ev (k : Int) es (by omega)) rfl (by rw [frzL_cons, frzL_cons]; exact ⟨g4.frz (Nat.zero_le _), .lit _, by rw [frzL_nil]; trivial⟩) ?_
              rw [← hS]
              rcases hsk : skipE q ns es k
              · have hst : step ((List.range k).foldl step out) k = findQ q f ns (es ++ [(k : Int)]) ((List.range k).foldl step out) := by rw [← hstep]; simp [hsk]
                have hcl : ((List.range k).foldl step out).length ≤ q.most := hcur
                have g2' : fid < τ.next := g2
                rcases g4 with ⟨rfl, e1⟩ | ⟨nid, cs, rfl, e1, e2, e3, e4, e5⟩
                · simp [go_sem, f0, f6, f164, g1, questC, get_alloc, next_alloc, show ¬ fid = τ.next by omega, show ¬ fid = τ.next + 1 by omega, get_set]
                  obtain ⟨τ2, hτ2⟩ : ∃ τ2, τ2 = ((τ.alloc 3 [AV.int (k : Int)]).alloc 3 [AV.int (k : Int)]).set fid (questC q ++ [un, .arr (τ.next + 1) 0 1 1, uo]) := ⟨_, rfl⟩
                  change EWcall _ _ _ _ _ _ _ _ _ _ (((τ.alloc 3 [AV.int (k : Int)]).alloc 3 [AV.int (k : Int)]).set fid (questC q ++ [un, .arr (τ.next + 1) 0 1 1, uo]))
                  have hF2 : FinAt fid τ2 q ns (es ++ [(k : Int)]) ((List.range k).foldl step out) := FinAt.pushE (nid := τ.next + 1) (vn := un) (vo := uo) g3 g5 g7 g2' (by rw [hτ2]; simp [get_set, e1]) (by rw [hτ2]; simp [get_set, get_alloc, next_alloc, show ¬ τ.next + 1 = fid by omega, e1]) (by rw [hτ2]; simp [ty_set, ty_alloc, next_alloc]) (by omega) (by rw [hτ2]; simp [next_set, next_alloc])
                    (fun i hi hj _ => by rw [hτ2]; exact ⟨by simp [get_set, get_alloc, next_alloc, show ¬ i = fid by omega, show ¬ i = τ.next by omega, show ¬ i = τ.next + 1 by omega], by simp [ty_set, ty_alloc, next_alloc, show ¬ i = τ.next by omega, show ¬ i = τ.next + 1 by omega]⟩)
                  have hK2 : ∀ j, j < fid → τ2.get j = σ.get j := fun j hj => by rw [hτ2]; simp [get_set, get_alloc, next_alloc, show ¬ j = fid by omega, show ¬ j = τ.next by omega, show ¬ j = τ.next + 1 by omega]; exact hK j hj
                  have hN2 : σ.next ≤ τ2.next := by rw [hτ2]; simp [next_set, next_alloc]; omega
                  rw [← hτ2]
                  refine EWcall_of (ih ns (es ++ [(k : Int)]) ((List.range k).foldl step out) fid τ2 (by simp; omega) (by omega) (by simp; omega) (fun _ => hnl) hcl hF2) ?_
                  rintro x τ3 ⟨rfl, hF3, hK3, hN3⟩
                  obtain ⟨wn, we, wo, w1, w2, w3, w4, w5, w6, w7, w8⟩ := hF3
                  rcases w4 with ⟨_, e⟩ | ⟨wid, ws, rfl, v1, v2, v3, v4, v5⟩
                  · simp at e
                  · have hwl : es.length + 1 ≤ ws.length := by have := congrArg List.length v2; simp at this; omega
                    simp [go_sem, f0, f6, f164, w1, questC, v1, hwl, show (es.length : Int) ≤ (es.length : Int) + 1 by omega]
                    exact again _ _ (by simp [go_sem, f0]) (by simp [go_sem, f6]) (by simp [go_sem, f162]) (by simp [go_sem, f163]) (by simp [go_sem]; exact hwk) (by rw [hst]; exact FinAt.popE w2 w3 w5 w6 w7 w8 v1 v2 v3 v4 v5) (fun j hj => by rw [get_set, if_neg (by omega), hK3 j hj]; exact hK2 j hj) (by rw [next_set]; omega)
                · have hcs : es.length ≤ cs.length := by have := congrArg List.length e2; simp at this; omega
                  simp [go_sem, f0, f6, f164, g1, questC, get_alloc, get_kill, ty_alloc, ty_kill, next_alloc, next_kill, e1, e2, e3, hcs, show ¬ fid = τ.next by omega, show ¬ fid = τ.next + 1 by omega, show ¬ fid = nid by omega, show ¬ nid = τ.next by omega, get_set, show es.length ≤ 9223372036854775806 by omega, show (es.length + 1) * 8 ≤ 140737488355328 by omega]
                  obtain ⟨τ2, hτ2⟩ : ∃ τ2, τ2 = (((τ.alloc 3 [AV.int (k : Int)]).kill nid).alloc 3 (es.map AV.int ++ [AV.int (k : Int)])).set fid (questC q ++ [un, .arr (τ.next + 1) 0 (es.length + 1) 1, uo]) := ⟨_, rfl⟩
                  change EWcall _ _ _ _ _ _ _ _ _ _ ((((τ.alloc 3 [AV.int (k : Int)]).kill nid).alloc 3 (es.map AV.int ++ [AV.int (k : Int)])).set fid (questC q ++ [un, .arr (τ.next + 1) 0 (es.length + 1) 1, uo]))
                  have n7 : ∀ i, idOf un = some i → ¬ i = nid := fun i hi e => g6 i hi (by rw [e]; rfl)
                  have n8 : ∀ i, idOf uo = some i → ¬ i = nid := fun i hi e => g8 nid rfl (by rw [hi, e])
                  have hF2 : FinAt fid τ2 q ns (es ++ [(k : Int)]) ((List.range k).foldl step out) := FinAt.pushE (nid := τ.next + 1) (vn := un) (vo := uo) g3 g5 g7 g2' (by rw [hτ2]; simp [get_set]) (by rw [hτ2]; simp [get_set, get_alloc, next_alloc, next_kill, show ¬ τ.next + 1 = fid by omega]) (by rw [hτ2]; simp [ty_set, ty_alloc, next_alloc, next_kill]) (by omega) (by rw [hτ2]; simp [next_set, next_alloc, next_kill])
                    (fun i hi hj hor => by
                      have hio : ¬ i = nid := by
                        rcases hor with h | h
                        · exact n7 i h
                        · exact n8 i h
                      rw [hτ2]
                      exact ⟨by simp [get_set, get_alloc, get_kill, next_alloc, next_kill, show ¬ i = fid by omega, show ¬ i = τ.next by omega, show ¬ i = τ.next + 1 by omega, hio], by simp [ty_set, ty_alloc, ty_kill, next_alloc, next_kill, show ¬ i = τ.next by omega, show ¬ i = τ.next + 1 by omega]⟩)
                  have hK2 : ∀ j, j < fid → τ2.get j = σ.get j := fun j hj => by rw [hτ2]; simp [get_set, get_alloc, get_kill, next_alloc, next_kill, show ¬ j = fid by omega, show ¬ j = τ.next by omega, show ¬ j = τ.next + 1 by omega, show ¬ j = nid by omega]; exact hK j hj
                  have hN2 : σ.next ≤ τ2.next := by rw [hτ2]; simp [next_set, next_alloc, next_kill]; omega
                  rw [← hτ2]
                  refine EWcall_of (ih ns (es ++ [(k : Int)]) ((List.range k).foldl step out) fid τ2 (by simp; omega) (by omega) (by simp; omega) (fun _ => hnl) hcl hF2) ?_
                  rintro x τ3 ⟨rfl, hF3, hK3, hN3⟩
                  obtain ⟨wn, we, wo, w1, w2, w3, w4, w5, w6, w7, w8⟩ := hF3
                  rcases w4 with ⟨_, e⟩ | ⟨wid, ws, rfl, v1, v2, v3, v4, v5⟩
                  · simp at e
                  · have hwl : es.length + 1 ≤ ws.length := by have := congrArg List.length v2; simp at this; omega
                    simp [go_sem, f0, f6, f164, w1, questC, v1, hwl, show (es.length : Int) ≤ (es.length : Int) + 1 by omega]
                    exact again _ _ (by simp [go_sem, f0]) (by simp [go_sem, f6]) (by simp [go_sem, f162]) (by simp [go_sem, f163]) (by simp [go_sem]; exact hwk) (by rw [hst]; exact FinAt.popE w2 w3 w5 w6 w7 w8 v1 v2 v3 v4 v5) (fun j hj => by rw [get_set, if_neg (by omega), hK3 j hj]; exact hK2 j hj) (by rw [next_set]; omega)
              · have hst : step ((List.range k).foldl step out) k = (List.range k).foldl step out := by rw [← hstep]; simp [hsk]
                simp [go_sem, f164]
                exact again _ _ (by simp [go_sem, f0]) (by simp [go_sem, f6]) (by simp [go_sem, f162]) (by simp [go_sem, f163]) (by simp [go_sem]; exact hwk) (by rw [hst]; exact hF) hK hN
        · have : k = q.g.edges.length := by omega
          subst this
          simp [go_sem, hlk]
          exact ⟨rfl, hF, hK, hN⟩
end Go.Proofs.YtippinddoldhkaaGreat
namespace Go.Proofs.YtippinddoldhkaaGreat
open Go Go.Ew Go.Proofs Go.RowKit
set_option maxRecDepth 10000
attribute [-go_sem] lenA
attribute [local go_sem] lenA_imm lenA_arr
/-- What 'found' comes to. -/
def foundQ (q : Quest) : List Morph := findQ q (q.p.nodes.length + q.p.edges.length) [] [] []
theorem foundQ_len (q : Quest) : (foundQ q).length ≤ q.most := findQ_len q _ _ _ _ (Nat.zero_le _)
theorem zero_finder : zeroTy Tryz.prog 238 = some [.nils, .nils, .nils, .nils, .nils, .nils, .nils, .lit (.bool false), .lit (.int .i64 0), .nils, .nils, .nils] := by kernel_rfl
theorem found_ev (q : Quest) (t : Types) (ht : wfTypes t) (hv : (validF t).2 = 0) (his : q.is = rowsF t t.nodes.length) (hw : wfQ2 q) :
    PureA Tryz.prog 170 [typesA t, graphA q.p, graphA q.g, .agg [partN q.part, partE q.part], .bool q.inj, .int q.most] (morphsA (foundQ q)) := by
  refine pureA_of Tryz.func170 rfl (by kernel_rfl) (fun σ => ?_)
  simp [go_sem, Tryz.results170, Tryz.ntmps170, typesA, graphA]
  have hK : Keeps σ ((((σ.alloc 35 (typesC t)).alloc 38 (graphC q.p)).alloc 38 (graphC q.g)).alloc 64 [partN q.part, partE q.part]) := by
    intro j hj
    simp [get_alloc, next_alloc, show ¬ j = σ.next by omega, show ¬ j = σ.next + 1 by omega, show ¬ j = σ.next + 1 + 1 by omega, show ¬ j = σ.next + 1 + 1 + 1 by omega]
  have g0 : ((((σ.alloc 35 (typesC t)).alloc 38 (graphC q.p)).alloc 38 (graphC q.g)).alloc 64 [partN q.part, partE q.part]).get σ.next = some (typesC t) := by simp [get_alloc, next_alloc, Nat.add_assoc]
  have g1 : ((((σ.alloc 35 (typesC t)).alloc 38 (graphC q.p)).alloc 38 (graphC q.g)).alloc 64 [partN q.part, partE q.part]).get (σ.next + 1) = some (graphC q.p) := by simp [get_alloc, next_alloc, Nat.add_assoc]
  have g2 : ((((σ.alloc 35 (typesC t)).alloc 38 (graphC q.p)).alloc 38 (graphC q.g)).alloc 64 [partN q.part, partE q.part]).get (σ.next + 1 + 1) = some (graphC q.g) := by simp [get_alloc, next_alloc, Nat.add_assoc]
  have g3 : ((((σ.alloc 35 (typesC t)).alloc 38 (graphC q.p)).alloc 38 (graphC q.g)).alloc 64 [partN q.part, partE q.part]).get (σ.next + 1 + 1 + 1) = some [partN q.part, partE q.part] := by simp [get_alloc, next_alloc, Nat.add_assoc]
  have hN : ((((σ.alloc 35 (typesC t)).alloc 38 (graphC q.p)).alloc 38 (graphC q.g)).alloc 64 [partN q.part, partE q.part]).next = σ.next + 4 := rfl
  generalize ((((σ.alloc 35 (typesC t)).alloc 38 (graphC q.p)).alloc 38 (graphC q.g)).alloc 64 [partN q.part, partE q.part]) = τ at hK g0 g1 g2 g3 hN ⊢
  refine EW_regionY τ 10 (.q false 0 (.q false 1 (.q false 2 (.q false 4 (.q false 5 (.q false 6 (.s 3 (.q false 7 (.s 8 (.q false 9 .done)))))))))) (by kernel_rfl) (by kernel_rfl) (fun _ _ h => h) (fun hfin => ?_)
  have m0 := hfin τ.next (Nat.le_refl _)
  simp (maxDischargeDepth := 12) [go_sem, g0, g1, g2, g3, typesC, graphC, m0]
  refine EWzc_pure (sbelow_ev t ht hv) (fun _ _ h => h) ?_
  simp (maxDischargeDepth := 12) [go_sem, g0, g1, g2, g3, typesC, graphC, m0, zero_finder, boolssA, intsA, e3sA]
  have hF : FinAt τ.next (τ.alloc 238 (questC q ++ [.nils, .nils, .nils])) q [] [] [] := by
    refine ⟨.nils, .nils, .nils, by simp [get_alloc], by simp [next_alloc], .inl ⟨rfl, rfl⟩, .inl ⟨rfl, rfl⟩, .inl ⟨rfl, rfl, rfl⟩, ?_, ?_, ?_⟩ <;> exact fun i h => by cases h
  have hc := find_ev q hw (q.p.nodes.length + q.p.edges.length) [] [] [] τ.next _ (by simp) (by simp) (by simp) (fun h => absurd rfl h) (Nat.zero_le _) hF
  simp [questC, intsA, e3sA, boolssA, his] at hc
  refine EWcall_of hc ?_
  rintro x τ1 ⟨rfl, hF1, hK1, hN1⟩
  obtain ⟨vn, ve, vo, h1, h2, h3, h4, h5, _⟩ := hF1
  simp [go_sem, h1, questC]
  refine ⟨(h5.frzle (n1 := σ.next) (by omega) (morphs_data _)), fun j hj => ?_⟩
  rw [hK1 j (by omega), get_alloc, if_neg (by omega)]
  exact hK j hj
/-- What 'all' comes to. -/
def allQ (q : Quest) : List Morph × Int := if 5000 < (foundQ q).length then ([], 3) else (foundQ q, 0)
theorem all_ev (q : Quest) (t : Types) (ht : wfTypes t) (hv : (validF t).2 = 0) (his : q.is = rowsF t t.nodes.length) (hw : wfQ2 q) (hm : q.most = 5001) :
    PureA Tryz.prog 125 [typesA t, graphA q.p, graphA q.g, .agg [partN q.part, partE q.part], .bool q.inj] (.tup [morphsA (allQ q).1, .int (allQ q).2]) := by
  refine pureA_of Tryz.func125 rfl (by kernel_rfl) (fun σ => ?_)
  have hl := foundQ_len q
  rw [hm] at hl
  have hf := found_ev q t ht hv his hw
  rw [hm] at hf
  simp [go_sem, Tryz.results125, Tryz.ntmps125, typesA, graphA, typesC, graphC, get_alloc, next_alloc, Nat.add_assoc]
  refine EWcall_pure hf ?_
  unfold allQ
  generalize foundQ q = l at hl ⊢
  simp [go_sem, morphsA]
  have hKK : Keeps σ ((((σ.alloc 35 [nodesA t.nodes, edgesA t.edges]).alloc 38 [intsA q.p.nodes, e3sA q.p.edges]).alloc 38 [intsA q.g.nodes, e3sA q.g.edges]).alloc 64 [partN q.part, partE q.part]) := by
    intro j hj
    simp [get_alloc, next_alloc, Nat.add_assoc, show ¬ j = σ.next by omega, show ¬ j = σ.next + 1 by omega, show ¬ j = σ.next + 2 by omega, show ¬ j = σ.next + 3 by omega]
  by_cases hc : 5000 < l.length
  · simp [go_sem, hc, show (5000 : Int) < l.length by omega]
    exact hKK
  · simp [go_sem, hc, show ¬ (5000 : Int) < l.length by omega]
    exact ⟨(DataL.frz (morphs_data l)), hKK⟩
end Go.Proofs.YtippinddoldhkaaGreat
namespace Go.Proofs.YtippinddoldhkaaGreat
open Go Go.Ew Go.Proofs Go.RowKit
set_option maxRecDepth 10000
theorem some_of_if {α : Type} {c : Prop} {d : Decidable c} {x r : α} (h : (if c then some x else none) = some r) : c ∧ x = r := by
  split at h
  · exact ⟨by assumption, Option.some.inj h⟩
  · cases h
/-! ### The conditions can be decided -/
instance (t : Types) : Decidable (wfTypes t) := by unfold wfTypes wfNode wfAttr wfS; infer_instance
instance (g : Graph) : Decidable (wfGraph g) := by unfold wfGraph; infer_instance
instance (q : Quest) : Decidable (wfQ q) := by unfold wfQ; infer_instance
instance (q : Quest) : Decidable (wfQ2 q) := by unfold wfQ2; infer_instance
instance (ns : List NodeT) (a : Nat) : Decidable (okUpto ns a) := by unfold okUpto; infer_instance
instance (ns : List NodeT) : Decidable (okAll ns) := by unfold okAll; infer_instance
noncomputable def s_search_valid (t : Types) (p g : Graph) : Option Int := if wfTypes t ∧ wfGraph p ∧ wfGraph g then some (svalidF t p g : Int) else none
theorem w_search_valid (t : Types) (p g : Graph) (r : Int) (h : s_search_valid t p g = some r) : PureA Tryz.prog 119 [typesA t, graphA p, graphA g] (.int r) := by
  obtain ⟨⟨h1, h2, h3⟩, rfl⟩ := some_of_if h
  exact svalid_ev t p g h1 h2 h3
def questOf (t : Types) (part : Option Morph) (p g : Graph) (inj : Bool) (most : Nat) : Quest := ⟨p, g, rowsF t t.nodes.length, part, inj, most⟩
noncomputable def s_search_all (t : Types) (p g : Graph) (part : Option Morph) (inj : Bool) : Option (List Morph × Int) := if wfTypes t ∧ (validF t).2 = 0 ∧ wfQ2 (questOf t part p g inj 5001) then some (allQ (questOf t part p g inj 5001)) else none
theorem w_search_all (t : Types) (p g : Graph) (part : Option Morph) (inj : Bool) (r : List Morph × Int) (h : s_search_all t p g part inj = some r) : PureA Tryz.prog 125 [typesA t, graphA p, graphA g, .agg [partN part, partE part], .bool inj] (.tup [morphsA r.1, .int r.2]) := by
  obtain ⟨⟨h1, h2, h3⟩, rfl⟩ := some_of_if h
  exact all_ev (questOf t part p g inj 5001) t h1 h2 rfl h3 rfl
end Go.Proofs.YtippinddoldhkaaGreat
namespace Go.Proofs.YtippinddoldhkaaGreat
open Go Go.Ew Go.Proofs Go.RowKit
set_option maxRecDepth 10000
/-- What 'one' of the reference hands back at a place: the token, its length, the error. -/
def oneT (s : List UInt8) (a : Nat) : List AV :=
  if (nextF (s.drop a)).2.2 = 0 then [.int (nextF (s.drop a)).1, .str (if (nextF (s.drop a)).1 = 3 then (s.drop (a + 1)).take ((nextF (s.drop a)).2.1 - 2) else (s.drop a).take (nextF (s.drop a)).2.1), .int 0] else [.int 0, .str [], .int 0]
end Go.Proofs.YtippinddoldhkaaGreat
namespace Go.Proofs.YtippinddoldhkaaGreat
open Go Go.Ew Go.Proofs Go.RowKit
end Go.Proofs.YtippinddoldhkaaGreat
