/-
  The drafts of type graphs and graphs are valid (layers 4, 5, 17). No program in sight.
-/
import Derived.Test.YtdacgjleiloooaaPL0
import Derived.Test.YtdacgjleiloooaaGd
set_option linter.unusedSimpArgs false
set_option linter.unusedVariables false
namespace Go.Proofs.Ytdacgjleiloooaa
open Go Go.Ew
def okB (n : Int) : Prop := 0 ≤ n ∧ n ≤ 255
def okA2 (l : List Ar2_Int) : Prop := ∀ x ∈ l, okB x.a0 ∧ okB x.a1
def okDraft (d : Gscarfjointref05_Draft) : Prop := (∀ n ∈ d.nodes, okB n) ∧ ∀ x ∈ d.edges, okB x.a0 ∧ okB x.a1 ∧ okB x.a2
/-! ### Type graphs -/
def attrOk (k : Nat) (l : List Attr) : Prop := l = [] ∨ (∃ h, 3 ≤ h ∧ h ≤ 11 ∧ l = [⟨[UInt8.ofNat (117 + k)], -3, h, []⟩]) ∨ l = [⟨[UInt8.ofNat (117 + k)], 0, 1, [[111, 102, 102], [111, 110]]⟩]
def nodeOk (k : Nat) (n : NodeT) : Prop := n.name = [UInt8.ofNat (65 + k)] ∧ -1 ≤ n.parent ∧ n.parent < k ∧ attrOk k n.attrs
def nodesOk (x : List NodeT) : Prop := ∀ k, k < x.length → nodeOk k (nth x k)
theorem nth_snoc {α : Type} [Inhabited α] (l : List α) (x : α) : nth (l ++ [x]) l.length = x := by
  simp [nth, List.getD_eq_getElem?_getD]
theorem snoc_ok {α : Type} [Inhabited α] {p : Nat → α → Prop} {l : List α} {x : α} (h : ∀ k, k < l.length → p k (nth l k)) (hx : p l.length x) : ∀ k, k < (l ++ [x]).length → p k (nth (l ++ [x]) k) := fun k hk => by
  rw [List.length_append, List.length_singleton] at hk
  by_cases e : k = l.length
  · subst e; rw [nth_snoc]; exact hx
  · rw [nth_app l x k (by omega)]; exact h k (by omega)
theorem cutA (i : Nat) (h : i < 6) : cutL ([65, 66, 67, 68, 69, 70] : List UInt8) (i : Int) ((i + 1 : Nat) : Int) = some [UInt8.ofNat (65 + i)] := by
  match i, h with
  | 0, _ => rfl
  | 1, _ => rfl
  | 2, _ => rfl
  | 3, _ => rfl
  | 4, _ => rfl
  | 5, _ => rfl
theorem cutU (i : Nat) (h : i < 6) : cutL ([117, 118, 119, 120, 121, 122] : List UInt8) (i : Int) ((i + 1 : Nat) : Int) = some [UInt8.ofNat (117 + i)] := by
  match i, h with
  | 0, _ => rfl
  | 1, _ => rfl
  | 2, _ => rfl
  | 3, _ => rfl
  | 4, _ => rfl
  | 5, _ => rfl
theorem cutE (i : Nat) (h : i < 5) : cutL ([101, 102, 103, 104, 105] : List UInt8) (i : Int) ((i + 1 : Nat) : Int) = some [UInt8.ofNat (101 + i)] := by
  match i, h with
  | 0, _ => rfl
  | 1, _ => rfl
  | 2, _ => rfl
  | 3, _ => rfl
  | 4, _ => rfl
theorem wrap_byte {n : Int} (h : okB n) : IntKind.i64.wrap n = n := wrap64_of _ (by have := h.1; omega) (by have := h.2; omega)
theorem wrap8_div {n k : Int} (h : okB n) (hk : 0 < k) : ∃ m, IntKind.u8.wrap (Int.tdiv n k) = m ∧ okB m := by
  refine ⟨_, rfl, ?_⟩
  have h1 : 0 ≤ Int.tdiv n k := Int.tdiv_nonneg h.1 (by omega)
  have h2 : Int.tdiv n k ≤ 255 := Int.le_trans (Int.tdiv_le_self _ h.1) h.2
  have : IntKind.u8.wrap (Int.tdiv n k) = Int.tdiv n k := by rw [IntKind.wrap_u8]; omega
  rw [this]
  exact ⟨h1, h2⟩
theorem tmod_rng {n k : Int} (h : 0 ≤ n) (hk : 0 < k) : 0 ≤ Int.tmod n k ∧ Int.tmod n k < k := ⟨Int.tmod_nonneg _ h, Int.tmod_lt_of_pos _ hk⟩
theorem madeNodes (l : List Ar2_Int) (hl : l.length ≤ 6) (hb : okA2 l) (F : Nat) (hF : 10 < F) : ∃ y x, whileG (b1_ref04_Made l) F (0, []) = some (.done (y, x)) ∧ nodesOk x ∧ 1 ≤ x.length ∧ x.length ≤ 6 := by
  rcases whileG_inv (body := b1_ref04_Made l) (fun s => s.1 = (s.2.length : Int) ∧ s.2.length ≤ 6 ∧ nodesOk s.2) (fun s => 6 - s.2.length) (fun s => nodesOk s.2 ∧ 1 ≤ s.2.length ∧ s.2.length ≤ 6) (fun _ => False) (fun ⟨y, x⟩ ⟨h1, h2, h3⟩ => by
    simp only at h1 h2 h3
    subst h1
    have hw : IntKind.i64.wrap ((x.length : Int) + 1) = ((x.length + 1 : Nat) : Int) := by rw [wrap64_of _ (by omega) (by omega)]; rfl
    unfold b1_ref04_Made
    simp only
    by_cases c : x.length = 0 ∨ (x.length < l.length ∧ x.length < 6)
    · left
      have hx6 : x.length < 6 := by omega
      rw [bif_t (by
        rcases c with c | c
        · rw [c]; rfl
        · simp only [Bool.or_eq_true, Bool.and_eq_true, decide_eq_true_eq]; right; omega)]
      have hpq : ∃ p q, ((bif decide ((x.length : Int) < (l.length : Int)) then ((getI l (x.length : Int)).bind fun x3 => some (Out.done (x3.a0, x3.a1))) else some (Out.done (0, 0))) : Option (Out (Int × Int) (Ct (Int × List NodeT) Types))) = some (.done (p, q)) ∧ okB p ∧ okB q := by
        by_cases cl : x.length < l.length
        · rw [bif_t (by simpa using cl), getI_nat, getN_some cl]
          have := hb _ (List.getElem_mem cl)
          exact ⟨_, _, rfl, this.1, this.2⟩
        · rw [bif_f (by simpa using cl)]
          exact ⟨0, 0, rfl, ⟨by omega, by omega⟩, ⟨by omega, by omega⟩⟩
      obtain ⟨p, q, e1, hp, hq⟩ := hpq
      rw [e1]
      simp only [Option.bind_some, Out.on]
      rw [hw, cutA _ hx6, cutU _ hx6, nzI_of (by omega), wrap_byte hp]
      simp only [Option.bind_some]
      obtain ⟨m1, e2, hm1⟩ := wrap8_div hq (k := 4) (by omega)
      obtain ⟨m2, e3, hm2⟩ := wrap8_div hp (k := 16) (by omega)
      rw [e2, e3, wrap_byte hm1]
      obtain ⟨r1, r2⟩ := tmod_rng hm1.1 (k := 9) (by omega)
      obtain ⟨r3, r4⟩ := tmod_rng hp.1 (k := ((x.length + 1 : Nat) : Int)) (by omega)
      rw [wrap64_of _ (show -9223372036854775808 ≤ 3 + Int.tmod m1 9 by omega) (by omega), wrap64_of _ (show -9223372036854775808 ≤ Int.tmod p ((x.length + 1 : Nat) : Int) - 1 by omega) (by omega)]
      have hat : ∃ x4, ((bif decide (Int.tmod q 4 = 1) then some (Out.done [(⟨[UInt8.ofNat (117 + x.length)], -3, 3 + Int.tmod m1 9, []⟩ : Attr)]) else bif decide (Int.tmod q 4 = 2) then some (Out.done [(⟨[UInt8.ofNat (117 + x.length)], 0, 1, [[111, 102, 102], [111, 110]]⟩ : Attr)]) else some (Out.done [])) : Option (Out (List Attr) (Ct (Int × List NodeT) Types))) = some (.done x4) ∧ attrOk x.length x4 := by
        by_cases d1 : Int.tmod q 4 = 1
        · rw [bif_t (by simpa using d1)]; exact ⟨_, rfl, .inr (.inl ⟨_, by omega, by omega, rfl⟩)⟩
        · rw [bif_f (by simpa using d1)]
          by_cases d2 : Int.tmod q 4 = 2
          · rw [bif_t (by simpa using d2)]; exact ⟨_, rfl, .inr (.inr rfl)⟩
          · rw [bif_f (by simpa using d2)]; exact ⟨_, rfl, .inl rfl⟩
      obtain ⟨x4, e4, ha⟩ := hat
      rw [e4]
      simp only [Option.bind_some]
      rw [catL_of (by simp; omega)]
      refine ⟨_, rfl, ⟨by simp, by simp; omega, ?_⟩, by simp; omega⟩
      exact snoc_ok (p := nodeOk) h3 ⟨rfl, by simp only; omega, by simp only; omega, ha⟩
    · right; left
      rw [bif_f (by
        simp only [Bool.or_eq_false_iff, Bool.and_eq_false_iff, decide_eq_false_iff_not]
        refine ⟨by omega, ?_⟩
        by_cases d : x.length < l.length
        · right; omega
        · left; omega)]
      exact ⟨_, rfl, h3, by simp only; omega, h2⟩) F (0, []) ⟨rfl, by simp, fun k hk => by simp at hk⟩ (by simp; omega) with ⟨⟨y, x⟩, e, h⟩ | ⟨_, _, h⟩
  · exact ⟨y, x, e, h⟩
  · exact h.elim
def edgeOk (n : Nat) (k : Nat) (e : EdgeT) : Prop := e.name = [UInt8.ofNat (101 + k)] ∧ (0 ≤ e.src ∧ e.src < n) ∧ (0 ≤ e.tgt ∧ e.tgt < n) ∧ e.outLow = 0 ∧ e.outHigh = -1 ∧ e.inLow = 0 ∧ e.inHigh = -1
theorem madeEdges (l : List Ar2_Int) (hl : l.length ≤ 5) (hb : okA2 l) (x : List NodeT) (hx : 1 ≤ x.length) (hx6 : x.length ≤ 6) (F : Nat) (hF : 10 < F) : ∃ y es, whileG (b3_ref04_Made l x) F (0, []) = some (.done (y, es)) ∧ (∀ k, k < es.length → edgeOk x.length k (nth es k)) ∧ es.length ≤ 5 := by
  rcases whileG_inv (body := b3_ref04_Made l x) (fun s => s.1 = (s.2.length : Int) ∧ s.2.length ≤ 5 ∧ ∀ k, k < s.2.length → edgeOk x.length k (nth s.2 k)) (fun s => 5 - s.2.length) (fun s => (∀ k, k < s.2.length → edgeOk x.length k (nth s.2 k)) ∧ s.2.length ≤ 5) (fun _ => False) (fun ⟨y, es⟩ ⟨h1, h2, h3⟩ => by
    simp only at h1 h2 h3
    subst h1
    have hw : IntKind.i64.wrap ((es.length : Int) + 1) = ((es.length + 1 : Nat) : Int) := by rw [wrap64_of _ (by omega) (by omega)]; rfl
    unfold b3_ref04_Made
    simp only
    by_cases c : es.length < l.length ∧ es.length < 5
    · left
      rw [bif_t (by simp only [Bool.and_eq_true, decide_eq_true_eq]; omega), hw, cutE _ c.2, getI_nat, getN_some c.1]
      simp only [Option.bind_some]
      rw [nzI_of (by omega)]
      simp only [Option.bind_some]
      have hbx := hb _ (List.getElem_mem c.1)
      rw [wrap_byte hbx.1, wrap_byte hbx.2, catL_of (by simp; omega)]
      refine ⟨_, rfl, ⟨by simp, by simp; omega, ?_⟩, by simp; omega⟩
      exact snoc_ok (p := edgeOk x.length) h3 ⟨rfl, tmod_rng hbx.1.1 (by omega), tmod_rng hbx.2.1 (by omega), rfl, rfl, rfl, rfl⟩
    · right; left
      rw [bif_f (by
        simp only [Bool.and_eq_false_iff, decide_eq_false_iff_not]
        by_cases d : es.length < l.length
        · right; omega
        · left; omega)]
      exact ⟨_, rfl, h3, h2⟩) F (0, []) ⟨rfl, by simp, fun k hk => by simp at hk⟩ (by simp; omega) with ⟨⟨y, x⟩, e, h⟩ | ⟨_, _, h⟩
  · exact ⟨y, x, e, h⟩
  · exact h.elim
theorem u8_inj {a b c : Nat} (ha : c + a < 256) (hb : c + b < 256) (h : UInt8.ofNat (c + a) = UInt8.ofNat (c + b)) : a = b := by
  have := congrArg UInt8.toNat h
  simp only [UInt8.toNat_ofNat'] at this
  omega
theorem nameA (i : Nat) (h : i < 6) : isNameF [UInt8.ofNat (65 + i)] = true := by
  match i, h with
  | 0, _ => decide +kernel
  | 1, _ => decide +kernel
  | 2, _ => decide +kernel
  | 3, _ => decide +kernel
  | 4, _ => decide +kernel
  | 5, _ => decide +kernel
theorem nameU (i : Nat) (h : i < 6) : isNameF [UInt8.ofNat (117 + i)] = true := by
  match i, h with
  | 0, _ => decide +kernel
  | 1, _ => decide +kernel
  | 2, _ => decide +kernel
  | 3, _ => decide +kernel
  | 4, _ => decide +kernel
  | 5, _ => decide +kernel
theorem nameE' (i : Nat) (h : i < 5) : isNameF [UInt8.ofNat (101 + i)] = true := by
  match i, h with
  | 0, _ => decide +kernel
  | 1, _ => decide +kernel
  | 2, _ => decide +kernel
  | 3, _ => decide +kernel
  | 4, _ => decide +kernel
theorem made_okUpto {x : List NodeT} (h : nodesOk x) (a : Nat) (ha : a < x.length) : okUpto x a := fun j hj => by
  obtain ⟨_, h1, h2, h3⟩ := h j (by omega)
  refine ⟨h1, h2, ?_⟩
  rcases h3 with e | ⟨_, _, _, e⟩ | e <;> rw [e] <;> simp
theorem made_attrs {x : List NodeT} (h : nodesOk x) : ∀ (a : Nat), a < x.length → (attrsF x a).length ≤ a + 1 ∧ ∀ y ∈ attrsF x a, ∃ j, j ≤ a ∧ y.name = [UInt8.ofNat (117 + j)] := by
  intro a
  induction a using Nat.strongRecOn with
  | _ a ih =>
    intro ha
    obtain ⟨_, h1, h2, h3⟩ := h a ha
    have hown : (nth x a).attrs.length ≤ 1 ∧ ∀ y ∈ (nth x a).attrs, y.name = [UInt8.ofNat (117 + a)] := by
      rcases h3 with e | ⟨_, _, _, e⟩ | e <;> rw [e] <;> simp
    by_cases hp : (nth x a).parent < 0
    · rw [attrsF_neg hp]
      exact ⟨by omega, fun y hy => ⟨a, Nat.le_refl _, hown.2 y hy⟩⟩
    · obtain ⟨p, hpp⟩ : ∃ p : Nat, (nth x a).parent = p := ⟨(nth x a).parent.toNat, by omega⟩
      rw [attrsF_pos (made_okUpto h a ha) hpp]
      obtain ⟨i1, i2⟩ := ih p (by omega) (by omega)
      refine ⟨by rw [List.length_append]; omega, fun y hy => ?_⟩
      rcases List.mem_append.1 hy with hy | hy
      · obtain ⟨j, hj, e⟩ := i2 y hy
        exact ⟨j, by omega, e⟩
      · exact ⟨a, Nat.le_refl _, hown.2 y hy⟩
theorem made_node {x : List NodeT} (h : nodesOk x) (h6 : x.length ≤ 6) (i : Nat) (hi : i < x.length) : nodeF x i = 0 := by
  obtain ⟨hn, h1, h2, h3⟩ := h i hi
  have hown : (nth x i).attrs.length ≤ 1 := by rcases h3 with e | ⟨_, _, _, e⟩ | e <;> rw [e] <;> simp
  unfold nodeF
  rw [hn, if_neg (by rw [nameA i (by omega)]; simp), if_neg, if_neg (by omega), if_neg (by omega), if_neg (by have := (made_attrs h i hi).1; omega)]
  · -- the own attribute
    have hsplit : ∃ pre, attrsF x i = pre ++ (nth x i).attrs ∧ ∀ y ∈ pre, ∃ j, j < i ∧ y.name = [UInt8.ofNat (117 + j)] := by
      by_cases hp : (nth x i).parent < 0
      · exact ⟨[], by rw [attrsF_neg hp]; rfl, fun y hy => by cases hy⟩
      · obtain ⟨p, hpp⟩ : ∃ p : Nat, (nth x i).parent = p := ⟨(nth x i).parent.toNat, by omega⟩
        refine ⟨attrsF x p, attrsF_pos (made_okUpto h i hi) hpp, fun y hy => ?_⟩
        obtain ⟨j, hj, e⟩ := (made_attrs h p (by omega)).2 y hy
        exact ⟨j, by omega, e⟩
    obtain ⟨pre, hpre, hno⟩ := hsplit
    have htake : (attrsF x i).take ((attrsF x i).length - (nth x i).attrs.length) = pre := by
      rw [hpre, List.length_append, Nat.add_sub_cancel, List.take_left]
    rw [htake]
    have hnn : hasName pre [UInt8.ofNat (117 + i)] = false := by
      unfold hasName
      rw [List.any_eq_false]
      intro y hy e
      obtain ⟨j, hj, e2⟩ := hno y hy
      rw [e2] at e
      have e3 : UInt8.ofNat (117 + j) = UInt8.ofNat (117 + i) := by simpa using e
      have := u8_inj (by omega) (by omega) e3
      omega
    have hat : ∀ a : Attr, a.name = [UInt8.ofNat (117 + i)] → namesF a.names = 0 → rangeOk a = true → attrsErr pre [a] = 0 := fun a e1 e2 e3 => by
      simp only [attrsErr, attributeF, e1, nameU i (by omega), hnn, e2, e3, Bool.not_true, Bool.false_eq_true, if_false, if_true, ne_eq, not_true]
    rcases h3 with e | ⟨hh, b1, b2, e⟩ | e
    · rw [e]; rfl
    · rw [e]
      refine hat _ rfl rfl ?_
      simp only [rangeOk, List.length_nil, Nat.lt_irrefl, if_false]
      simp
      omega
    · rw [e]
      exact hat _ rfl (show namesF [[111, 102, 102], [111, 110]] = 0 by decide +kernel) (by simp [rangeOk])
  · intro hany
    obtain ⟨y, hy, he⟩ := List.any_eq_true.1 hany
    obtain ⟨j, hj⟩ := List.mem_iff_getElem?.1 hy
    rw [List.getElem?_take] at hj
    split at hj
    · rename_i hjk
      rw [List.getElem?_eq_getElem (by omega), nth_eq x j (by omega)] at hj
      have hnj := (h j (by omega)).1
      rw [Option.some.inj hj] at hnj
      rw [hnj] at he
      have e3 : UInt8.ofNat (65 + j) = UInt8.ofNat (65 + i) := by simpa using he
      have := u8_inj (by omega) (by omega) e3
      omega
    · cases hj
theorem made_edge {t : Types} (h5 : t.edges.length ≤ 5) (h : ∀ k, k < t.edges.length → edgeOk t.nodes.length k (nth t.edges k)) (i : Nat) (hi : i < t.edges.length) : edgeF t i = 0 := by
  obtain ⟨hn, h1, h2, h3, h4, h5', h6⟩ := h i hi
  unfold edgeF
  simp only
  rw [hn, if_neg (by rw [nameE' i (by omega)]; simp), if_neg, if_neg]
  · simp [h1.1, h1.2, h2.1, h2.2, boundF, h3, h4, h5', h6]
  · intro hany
    obtain ⟨y, hy, he⟩ := List.any_eq_true.1 hany
    obtain ⟨j, hj⟩ := List.mem_iff_getElem?.1 hy
    rw [List.getElem?_take] at hj
    split at hj
    · rename_i hjk
      rw [List.getElem?_eq_getElem (by omega), nth_eq t.edges j (by omega)] at hj
      have hnj := (h j (by omega)).1
      rw [Option.some.inj hj] at hnj
      rw [hnj] at he
      have e3 : UInt8.ofNat (101 + j) = UInt8.ofNat (101 + i) := by simpa using he
      have := u8_inj (by omega) (by omega) e3
      omega
    · cases hj
/-- A type graph as a draft describes it. -/
structure MadeT (t : Types) : Prop where
  valid : (validF t).2 = 0
  wf : wfTypes t
  n6 : t.nodes.length ≤ 6
  n1 : 1 ≤ t.nodes.length
  e5 : t.edges.length ≤ 5
  ends : ∀ k, k < t.edges.length → edgeOk t.nodes.length k (nth t.edges k)
theorem mem_nth {α : Type} [Inhabited α] {l : List α} {x : α} (h : x ∈ l) : ∃ k, k < l.length ∧ nth l k = x := by
  obtain ⟨k, hk⟩ := List.mem_iff_getElem?.1 h
  have hl := (List.getElem?_eq_some_iff.1 hk).1
  rw [List.getElem?_eq_getElem hl, nth_eq l k hl] at hk
  exact ⟨k, hl, Option.some.inj hk⟩
theorem madeT_some (a b : List Ar2_Int) (ha : a.length ≤ 6) (hb : b.length ≤ 5) (oa : okA2 a) (ob : okA2 b) (F : Nat) (hF : 10 < F) : ∃ t, s_ref04_Made F a b = some t ∧ MadeT t := by
  obtain ⟨y, x, e1, h1, h2, h3⟩ := madeNodes a ha oa F hF
  obtain ⟨z, es, e2, k1, k2⟩ := madeEdges b hb ob x h2 h3 F hF
  unfold s_ref04_Made
  rw [e1]
  simp only [Option.bind_some, Out.on]
  rw [e2]
  refine ⟨⟨x, es⟩, rfl, ⟨?_, ?_, h3, h2, k2, k1⟩⟩
  · unfold validF
    simp only
    rw [if_neg (by omega), if_neg (by omega), firstErr_none (nodeF x) x.length 0 fun j _ hj => made_node h1 h3 j (by omega)]
    simp only
    rw [firstErr_none (edgeF ⟨x, es⟩) es.length 0 fun j _ hj => made_edge (t := ⟨x, es⟩) k2 k1 j (by simpa using hj)]
  · refine ⟨by simp only; omega, by simp only; omega, fun n hn => ?_, fun e he => ?_⟩
    · obtain ⟨k, hk, rfl⟩ := mem_nth hn
      obtain ⟨m1, _, _, m4⟩ := h1 k hk
      refine ⟨by rw [m1]; simp [wfS], ?_, ?_⟩
      · rcases m4 with e | ⟨_, _, _, e⟩ | e <;> rw [e] <;> simp
      · intro a ha
        rcases m4 with e | ⟨_, _, _, e⟩ | e <;> rw [e] at ha
        · cases ha
        · rw [List.mem_singleton.1 ha]; exact ⟨by simp [wfS], by simp, fun s hs => by cases hs⟩
        · rw [List.mem_singleton.1 ha]
          refine ⟨by simp [wfS], by simp, fun s hs => ?_⟩
          simp only [List.mem_cons, List.not_mem_nil, or_false] at hs
          rcases hs with rfl | rfl <;> simp [wfS]
    · obtain ⟨k, hk, rfl⟩ := mem_nth he
      rw [(k1 k hk).1]; simp [wfS]
end Go.Proofs.Ytdacgjleiloooaa
