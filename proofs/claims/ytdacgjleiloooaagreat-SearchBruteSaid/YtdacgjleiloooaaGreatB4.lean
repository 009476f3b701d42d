/-
  Type graphs: the reference's Valid comes to what the program's does. No program in sight.
-/
import Derived.Test.YtdacgjleiloooaaGreatB2
import Derived.Test.YtdacgjleiloooaaGreatB3
import Derived.Test.YtdacgjleiloooaaGreatGd
set_option linter.unusedSimpArgs false
set_option linter.unusedVariables false
namespace Go.Proofs.YtdacgjleiloooaaGreat
open Go Go.Ew
theorem isName_some {s : List UInt8} (h : wfS s) : s_ref01_IsName s = some (isNameF s) := by
  unfold s_ref01_IsName isNameF
  rw [if_pos (by unfold wfS at h; omega)]
/-! ### names -/
theorem contains_take {α : Type} [BEq α] [LawfulBEq α] (l : List α) (x : α) (i : Nat) (hi : i ≤ l.length) : (l.take i).contains x = true ↔ ∃ k, k < i ∧ l[k]? = some x := by
  simp only [List.contains_iff_mem]
  constructor
  · intro h
    obtain ⟨k, hk⟩ := List.mem_iff_getElem?.1 h
    rw [List.getElem?_take] at hk
    split at hk
    · exact ⟨k, by assumption, hk⟩
    · cases hk
  · rintro ⟨k, h1, h2⟩
    refine List.mem_iff_getElem?.2 ⟨k, ?_⟩
    rw [List.getElem?_take, if_pos h1, h2]
/-- The error of name number i. -/
def nameE (l : List (List UInt8)) (i : Nat) : Option Int := if !isNameF (nth l i) then some 2 else if (l.take i).contains (nth l i) then some 5 else none
theorem namesG_hit (l : List (List UInt8)) : ∀ (n i : Nat), i + n = l.length → ((namesG (l.take i) (l.drop i) : Nat) : Int) = (match hitF (nameE l) n i with | some r => r | none => 0)
  | 0, i, h => by
    rw [List.drop_eq_nil_of_le (by omega)]
    rfl
  | n + 1, i, h => by
    rw [drop_nth l i (by omega), namesG]
    unfold hitF nameE
    by_cases h1 : isNameF (nth l i) = true
    · by_cases h2 : (l.take i).contains (nth l i) = true
      · have h2' : nth l i ∈ l.take i := by simpa using h2
        simp [h1, h2']
      · rw [show l.take i ++ [nth l i] = l.take (i + 1) from (take_nth l i (by omega)).symm]
        simp only [h1, Bool.not_true, Bool.false_eq_true, if_false, h2]
        exact namesG_hit l n (i + 1) (by omega)
    · simp [h1]
theorem names_some {l : List (List UInt8)} (h : ∀ s ∈ l, wfS s) (hl : l.length ≤ 140737488351232) : s_ref04_names l = some ((namesF l : Nat) : Int) := by
  unfold s_ref04_names namesF
  by_cases h20 : 20 < l.length
  · rw [bif_t (by simp; omega), if_pos h20]
    rfl
  rw [bif_f (by simp; omega), if_neg h20]
  have hloop : forN (b1_ref04_names l) l.length 0 () = some (outO (hitF (nameE l) l.length 0)) := by
    refine forN_hit (nameE l) _ _ fun j _ hj _ => ?_
    have hj' : j < l.length := by omega
    have hw : wfS (nth l j) := h _ (nth_mem l j hj')
    unfold b1_ref04_names
    rw [getN_some hj', nth_eq l j hj']
    simp only [Option.bind_some]
    rw [isName_some hw]
    simp only [Option.bind_some]
    unfold nameE
    by_cases h1 : isNameF (nth l j) = true
    · simp only [h1, Bool.not_true, cond_false, Bool.false_eq_true, if_false]
      rw [forR_hit (fun k => if nth l k == nth l j then some (.ret 5) else none) j 0 (by omega) fun k _ hk _ => by
        unfold b2_ref04_names
        rw [getN_some (by omega), nth_eq l k (by omega)]
        simp only [Option.bind_some]
        by_cases e : (nth l k == nth l j) = true <;> simp [e, ctO]]
      simp only [Option.bind_some, Nat.sub_zero]
      by_cases h2 : (l.take j).contains (nth l j) = true
      · obtain ⟨k, k1, k2⟩ := (contains_take l _ j (by omega)).1 h2
        have k3 : nth l k = nth l j := by rw [← nth_eq l k (by omega)]; rw [List.getElem?_eq_getElem (by omega)] at k2; exact Option.some.inj k2
        have hh : ∃ r, hitF (fun k => if nth l k == nth l j then some (Ct.ret (S := Unit) (5 : Int)) else none) j 0 = some r := by
          cases hq : hitF (fun k => if nth l k == nth l j then some (Ct.ret (S := Unit) (5 : Int)) else none) j 0 with
          | some r => exact ⟨r, rfl⟩
          | none => have := hitF_none.1 hq k (by omega) (by omega); simp [k3] at this
        obtain ⟨r, hr⟩ := hh
        obtain ⟨m, _, _, m3, _⟩ := hitF_some hr
        rw [hr]
        split at m3
        · cases m3
          have h2' : nth l j ∈ l.take j := by simpa using h2
          simp [h2', outO, Out.on, ctO]
        · cases m3
      · have hq : hitF (fun k => if nth l k == nth l j then some (Ct.ret (S := Unit) (5 : Int)) else none) j 0 = none := hitF_none.2 fun k _ hk => by
          rw [if_neg]
          intro e
          have e' : nth l k = nth l j := by simpa using e
          exact h2 ((contains_take l _ j (by omega)).2 ⟨k, by omega, by rw [List.getElem?_eq_getElem (by omega), nth_eq l k (by omega), e']⟩)
        rw [hq]
        have h2' : ¬ nth l j ∈ l.take j := by simpa using h2
        simp [h2', outO, Out.on, ctO]
    · simp [h1, ctO]
  rw [hloop]
  have hG := namesG_hit l l.length 0 (by omega)
  simp only [List.take_zero, List.drop_zero] at hG
  rw [hG]
  simp only [Option.bind_some]
  cases hitF (nameE l) l.length 0 <;> rfl
theorem attribute_some {a : Attr} (h : wfAttr a) (before : List Attr) (h1 : isNameF a.name = true) (h2 : hasName before a.name = false) : s_ref04_attribute a = some ((attributeF a before : Nat) : Int) := by
  obtain ⟨w1, w2, w3⟩ := h
  unfold s_ref04_attribute attributeF
  simp only [h1, h2, Bool.not_true, Bool.false_eq_true, if_false, s_ref04_in, Option.bind_some]
  by_cases h0 : a.names.length = 0
  · have e : a.names = [] := List.eq_nil_of_length_eq_zero h0
    have en : namesF a.names = 0 := by rw [e]; rfl
    rw [bif_t (by simp [e])]
    simp only [en, ne_eq, not_true, if_false, rangeOk, if_neg (show ¬ 0 < a.names.length by omega)]
    by_cases c1 : -1000000 ≤ a.low <;> by_cases c2 : a.low ≤ a.high <;> by_cases c3 : a.high ≤ 1000000 <;> by_cases c4 : a.low ≤ 1000000 <;> simp [c1, c2, c3, c4] <;> omega
  · rw [bif_f (by simp; exact fun e => h0 (by rw [e]; rfl)), names_some w3 w2]
    simp only [Option.bind_some]
    by_cases c0 : namesF a.names = 0
    · rw [bif_f (by simp [c0])]
      have hw : IntKind.i64.wrap (((a.names.length : Nat) : Int) - 1) = (a.names.length : Int) - 1 := wrap64_of _ (by omega) (by omega)
      rw [hw]
      simp only [c0, ne_eq, not_true, if_false, rangeOk, if_pos (Nat.pos_of_ne_zero h0)]
      by_cases c1 : a.low = 0 <;> by_cases c2 : a.high = (a.names.length : Int) - 1 <;> simp [c1, c2]
    · rw [bif_t (by simp [c0])]
      simp [c0]
end Go.Proofs.YtdacgjleiloooaaGreat
namespace Go.Proofs.YtdacgjleiloooaaGreat
open Go Go.Ew
/-- Few attributes in each type, as the laws ask. -/
def fewA (t : Types) : Prop := ∀ n ∈ t.nodes, n.attrs.length ≤ 30
theorem attrs_neg (F : Nat) (t : Types) (a : Int) (h : a < 0) : s_ref04_attrs (F + 1) t a = some [] := by
  rw [s_ref04_attrs, bif_t (by simpa using h)]
def okPre (ns : List NodeT) (a : Nat) : Prop := (-1 ≤ (nth ns a).parent ∧ (nth ns a).parent < a) ∧ ∀ j, j < a → -1 ≤ (nth ns j).parent ∧ (nth ns j).parent < j ∧ (nth ns j).attrs.length ≤ 4
theorem attrs_some {t : Types} (hA : fewA t) : ∀ (a F : Nat), a < t.nodes.length → a ≤ 100 → okPre t.nodes a → a + 1 < F → s_ref04_attrs F t a = some (attrsF t.nodes a) ∧ (attrsF t.nodes a).length ≤ 30 * (a + 1) := by
  intro a
  induction a using Nat.strongRecOn with
  | _ a ih =>
    intro F ha h100 hok hF
    obtain ⟨F, rfl⟩ : ∃ G, F = G + 1 := ⟨F - 1, by omega⟩
    obtain ⟨⟨p1, p2⟩, hprev⟩ := hok
    have hm := nth_mem t.nodes a ha
    have hlen := hA _ hm
    rw [s_ref04_attrs, bif_f (by simp), getI_nat, getN_some ha, nth_eq t.nodes a ha]
    simp only [Option.bind_some]
    by_cases hp : (nth t.nodes a).parent < 0
    · obtain ⟨G, rfl⟩ : ∃ G, F = G + 1 := ⟨F - 1, by omega⟩
      rw [attrs_neg _ _ _ hp]
      simp only [Option.bind_some]
      have e : attrsF t.nodes a = (nth t.nodes a).attrs := by
        unfold attrsF
        rw [attrsG, if_neg (by omega), attrsG_neg _ _ _ (by simpa using hp)]
        simp
      rw [catL_of (by simp)]
      simp only [Option.bind_some, List.append_nil]
      rw [catL_of (by simp; omega), e]
      exact ⟨rfl, by omega⟩
    · obtain ⟨p, hpp⟩ : ∃ p : Nat, (nth t.nodes a).parent = p := ⟨(nth t.nodes a).parent.toNat, by omega⟩
      obtain ⟨e1, e2⟩ := ih p (by omega) F (by omega) (by omega) ⟨by have := hprev p (by omega); omega, fun j hj => hprev j (by omega)⟩ (by omega)
      rw [hpp, e1]
      simp only [Option.bind_some]
      have e : attrsF t.nodes a = attrsF t.nodes p ++ (nth t.nodes a).attrs := by
        conv => lhs; unfold attrsF
        rw [attrsG, if_neg (by omega)]
        simp only [Int.toNat_natCast]
        rw [hpp, attrsG_fuel t.nodes a p (fun j hj => hprev j (by omega)) (by omega)]
      rw [catL_of (by simp; omega)]
      simp only [Option.bind_some, List.nil_append]
      rw [catL_of (by omega), e]
      refine ⟨rfl, ?_⟩
      rw [List.length_append]
      omega
/-- The error of attribute number k. -/
def attE (all : List Attr) (k : Nat) : Option Int := if attributeF (nth all k) (all.take k) ≠ 0 then some ((attributeF (nth all k) (all.take k) : Nat) : Int) else none
theorem attrsErr_hit (all : List Attr) : ∀ (n k : Nat), k + n = all.length → ((attrsErr (all.take k) (all.drop k) : Nat) : Int) = (match hitF (attE all) n k with | some r => r | none => 0)
  | 0, k, h => by rw [List.drop_eq_nil_of_le (by omega)]; rfl
  | n + 1, k, h => by
    rw [drop_nth all k (by omega), attrsErr]
    unfold hitF attE
    by_cases c : attributeF (nth all k) (all.take k) = 0
    · rw [show all.take k ++ [nth all k] = all.take (k + 1) from (take_nth all k (by omega)).symm]
      simp only [c, ne_eq, not_true, if_false]
      exact attrsErr_hit all n (k + 1) (by omega)
    · simp [c]
theorem hasName_take (all : List Attr) (k : Nat) (hk : k ≤ all.length) (s : List UInt8) : hasName (all.take k) s = true ↔ ∃ j, j < k ∧ (nth all j).name = s := by
  unfold hasName
  rw [List.any_eq_true]
  constructor
  · rintro ⟨y, hy, he⟩
    obtain ⟨j, hj⟩ := List.mem_iff_getElem?.1 hy
    rw [List.getElem?_take] at hj
    split at hj
    · rename_i hjk
      rw [List.getElem?_eq_getElem (by omega)] at hj
      refine ⟨j, hjk, ?_⟩
      rw [← nth_eq all j (by omega), Option.some.inj hj]
      simpa using he
    · cases hj
  · rintro ⟨j, h1, h2⟩
    refine ⟨nth all j, List.mem_iff_getElem?.2 ⟨j, ?_⟩, by simpa using h2⟩
    rw [List.getElem?_take, if_pos h1, List.getElem?_eq_getElem (by omega), nth_eq all j (by omega)]
theorem hit_exists {R : Type} {f : Nat → Option R} {n i j : Nat} {r : R} (h1 : i ≤ j) (h2 : j < i + n) (h3 : f j = some r) (h4 : ∀ k r', f k = some r' → r' = r) : hitF f n i = some r := by
  cases hq : hitF f n i with
  | some r' => obtain ⟨k, _, _, hk, _⟩ := hitF_some hq; rw [h4 k r' hk]
  | none => rw [hitF_none.1 hq j h1 h2] at h3; cases h3
theorem nodeLoop {all : List Attr} (hw : ∀ a ∈ all, wfAttr a) (hl : all.length ≤ 1000) (m F : Nat) (hm : m ≤ all.length) (hF : 1001 < F) :
    whileG (b3_ref04_node all) F (m : Int) = some (outI ((all.length : Nat) : Int) (hitF (attE all) (all.length - m) m)) := by
  refine whileG_hit (attE all) all.length F m hm (by omega) (fun j h1 h2 _ => ?_) ?_
  · unfold b3_ref04_node
    have hwj := hw _ (nth_mem all j h2)
    rw [bif_t (by simp; omega), getI_nat, getN_some h2, nth_eq all j h2]
    simp only [Option.bind_some]
    rw [isName_some hwj.1]
    simp only [Option.bind_some]
    have hwr : IntKind.i64.wrap ((j : Int) + 1) = ((j + 1 : Nat) : Int) := by rw [wrap64_of _ (by omega) (by omega)]; rfl
    by_cases c1 : isNameF (nth all j).name = true
    · rw [bif_f (by simp [c1])]
      rw [show ((j : Int)).toNat = j from rfl, forR_hit (fun k => if (nth all k).name == (nth all j).name then some (.ret 5) else none) j 0 (by omega) fun k _ hk _ => by
        unfold b4_ref04_node
        rw [getN_some (by omega), nth_eq all k (by omega)]
        simp only [Option.bind_some]
        by_cases e : ((nth all k).name == (nth all j).name) = true <;> simp [e, ctO]]
      simp only [Option.bind_some, Nat.sub_zero]
      by_cases c2 : hasName (all.take j) (nth all j).name = true
      · obtain ⟨k, k1, k2⟩ := (hasName_take all j (by omega) _).1 c2
        rw [hit_exists (r := Ct.ret 5) (j := k) (by omega) (by omega) (by simp [k2]) fun k r' h => by split at h <;> cases h; rfl]
        simp [outO, Out.on, attE, attributeF, c1, c2, ctI]
      · rw [hitF_none.2 fun k _ hk => by
          rw [if_neg]
          intro e
          exact c2 ((hasName_take all j (by omega) _).2 ⟨k, by omega, by simpa using e⟩)]
        simp only [outO, Out.on]
        rw [attribute_some hwj (all.take j) c1 (by simpa using c2)]
        simp only [Option.bind_some, attE]
        by_cases c3 : attributeF (nth all j) (all.take j) = 0
        · rw [bif_f (by simp [c3]), hwr]; simp [c3, ctI]
        · rw [bif_t (by simp [c3])]; simp [c3, ctI]
    · rw [bif_t (by simp [c1])]
      simp [attE, attributeF, c1, ctI]
  · unfold b3_ref04_node
    rw [bif_f (by simp)]
theorem node_some {t : Types} (hA : fewA t) (ht : wfTypes t) (h12 : t.nodes.length ≤ 12) (i F : Nat) (hi : i < t.nodes.length) (hprev : ∀ j, j < i → nodeF t.nodes j = 0) (hF : 1001 < F) : s_ref04_node F t i = some ((nodeF t.nodes i : Nat) : Int) := by
  have hm := nth_mem t.nodes i hi
  obtain ⟨w1, w2, w3⟩ := ht.2.2.1 _ hm
  unfold s_ref04_node nodeF
  rw [getI_nat, getN_some hi, nth_eq t.nodes i hi]
  simp only [Option.bind_some]
  rw [isName_some w1]
  simp only [Option.bind_some]
  by_cases c1 : isNameF (nth t.nodes i).name = true
  · rw [bif_f (by simp [c1])]
    simp only [c1, Bool.not_true, Bool.false_eq_true, if_false]
    rw [show ((i : Int)).toNat = i from rfl, forR_hit (fun k => if (nth t.nodes k).name == (nth t.nodes i).name then some 5 else none) i 0 (by omega) fun k _ hk _ => by
      unfold b1_ref04_node
      rw [getN_some (by omega), nth_eq t.nodes k (by omega)]
      simp only [Option.bind_some]
      by_cases e : ((nth t.nodes k).name == (nth t.nodes i).name) = true <;> simp [e, ctO]]
    simp only [Option.bind_some, Nat.sub_zero]
    have hany : (t.nodes.take i).any (fun m => m.name == (nth t.nodes i).name) = true ↔ ∃ j, j < i ∧ (nth t.nodes j).name = (nth t.nodes i).name := by
      rw [List.any_eq_true]
      constructor
      · rintro ⟨y, hy, he⟩
        obtain ⟨j, hj⟩ := List.mem_iff_getElem?.1 hy
        rw [List.getElem?_take] at hj
        split at hj
        · rename_i hjk
          rw [List.getElem?_eq_getElem (by omega)] at hj
          refine ⟨j, hjk, ?_⟩
          rw [← nth_eq t.nodes j (by omega), Option.some.inj hj]
          simpa using he
        · cases hj
      · rintro ⟨j, h1, h2⟩
        refine ⟨nth t.nodes j, List.mem_iff_getElem?.2 ⟨j, ?_⟩, by simpa using h2⟩
        rw [List.getElem?_take, if_pos h1, List.getElem?_eq_getElem (by omega), nth_eq t.nodes j (by omega)]
    by_cases c2 : (t.nodes.take i).any (fun m => m.name == (nth t.nodes i).name) = true
    · obtain ⟨k, k1, k2⟩ := hany.1 c2
      rw [hit_exists (r := (5 : Int)) (j := k) (by omega) (by omega) (by simp [k2]) fun k r' h => by split at h <;> cases h; rfl]
      simp [outO, Out.on, c2]
    · rw [hitF_none.2 fun k _ hk => by
        rw [if_neg]
        intro e
        exact c2 (hany.2 ⟨k, by omega, by simpa using e⟩)]
      simp only [outO, Out.on, if_neg c2, s_ref04_in, Option.bind_some]
      rw [wrap64_of _ (by omega) (by omega)]
      by_cases c3 : (nth t.nodes i).parent < -1 ∨ (i : Int) ≤ (nth t.nodes i).parent
      · rw [if_pos c3, bif_t (by simp; omega)]
        rfl
      · rw [if_neg c3, bif_f (by simp; omega)]
        have hok : okPre t.nodes i := ⟨by omega, fun j hj => nodeF_ok (hprev j hj)⟩
        obtain ⟨e1, e2⟩ := attrs_some hA i F hi (by omega) hok (by omega)
        rw [e1]
        simp only [Option.bind_some]
        by_cases c4 : 4 < (nth t.nodes i).attrs.length
        · rw [if_pos c4, bif_t (by simp; omega)]; rfl
        rw [if_neg c4]
        by_cases c5 : 8 < (attrsF t.nodes i).length
        · rw [if_pos c5, bif_t (by simp; omega)]; rfl
        rw [if_neg c5, bif_f (by simp; omega)]
        have hsplit : ∃ pre, attrsF t.nodes i = pre ++ (nth t.nodes i).attrs := by
          unfold attrsF
          rw [attrsG, if_neg (by omega)]
          exact ⟨_, rfl⟩
        obtain ⟨pre, hpre⟩ := hsplit
        have hwa : ∀ a ∈ attrsF t.nodes i, wfAttr a := attrsF_wf t.nodes ht.2.2.1 i hi fun j hj => by
          by_cases e : j = i
          · subst e; omega
          · exact nodeF_ok (hprev j (by omega))
        have hlen : (attrsF t.nodes i).length = pre.length + (nth t.nodes i).attrs.length := by rw [hpre, List.length_append]
        rw [wrap64_of _ (by omega) (by omega), show (((attrsF t.nodes i).length : Nat) : Int) - (((nth t.nodes i).attrs.length : Nat) : Int) = ((pre.length : Nat) : Int) by omega]
        rw [nodeLoop hwa (by omega) pre.length F (by omega) hF]
        have hE := attrsErr_hit (attrsF t.nodes i) ((attrsF t.nodes i).length - pre.length) pre.length (by omega)
        have hdrop : (attrsF t.nodes i).drop pre.length = (nth t.nodes i).attrs := by rw [hpre]; exact List.drop_left
        rw [hdrop] at hE
        rw [show (attrsF t.nodes i).length - (nth t.nodes i).attrs.length = pre.length by omega, hE]
        simp only [Option.bind_some]
        cases hitF (attE (attrsF t.nodes i)) ((attrsF t.nodes i).length - pre.length) pre.length <;> rfl
  · rw [bif_t (by simp [c1])]
    simp [c1]
theorem edge_some {t : Types} (ht : wfTypes t) (h12 : t.nodes.length ≤ 12) (h20 : t.edges.length ≤ 20) (i : Nat) (hi : i < t.edges.length) : s_ref04_edge t i = some ((edgeF t i : Nat) : Int) := by
  have w1 := ht.2.2.2 _ (nth_mem t.edges i hi)
  unfold s_ref04_edge edgeF
  rw [getI_nat, getN_some hi, nth_eq t.edges i hi]
  simp only [Option.bind_some]
  rw [isName_some w1]
  simp only [Option.bind_some]
  by_cases c1 : isNameF (nth t.edges i).name = true
  · rw [bif_f (by simp [c1])]
    simp only [c1, Bool.not_true, Bool.false_eq_true, if_false]
    rw [show ((i : Int)).toNat = i from rfl, forR_hit (fun k => if (nth t.edges k).name == (nth t.edges i).name then some 5 else none) i 0 (by omega) fun k _ hk _ => by
      unfold b1_ref04_edge
      rw [getN_some (by omega), nth_eq t.edges k (by omega)]
      simp only [Option.bind_some]
      by_cases e : ((nth t.edges k).name == (nth t.edges i).name) = true <;> simp [e, ctO]]
    simp only [Option.bind_some, Nat.sub_zero]
    have hany : (t.edges.take i).any (fun m => m.name == (nth t.edges i).name) = true ↔ ∃ j, j < i ∧ (nth t.edges j).name = (nth t.edges i).name := by
      rw [List.any_eq_true]
      constructor
      · rintro ⟨y, hy, he⟩
        obtain ⟨j, hj⟩ := List.mem_iff_getElem?.1 hy
        rw [List.getElem?_take] at hj
        split at hj
        · rename_i hjk
          rw [List.getElem?_eq_getElem (by omega)] at hj
          refine ⟨j, hjk, ?_⟩
          rw [← nth_eq t.edges j (by omega), Option.some.inj hj]
          simpa using he
        · cases hj
      · rintro ⟨j, h1, h2⟩
        refine ⟨nth t.edges j, List.mem_iff_getElem?.2 ⟨j, ?_⟩, by simpa using h2⟩
        rw [List.getElem?_take, if_pos h1, List.getElem?_eq_getElem (by omega), nth_eq t.edges j (by omega)]
    by_cases c2 : (t.edges.take i).any (fun m => m.name == (nth t.edges i).name) = true
    · obtain ⟨k, k1, k2⟩ := hany.1 c2
      rw [hit_exists (r := (5 : Int)) (j := k) (by omega) (by omega) (by simp [k2]) fun k r' h => by split at h <;> cases h; rfl]
      simp [outO, Out.on, c2]
    · rw [hitF_none.2 fun k _ hk => by
        rw [if_neg]
        intro e
        exact c2 (hany.2 ⟨k, by omega, by simpa using e⟩)]
      simp only [outO, Out.on, if_neg c2, s_ref04_in, s_ref04_bound, Option.bind_some]
      rw [wrap64_of _ (by omega) (by omega)]
      have hd : ∀ x : Int, decide (x ≤ (t.nodes.length : Int) - 1) = decide (x < (t.nodes.length : Int)) := fun x => by rw [decide_eq_decide]; omega
      simp only [hd, boundF]
      have key : ∀ (q1 q2 q3 q4 q5 q6 q7 q8 q9 r5 r6 r7 r8 r9 : Bool), ((bif !(q1 && q2) then some true else bif !(q3 && q4) then some true else ((bif q5 && q6 then bif q7 then some true else some (q8 && q9) else some false).bind fun q1 => some q1).bind fun q3 => bif !q3 then some true else ((bif r5 && r6 then bif r7 then some true else some (r8 && r9) else some false).bind fun q1 => some q1).bind fun q4 => some !q4).bind fun c => bif c then some (6 : Int) else some 0) =
          some (((if (!(q1 && q2 && (q3 && q4) && (q5 && q6 && (q7 || q8 && q9)) && (r5 && r6 && (r7 || r8 && r9)))) = true then 6 else 0 : Nat) : Nat) : Int) := by decide
      exact key _ _ _ _ _ _ _ _ _ _ _ _ _ _
  · rw [bif_t (by simp [c1])]
    simp [c1]
theorem firstErr_hit {R : Type} (f : Nat → Nat) (g : Nat → R) : ∀ (n i : Nat), (firstErr f n i).map g = hitF (fun k => if f k ≠ 0 then some (g k) else none) n i
  | 0, _ => rfl
  | n + 1, i => by
    unfold firstErr hitF
    by_cases c : f i = 0
    · simp only [c, ne_eq, not_true, if_false]
      exact firstErr_hit f g n (i + 1)
    · simp [c]
theorem refValid_some {t : Types} (hA : fewA t) (ht : wfTypes t) (F : Nat) (hF : 1001 < F) : s_ref04_Valid F t = some ((validF t).1, (((validF t).2 : Nat) : Int)) := by
  unfold s_ref04_Valid validF
  by_cases c0 : t.nodes.length = 0
  · rw [bif_t (by simpa using List.eq_nil_of_length_eq_zero c0), if_pos c0]; rfl
  rw [bif_f (by simpa using fun e : t.nodes = [] => c0 (by rw [e]; rfl)), if_neg c0]
  by_cases c1 : 12 < t.nodes.length ∨ 20 < t.edges.length
  · rw [bif_t (by simp; omega), if_pos c1]; rfl
  rw [bif_f (by simp; omega), if_neg c1]
  rw [forN_hit (fun k => if nodeF t.nodes k ≠ 0 then some ((nth t.nodes k).name, ((nodeF t.nodes k : Nat) : Int)) else none) t.nodes.length 0 fun j _ hj hp => by
    unfold b1_ref04_Valid
    rw [node_some hA ht (by omega) j F (by omega) (fun l hl => by
      have := hp l (by omega) hl
      by_cases z : nodeF t.nodes l = 0
      · exact z
      · rw [if_pos z] at this; cases this) hF]
    simp only [Option.bind_some]
    by_cases c : nodeF t.nodes j = 0
    · rw [bif_f (by simp [c])]; simp [c, ctO]
    · rw [bif_t (by simp [c]), getN_some (by omega), nth_eq t.nodes j (by omega)]; simp [c, ctO]]
  rw [← firstErr_hit (nodeF t.nodes) (fun k => ((nth t.nodes k).name, ((nodeF t.nodes k : Nat) : Int)))]
  cases firstErr (nodeF t.nodes) t.nodes.length 0 with
  | some i => rfl
  | none =>
    simp only [Option.map_none, outO, Option.bind_some, Out.on]
    rw [forN_hit (fun k => if edgeF t k ≠ 0 then some ((nth t.edges k).name, ((edgeF t k : Nat) : Int)) else none) t.edges.length 0 fun j _ hj hp => by
      unfold b3_ref04_Valid
      rw [edge_some ht (by omega) (by omega) j (by omega)]
      simp only [Option.bind_some]
      by_cases c : edgeF t j = 0
      · rw [bif_f (by simp [c])]; simp [c, ctO]
      · rw [bif_t (by simp [c]), getN_some (by omega), nth_eq t.edges j (by omega)]; simp [c, ctO]]
    rw [← firstErr_hit (edgeF t) (fun k => ((nth t.edges k).name, ((edgeF t k : Nat) : Int)))]
    cases firstErr (edgeF t) t.edges.length 0 <;> rfl
end Go.Proofs.YtdacgjleiloooaaGreat
namespace Go.Proofs.YtdacgjleiloooaaGreat
open Go Go.Ew
theorem any_hit {α R : Type} [Inhabited α] (l : List α) (p : α → Bool) (r : R) : hitF (fun k => if p (nth l k) = true then some r else none) l.length 0 = (if l.any p = true then some r else none) := by
  by_cases h : l.any p = true
  · rw [if_pos h]
    obtain ⟨x, hx, hp⟩ := List.any_eq_true.1 h
    obtain ⟨k, hk⟩ := List.mem_iff_getElem?.1 hx
    have hkl := (List.getElem?_eq_some_iff.1 hk).1
    rw [List.getElem?_eq_getElem hkl, nth_eq l k hkl] at hk
    exact hit_exists (j := k) (by omega) (by omega) (by rw [Option.some.inj hk, if_pos hp]) fun k' r' h => by split at h <;> cases h; rfl
  · rw [if_neg h]
    refine hitF_none.2 fun k _ hk => ?_
    rw [if_neg]
    intro hp
    exact h (List.any_eq_true.2 ⟨nth l k, nth_mem l k (by omega), hp⟩)
theorem gvalid_some (g : Graph) : s_ref05_Valid g = some ((gvalidF g : Nat) : Int) := by
  unfold s_ref05_Valid gvalidF
  by_cases c : 40 < g.nodes.length ∨ 80 < g.edges.length
  · rw [if_pos c, bif_t (by simp; omega)]; rfl
  rw [if_neg c, bif_f (by simp; omega)]
  rw [forN_hit (fun k => if (!kindF (nth g.nodes k)) = true then some 6 else none) _ _ fun j _ hj _ => by
    unfold b1_ref05_Valid
    rw [getN_some (by omega), nth_eq g.nodes j (by omega)]
    simp only [Option.bind_some, s_ref05_kind]
    rw [show (decide (0 ≤ nth g.nodes j) && decide (nth g.nodes j ≤ 99)) = kindF (nth g.nodes j) from rfl]
    cases kindF (nth g.nodes j) <;> rfl]
  rw [any_hit g.nodes (fun n => !kindF n)]
  by_cases c1 : g.nodes.any (fun n => !kindF n) = true
  · simp only [c1, if_true]; rfl
  simp only [c1, if_false]
  simp only [outO, Option.bind_some, Out.on]
  rw [forN_hit (fun k => if (!fitsF g.nodes.length (nth g.edges k)) = true then some 6 else none) _ _ fun j _ hj _ => by
    unfold b3_ref05_Valid
    rw [getN_some (by omega), nth_eq g.edges j (by omega)]
    simp only [Option.bind_some, s_ref05_right, s_ref05_kind]
    rw [show ((decide (0 ≤ (nth g.edges j).kind) && decide ((nth g.edges j).kind ≤ 99)) && (decide (0 ≤ (nth g.edges j).src) && (decide ((nth g.edges j).src < (g.nodes.length : Int)) && (decide (0 ≤ (nth g.edges j).tgt) && decide ((nth g.edges j).tgt < (g.nodes.length : Int)))))) = fitsF g.nodes.length (nth g.edges j) by
      unfold fitsF kindF
      simp [Bool.and_assoc]]
    cases fitsF g.nodes.length (nth g.edges j) <;> rfl]
  rw [any_hit g.edges (fun e => !fitsF g.nodes.length e)]
  by_cases c2 : g.edges.any (fun e => !fitsF g.nodes.length e) = true
  · simp only [c2, if_true]; rfl
  · simp only [c2, if_false]; rfl
theorem gvalid_ok {g : Graph} (h : gvalidF g = 0) : g.nodes.length ≤ 40 ∧ g.edges.length ≤ 80 ∧ (∀ n ∈ g.nodes, 0 ≤ n ∧ n ≤ 99) ∧ ∀ e ∈ g.edges, (0 ≤ e.kind ∧ e.kind ≤ 99) ∧ (0 ≤ e.src ∧ e.src < g.nodes.length) ∧ (0 ≤ e.tgt ∧ e.tgt < g.nodes.length) := by
  unfold gvalidF at h
  split at h
  · cases h
  rename_i h0
  split at h
  · cases h
  rename_i h1
  split at h
  · cases h
  rename_i h2
  refine ⟨by omega, by omega, fun n hn => ?_, fun e he => ?_⟩
  · by_cases c : kindF n = true
    · simpa [kindF] using c
    · exact absurd (List.any_eq_true.2 ⟨n, hn, by simpa using c⟩) h1
  · by_cases c : fitsF g.nodes.length e = true
    · simp [fitsF, kindF] at c
      omega
    · exact absurd (List.any_eq_true.2 ⟨e, he, by simpa using c⟩) h2
theorem typed_some (t : Types) (g : Graph) (hg : gvalidF g = 0) : s_ref17_Typed t g = some (withinF t g) := by
  obtain ⟨_, _, g1, g2⟩ := gvalid_ok hg
  unfold s_ref17_Typed withinF
  rw [forN_hit (fun k => if decide ((t.nodes.length : Int) ≤ nth g.nodes k) = true then some false else none) _ _ fun j _ hj _ => by
    unfold b1_ref17_Typed
    rw [getN_some (by omega), nth_eq g.nodes j (by omega)]
    simp only [Option.bind_some]
    have := g1 _ (nth_mem g.nodes j (by omega))
    rw [show decide (nth g.nodes j < 0) = false by simpa using this.1, Bool.false_or]
    cases decide ((t.nodes.length : Int) ≤ nth g.nodes j) <;> rfl]
  rw [any_hit g.nodes (fun n => decide ((t.nodes.length : Int) ≤ n))]
  by_cases c1 : g.nodes.any (fun n => decide ((t.nodes.length : Int) ≤ n)) = true
  · simp only [c1, if_true]; rfl
  simp only [c1, if_false]
  simp only [outO, Option.bind_some, Out.on]
  rw [forN_hit (fun k => if decide ((t.edges.length : Int) ≤ (nth g.edges k).kind) = true then some false else none) _ _ fun j _ hj _ => by
    unfold b3_ref17_Typed
    rw [getN_some (by omega), nth_eq g.edges j (by omega)]
    simp only [Option.bind_some]
    have := (g2 _ (nth_mem g.edges j (by omega))).1
    rw [show decide ((nth g.edges j).kind < 0) = false by simpa using this.1, Bool.false_or]
    cases decide ((t.edges.length : Int) ≤ (nth g.edges j).kind) <;> rfl]
  rw [any_hit g.edges (fun e => decide ((t.edges.length : Int) ≤ e.kind))]
  by_cases c2 : g.edges.any (fun e => decide ((t.edges.length : Int) ≤ e.kind)) = true
  · simp only [c2, if_true]; rfl
  · simp only [c2, if_false]; rfl
theorem given_some {t : Types} (hA : fewA t) (ht : wfTypes t) (p g : Graph) (F : Nat) (hF : 1001 < F) : s_ref17_given F t p g = some ((svalidF t p g : Nat) : Int) := by
  unfold s_ref17_given svalidF
  rw [refValid_some hA ht F hF]
  simp only [Option.bind_some]
  by_cases c1 : (validF t).2 = 0
  · rw [bif_f (by simp [c1]), gvalid_some, if_neg (by simp [c1])]
    simp only [Option.bind_some]
    by_cases c2 : gvalidF p = 0
    · rw [bif_f (by simp [c2]), gvalid_some, if_neg (by simp [c2])]
      simp only [Option.bind_some]
      by_cases c3 : gvalidF g = 0
      · rw [bif_f (by simp [c3]), if_neg (by simp [c3]), typed_some t p c2, typed_some t g c3]
        cases withinF t p <;> cases withinF t g <;> rfl
      · rw [bif_t (by simp [c3]), if_pos c3]
    · rw [bif_t (by simp [c2]), if_pos c2]
  · rw [bif_t (by simp [c1]), if_pos c1]
theorem few_some (t : Types) (ht : wfTypes t) : ∃ b, s_ref04_Few t = some b ∧ (b = true → fewA t) := by
  unfold s_ref04_Few
  by_cases c : 20 < t.nodes.length ∨ 30 < t.edges.length
  · rw [bif_t (by simp; omega)]; exact ⟨false, rfl, fun h => by cases h⟩
  rw [bif_f (by simp; omega)]
  rcases forN_inv (body := b1_ref04_Few t) (fun j s => (0 ≤ s ∧ s ≤ 30) ∧ ∀ i, i < j → (nth t.nodes i).attrs.length ≤ 30) (fun _ => False) (fun r => r = false) t.nodes.length 0 0 ⟨⟨by omega, by omega⟩, fun i hi => by omega⟩ (fun j s h1 h2 hI => by
    have hm := nth_mem t.nodes j (by omega)
    obtain ⟨w1, w2, _⟩ := ht.2.2.1 _ hm
    unfold b1_ref04_Few
    rw [getN_some (by omega), nth_eq t.nodes j (by omega)]
    simp only [Option.bind_some]
    rw [wrap64_of _ (by omega) (by omega)]
    by_cases c1 : 30 < s + ((nth t.nodes j).attrs.length : Int) ∨ 40 < (nth t.nodes j).name.length
    · rw [bif_t (by simp; omega)]; exact .inr (.inr ⟨_, rfl, rfl⟩)
    rw [bif_f (by simp; omega)]
    have hin : (∃ s', forR (b2_ref04_Few (nth t.nodes j)) 0 (nth t.nodes j).attrs.length () = some (.done s')) ∨ ∃ r, forR (b2_ref04_Few (nth t.nodes j)) 0 (nth t.nodes j).attrs.length () = some (.ret r) ∧ r = .ret false := by
      unfold forR
      rw [if_pos (by omega)]
      rcases forN_inv (body := b2_ref04_Few (nth t.nodes j)) (fun _ _ => True) (fun _ => False) (fun r => r = .ret false) ((nth t.nodes j).attrs.length - 0) 0 () trivial (fun k u k1 k2 _ => by
        unfold b2_ref04_Few
        rw [getN_some (by omega), nth_eq (nth t.nodes j).attrs k (by omega)]
        simp only [Option.bind_some]
        by_cases c2 : 40 < (nth (nth t.nodes j).attrs k).name.length ∨ 25 < (nth (nth t.nodes j).attrs k).names.length
        · rw [bif_t (by simp; omega)]; exact .inr (.inr ⟨_, rfl, rfl⟩)
        rw [bif_f (by simp; omega)]
        rcases forN_inv (body := b3_ref04_Few (nth (nth t.nodes j).attrs k)) (fun _ _ => True) (fun _ => False) (fun r => r = .ret (.ret false)) (nth (nth t.nodes j).attrs k).names.length 0 () trivial (fun l u l1 l2 _ => by
          unfold b3_ref04_Few
          rw [getN_some (by omega)]
          simp only [Option.bind_some]
          by_cases c3 : 40 < ((nth (nth t.nodes j).attrs k).names[l]'(by omega)).length
          · rw [bif_t (by simp; omega)]; exact .inr (.inr ⟨_, rfl, rfl⟩)
          · rw [bif_f (by simp; omega)]; exact .inl ⟨_, rfl, trivial⟩) with ⟨s', e, _⟩ | ⟨r, e, rfl⟩
        · rw [e]; exact .inl ⟨_, rfl, trivial⟩
        · rw [e]; exact .inr (.inr ⟨_, rfl, rfl⟩)) with ⟨s', e, _⟩ | ⟨r, e, rfl⟩
      · exact .inl ⟨s', e⟩
      · exact .inr ⟨_, e, rfl⟩
    rcases hin with ⟨s', e⟩ | ⟨r, e, rfl⟩
    · rw [e]
      refine .inl ⟨_, rfl, ⟨by omega, by omega⟩, fun i hi => ?_⟩
      by_cases e : i = j
      · subst e; omega
      · exact hI.2 i (by omega)
    · rw [e]; exact .inr (.inr ⟨_, rfl, rfl⟩)) with ⟨s', e, h⟩ | ⟨r, e, rfl⟩
  · rcases h with h | h
    · rw [e]
      simp only [Option.bind_some, Out.on]
      have hfew : fewA t := fun n hn => by
        obtain ⟨k, hk⟩ := List.mem_iff_getElem?.1 hn
        have hkl := (List.getElem?_eq_some_iff.1 hk).1
        rw [List.getElem?_eq_getElem hkl, nth_eq t.nodes k hkl] at hk
        rw [← Option.some.inj hk]
        exact h.2 k (by omega)
      rcases forN_inv (body := b7_ref04_Few t) (fun _ _ => True) (fun _ => False) (fun r => r = false) t.edges.length 0 () trivial (fun l u l1 l2 _ => by
        unfold b7_ref04_Few
        rw [getN_some (by omega)]
        simp only [Option.bind_some]
        by_cases c3 : 40 < (t.edges[l]'(by omega)).name.length
        · rw [bif_t (by simp; omega)]; exact .inr (.inr ⟨_, rfl, rfl⟩)
        · rw [bif_f (by simp; omega)]; exact .inl ⟨_, rfl, trivial⟩) with ⟨s', e, _⟩ | ⟨r, e, rfl⟩
      · rw [e]; exact ⟨true, rfl, fun _ => hfew⟩
      · rw [e]; exact ⟨false, rfl, fun h => by cases h⟩
    · exact h.elim
  · rw [e]; exact ⟨false, rfl, fun h => by cases h⟩
theorem below1_neg (t : Types) (a b : Int) (ha : a < 0) (hb : 0 ≤ b) (F : Nat) : s_ref04_Below1 (F + 1) t a b = some false := by
  rw [s_ref04_Below1, bif_f (by simp; omega), bif_f (by simp; omega)]
  rfl
theorem below1_some {t : Types} (hok : okAll t.nodes) (b : Int) (hb : 0 ≤ b) : ∀ (a F : Nat), a < t.nodes.length → a + 1 < F → s_ref04_Below1 F t a b = some (isF t.nodes a b) := by
  intro a
  induction a using Nat.strongRecOn with
  | _ a ih =>
    intro F ha hF
    obtain ⟨F, rfl⟩ : ∃ G, F = G + 1 := ⟨F - 1, by omega⟩
    obtain ⟨p1, p2⟩ := hok a ha
    unfold isF
    rw [chainF_eq hok ha, s_ref04_Below1]
    by_cases e : (a : Int) = b
    · rw [bif_t (by simpa using e)]
      simp [e]
    · rw [bif_f (by simpa using e), bif_t (by simp), getI_nat, getN_some ha, nth_eq t.nodes a ha]
      simp only [Option.bind_some, List.any_cons]
      rw [show decide (b = (a : Int)) = false by simpa using fun h => e h.symm, Bool.false_or]
      by_cases hp : (nth t.nodes a).parent < 0
      · obtain ⟨G, rfl⟩ : ∃ G, F = G + 1 := ⟨F - 1, by omega⟩
        rw [below1_neg t _ b hp hb, if_pos hp]
        rfl
      · obtain ⟨p, hpp⟩ : ∃ p : Nat, (nth t.nodes a).parent = p := ⟨(nth t.nodes a).parent.toNat, by omega⟩
        rw [if_neg hp, hpp, ih p (by omega) F (by omega) (by omega)]
        rfl
end Go.Proofs.YtdacgjleiloooaaGreat
namespace Go.Proofs.YtdacgjleiloooaaGreat
open Go Go.Ew
/-! ### All matches, as a tree without pruning -/
def UE (q : Quest) (ns : List Int) : Nat → List Int → List Morph
  | 0, es => [⟨ns, es⟩]
  | f + 1, es => (List.range q.g.edges.length).flatMap fun k => if skipE q ns es k then [] else UE q ns f (es ++ [(k : Int)])
def UN (q : Quest) : Nat → List Int → List Morph
  | 0, ns => UE q ns q.p.edges.length []
  | f + 1, ns => (List.range q.g.nodes.length).flatMap fun k => if skipN q ns k then [] else UN q f (ns ++ [(k : Int)])
theorem flatMap_nil' {α β : Type} {l : List α} {f : α → List β} (h : ∀ a ∈ l, f a = []) : l.flatMap f = [] := by
  rw [List.flatMap_eq_nil_iff]; exact h
theorem UE_nil (q : Quest) (ns : List Int) (i : Nat) (hno : ∀ k, k < q.g.edges.length → fitsQ q ns i k = false) : ∀ (f : Nat) (es : List Int), es.length ≤ i → i < es.length + f → UE q ns f es = []
  | 0, es, h1, h2 => by omega
  | f + 1, es, h1, h2 => by
    unfold UE
    refine flatMap_nil' fun k hk => ?_
    have hk' : k < q.g.edges.length := by simpa using hk
    by_cases c : skipE q ns es k = true
    · rw [if_pos c]
    · rw [if_neg c]
      by_cases e : i = es.length
      · exfalso
        apply c
        unfold skipE
        rw [← e, hno k hk']
        rfl
      · exact UE_nil q ns i hno f _ (by simp; omega) (by simp; omega)
theorem nth_app {α : Type} [Inhabited α] (l : List α) (x : α) (i : Nat) (h : i < l.length) : nth (l ++ [x]) i = nth l i := by
  simp only [nth, List.getD_eq_getElem?_getD]
  rw [List.getElem?_append_left h]
theorem fitsQ_app (q : Quest) (ns : List Int) (x : Int) (i k : Nat) (h1 : (nth q.p.edges i).src.toNat < ns.length) (h2 : (nth q.p.edges i).tgt.toNat < ns.length) : fitsQ q (ns ++ [x]) i k = fitsQ q ns i k := by
  unfold fitsQ
  simp only [nth_app ns x _ h1, nth_app ns x _ h2]
theorem UN_nil (q : Quest) (i : Nat) (hi : i < q.p.edges.length) : ∀ (f : Nat) (ns : List Int), (nth q.p.edges i).src.toNat < ns.length → (nth q.p.edges i).tgt.toNat < ns.length → (∀ k, k < q.g.edges.length → fitsQ q ns i k = false) → UN q f ns = []
  | 0, ns, _, _, hno => UE_nil q ns i hno _ [] (by simp) (by simpa using hi)
  | f + 1, ns, h1, h2, hno => by
    unfold UN
    refine flatMap_nil' fun k _ => ?_
    by_cases c : skipN q ns k = true
    · rw [if_pos c]
    · rw [if_neg c]
      exact UN_nil q i hi f _ (by simp; omega) (by simp; omega) fun k' hk' => by rw [fitsQ_app q ns _ i k' h1 h2]; exact hno k' hk'
/-! ### Up to so many -/
theorem take_app {β : Type} (M : Nat) (o a b : List β) : ((o ++ a).take M ++ b).take M = (o ++ (a ++ b)).take M := by
  by_cases h : (o ++ a).length ≤ M
  · rw [List.take_of_length_le h, List.append_assoc]
  · have h' : M ≤ (o ++ a).length := by omega
    have hl : ((o ++ a).take M).length = M := by rw [List.length_take]; omega
    rw [← List.append_assoc, List.take_append_of_le_length (by omega), List.take_append_of_le_length h', List.take_take, Nat.min_self]
theorem foldl_take {β : Type} (M : Nat) (g : List β → Nat → List β) (L : Nat → List β) : ∀ (l : List Nat), (∀ o k, k ∈ l → o.length ≤ M → g o k = (o ++ L k).take M) → ∀ (o : List β), o.length ≤ M → l.foldl g o = (o ++ l.flatMap L).take M
  | [], _, o, ho => by simp [List.take_of_length_le ho]
  | k :: l, hg, o, ho => by
    rw [List.foldl_cons, hg o k (List.mem_cons_self ..) ho, foldl_take M g L l (fun o k hk => hg o k (List.mem_cons_of_mem _ hk)) _ (List.length_take_le _ _), List.flatMap_cons, take_app]
theorem take_nil {β : Type} {M : Nat} {o : List β} (h : o.length ≤ M) : o = (o ++ []).take M := by rw [List.append_nil, List.take_of_length_le h]
/-! ### The program's side -/
theorem find_UE (q : Quest) (ns : List Int) (hn : q.p.nodes.length ≤ ns.length) : ∀ (f : Nat) (es : List Int) (out : List Morph), es.length + f = q.p.edges.length → out.length ≤ q.most → findQ q f ns es out = (out ++ UE q ns f es).take q.most
  | 0, es, out, he, ho => by
    unfold findQ UE
    split
    · rename_i h
      rw [List.take_append_of_le_length (by omega), List.take_of_length_le ho]
    · rw [List.take_of_length_le (by simp; omega)]
  | f + 1, es, out, he, ho => by
    unfold findQ UE
    split
    · rename_i h
      rw [List.take_append_of_le_length (by omega), List.take_of_length_le ho]
    · rw [if_neg (by omega)]
      refine foldl_take q.most _ _ _ (fun o k hk hol => ?_) out ho
      by_cases c : skipE q ns es k = true
      · rw [if_pos c, if_pos c]; exact take_nil hol
      · rw [if_neg c, if_neg c]
        exact find_UE q ns hn f _ o (by simp; omega) hol
theorem find_UN (q : Quest) (hw : wfQ q) : ∀ (f : Nat) (ns : List Int) (out : List Morph), ns.length + f = q.p.nodes.length → out.length ≤ q.most → findQ q (f + q.p.edges.length) ns [] out = (out ++ UN q f ns).take q.most
  | 0, ns, out, hn, ho => by
    rw [Nat.zero_add]
    exact find_UE q ns (by omega) q.p.edges.length [] out (by simp) ho
  | f + 1, ns, out, hn, ho => by
    rw [show f + 1 + q.p.edges.length = (f + q.p.edges.length) + 1 by omega]
    unfold findQ UN
    split
    · rename_i h
      rw [List.take_append_of_le_length (by omega), List.take_of_length_le ho]
    · rw [if_pos (by omega)]
      refine foldl_take q.most _ _ _ (fun o k hk hol => ?_) out ho
      by_cases c : skipN q ns k = true
      · rw [if_pos c, if_pos c]; exact take_nil hol
      · rw [if_neg c, if_neg c]
        by_cases c2 : possibleQ q (ns ++ [(k : Int)]) = true
        · rw [if_pos c2]
          exact find_UN q hw f _ o (by simp; omega) hol
        · rw [if_neg c2]
          have hex : ∃ i, i < q.p.edges.length ∧ okE q (ns ++ [(k : Int)]) i = false := by
            by_cases he : ∃ i, i < q.p.edges.length ∧ okE q (ns ++ [(k : Int)]) i = false
            · exact he
            · exfalso
              apply c2
              unfold possibleQ
              rw [List.all_eq_true]
              intro i hi
              by_cases z : okE q (ns ++ [(k : Int)]) i = true
              · exact z
              · exact absurd ⟨i, by simpa using hi, by simpa using z⟩ he
          obtain ⟨i, hi, hok⟩ := hex
          unfold okE at hok
          simp only at hok
          split at hok
          · rename_i hmax
            obtain ⟨⟨a1, a2⟩, b1, b2⟩ := hw.2.2.1 i hi
            rw [List.length_append, List.length_singleton] at hmax
            rw [UN_nil q i hi f _ (by simp; omega) (by simp; omega) fun k' hk' => by
              have := List.any_eq_false.1 hok k' (by simpa using hk')
              simpa using this]
            exact take_nil hol
          · cases hok
theorem foundQ_UN (q : Quest) (hw : wfQ q) : foundQ q = (UN q q.p.nodes.length []).take q.most := by
  unfold foundQ
  rw [find_UN q hw q.p.nodes.length [] [] (by simp) (Nat.zero_le _), List.nil_append]
/-! ### The reference's side -/
theorem foldN_foldl {S : Type} (g : Nat → S → S) : ∀ (n i : Nat) (s : S), foldN g n i s = (List.range' i n).foldl (fun s k => g k s) s
  | 0, _, _ => rfl
  | n + 1, i, s => by rw [foldN, foldN_foldl g n (i + 1) (g i s), List.range'_succ, List.foldl_cons]
/-- A search of the reference's that is about the same. -/
structure SameQ (q : Quest) (t : Types) (s : Gscarfjointref17_search) : Prop where
  t : s.t = t
  p : s.p = q.p
  g : s.g = q.g
  inj : s.injective = q.inj
  most : s.most + 1 = (q.most : Int)
  pn : s.partialx.nodes.length = q.p.nodes.length
  pe : s.partialx.edges.length = q.p.edges.length
  gn : ∀ i, i < q.p.nodes.length → nth s.partialx.nodes i = givenI q.part false i
  ge : ∀ i, i < q.p.edges.length → nth s.partialx.edges i = givenI q.part true i
/-- What the quest has to be like. -/
structure OkQ (q : Quest) (t : Types) : Prop where
  ok : okAll t.nodes
  is : q.is = rowsF t t.nodes.length
  t12 : t.nodes.length ≤ 12
  p40 : q.p.nodes.length ≤ 40
  p80 : q.p.edges.length ≤ 80
  g40 : q.g.nodes.length ≤ 40
  g80 : q.g.edges.length ≤ 80
  most : q.most ≤ 100000
  pn : ∀ i, i < q.p.nodes.length → 0 ≤ nth q.p.nodes i ∧ nth q.p.nodes i < t.nodes.length
  gn : ∀ i, i < q.g.nodes.length → 0 ≤ nth q.g.nodes i ∧ nth q.g.nodes i < t.nodes.length
  pe : ∀ i, i < q.p.edges.length → (0 ≤ (nth q.p.edges i).src ∧ (nth q.p.edges i).src < q.p.nodes.length) ∧ (0 ≤ (nth q.p.edges i).tgt ∧ (nth q.p.edges i).tgt < q.p.nodes.length)
theorem used_some (s : Gscarfjointref17_search) (l : List Int) (n : Int) (F : Nat) (hF : l.length + 1 < F) (hl : l.length ≤ 1000) : s_ref17_search_used F s l n = some (s.injective && l.any fun c => decide (n = c)) := by
  unfold s_ref17_search_used
  by_cases hi : s.injective = true
  · have := whileG_hit (body := b1_ref17_search_used s l n) (fun k => if decide (n = nth l k) = true then some true else none) l.length F 0 (Nat.zero_le _) (by omega) (fun j h1 h2 _ => by
      unfold b1_ref17_search_used
      rw [bif_t (by simp [hi]; omega), getI_nat, getN_some h2, nth_eq l j h2]
      simp only [Option.bind_some]
      have hwr : IntKind.i64.wrap ((j : Int) + 1) = ((j + 1 : Nat) : Int) := by rw [wrap64_of _ (by omega) (by omega)]; rfl
      rw [hwr]
      by_cases e : nth l j = n
      · rw [bif_t (by simpa using e)]; simp [e, ctI]
      · have e' : ¬ n = nth l j := fun h => e h.symm
        rw [bif_f (by simpa using e)]; simp [e', ctI]) (by
      unfold b1_ref17_search_used
      rw [bif_f (by simp)])
    rw [show ((0 : Nat) : Int) = 0 from rfl] at this
    rw [this, Nat.sub_zero, any_hit l (fun c => decide (n = c)), hi, Bool.true_and]
    by_cases c : (l.any fun c => decide (n = c)) = true
    · rw [if_pos c, c]; rfl
    · rw [if_neg c]; simp only [outI, Option.bind_some, Out.on]; rw [eq_false_of_ne_true c]
  · obtain ⟨F, rfl⟩ : ∃ G, F = G + 1 := ⟨F - 1, by omega⟩
    unfold whileG b1_ref17_search_used
    rw [bif_f (by simp [hi])]
    simp [hi, Ct.on, Out.on]
theorem fits_some {q : Quest} {t : Types} {s : Gscarfjointref17_search} (hs : SameQ q t s) (hq : OkQ q t) (ns : List Int) (hn : ns.length ≤ 1000) :
    ∃ b, s_ref17_search_fits s ns = some b ∧ (b = false → ∃ i, i < q.p.edges.length ∧ (nth q.p.edges i).src.toNat < ns.length ∧ (nth q.p.edges i).tgt.toNat < ns.length ∧ ∀ k, k < q.g.edges.length → fitsQ q ns i k = false) := by
  obtain ⟨rfl, hp, hg, _, _, _, _, _, _⟩ := hs
  unfold s_ref17_search_fits forR
  rw [hp, if_pos (by have := hq.p80; omega)]
  rcases forN_inv (body := b1_ref17_search_fits s ns) (fun _ _ => True) (fun _ => False) (fun r => r = false ∧ ∃ i, i < q.p.edges.length ∧ (nth q.p.edges i).src.toNat < ns.length ∧ (nth q.p.edges i).tgt.toNat < ns.length ∧ ∀ k, k < q.g.edges.length → fitsQ q ns i k = false) (q.p.edges.length - 0) 0 () trivial (fun i u h1 h2 _ => by
    have hi : i < q.p.edges.length := by omega
    obtain ⟨⟨a1, a2⟩, b1, b2⟩ := hq.pe i hi
    unfold b1_ref17_search_fits
    rw [hp, getN_some hi, nth_eq q.p.edges i hi]
    simp only [Option.bind_some]
    by_cases c : (ns.length : Int) ≤ (nth q.p.edges i).src ∨ (ns.length : Int) ≤ (nth q.p.edges i).tgt
    · rw [bif_t (by simpa using c)]; exact .inl ⟨_, rfl, trivial⟩
    rw [bif_f (by simpa using c), hg]
    unfold forR
    rw [if_pos (by have := hq.g80; omega)]
    have hsr : (nth q.p.edges i).src.toNat < ns.length := by omega
    have htg : (nth q.p.edges i).tgt.toNat < ns.length := by omega
    obtain ⟨e1, e2⟩ := forN_fold (body := b2_ref17_search_fits s ns (nth q.p.edges i)) (fun j (b : Bool) => b = false → ∀ k, k < j → fitsQ q ns i k = false)
      (fun k b => b || (decide ((nth q.p.edges i).kind = (nth q.g.edges k).kind) && (decide ((nth q.g.edges k).src = nth ns (nth q.p.edges i).src.toNat) && decide ((nth q.g.edges k).tgt = nth ns (nth q.p.edges i).tgt.toNat))))
      (q.g.edges.length - 0) 0 false (fun _ k hk => by omega) (fun k b k1 k2 hI => by
        have hk : k < q.g.edges.length := by omega
        refine ⟨?_, ?_⟩
        · unfold b2_ref17_search_fits
          rw [hg, getN_some hk, nth_eq q.g.edges k hk, getI_of a1, getI_of b1, getN_some hsr, getN_some htg, nth_eq ns _ hsr, nth_eq ns _ htg]
          simp only [Option.bind_some]
          cases b
          · by_cases d1 : (nth q.p.edges i).kind = (nth q.g.edges k).kind
            · by_cases d2 : (nth q.g.edges k).src = nth ns (nth q.p.edges i).src.toNat <;> simp [d1, d2]
            · simp [d1]
          · rfl
        · intro hb k' hk'
          simp only [Bool.or_eq_false_iff] at hb
          by_cases e : k' = k
          · subst e
            unfold fitsQ
            simp only [Bool.and_eq_false_iff]
            right
            rw [decide_eq_false_iff_not]
            intro he
            rw [he] at hb
            simp at hb
          · exact hI hb.1 k' (by omega))
    rw [e1]
    simp only [Option.bind_some, Out.on]
    cases hb : foldN (fun k b => b || (decide ((nth q.p.edges i).kind = (nth q.g.edges k).kind) && (decide ((nth q.g.edges k).src = nth ns (nth q.p.edges i).src.toNat) && decide ((nth q.g.edges k).tgt = nth ns (nth q.p.edges i).tgt.toNat)))) (q.g.edges.length - 0) 0 false
    · refine .inr (.inr ⟨_, rfl, rfl, i, hi, hsr, htg, fun k hk => e2 hb k (by omega)⟩)
    · exact .inl ⟨_, rfl, trivial⟩) with ⟨u, e, _⟩ | ⟨r, e, rfl, h⟩
  · rw [e]; exact ⟨true, rfl, fun h => by cases h⟩
  · rw [e]; exact ⟨false, rfl, fun _ => h⟩
theorem edges_some {q : Quest} {t : Types} (hq : OkQ q t) (ns : List Int) (hn : ns.length = q.p.nodes.length) : ∀ (f F : Nat) (es : List Int) (s : Gscarfjointref17_search), SameQ q t s → s.found.length ≤ q.most → es.length + f = q.p.edges.length → f + 200 < F →
    s_ref17_search_edges F s ns es = some ((s.found ++ UE q ns f es).take q.most)
  | f, 0, es, s, _, _, _, hF => by omega
  | f, F + 1, es, s, hs, hfo, he, hF => by
    have hp80 := hq.p80
    have hp40 := hq.p40
    have hms := hq.most
    rw [s_ref17_search_edges]
    have hmost := hs.most
    by_cases c : s.most < (s.found.length : Int)
    · rw [bif_t (by simpa using c), List.take_append_of_le_length (by omega), List.take_of_length_le hfo]
    rw [bif_f (by simpa using c), hs.p]
    cases f with
    | zero =>
      rw [bif_t (by simp; omega), catL_of (by simp; omega)]
      simp only [Option.bind_some, List.nil_append]
      rw [catL_of (by simp; omega)]
      simp only [Option.bind_some, List.nil_append]
      rw [catL_of (by simp; omega)]
      simp only [Option.bind_some]
      unfold UE
      rw [List.take_of_length_le (by simp; omega)]
    | succ f =>
      have hes : es.length < q.p.edges.length := by omega
      rw [bif_f (by simp; omega), getN_some hes, nth_eq q.p.edges _ hes, hs.g]
      simp only [Option.bind_some]
      obtain ⟨⟨a1, a2⟩, b1, b2⟩ := hq.pe _ hes
      obtain ⟨e1, e2⟩ := forN_fold (body := b1_ref17_search_edges F s ns es (nth q.p.edges es.length) (s_ref17_search_edges F)) (fun _ (o : List Morph) => o.length ≤ q.most)
        (fun k o => (o ++ (if skipE q ns es k then [] else UE q ns f (es ++ [(k : Int)]))).take q.most) q.g.edges.length 0 s.found hfo (fun k o _ hk ho => by
          have hk' : k < q.g.edges.length := by omega
          refine ⟨?_, List.length_take_le _ _⟩
          have hs' : SameQ q t ⟨s.t, s.p, s.g, s.partialx, s.injective, s.most, o⟩ := ⟨hs.t, hs.p, hs.g, hs.inj, hs.most, hs.pn, hs.pe, hs.gn, hs.ge⟩
          unfold b1_ref17_search_edges
          rw [hs.g, getN_some hk', nth_eq q.g.edges k hk', getN_some (by rw [hs.pe]; exact hes), nth_eq s.partialx.edges es.length (by rw [hs.pe]; exact hes), hs.ge _ hes, used_some _ es (k : Int) F (by omega) (by omega),
            getI_of a1, getI_of b1, getN_some (show (nth q.p.edges es.length).src.toNat < ns.length by omega), getN_some (show (nth q.p.edges es.length).tgt.toNat < ns.length by omega), nth_eq ns _ (by omega), nth_eq ns _ (by omega)]
          simp only [Option.bind_some, hs.inj]
          have hsk : skipE q ns es k = (!(!(decide (0 ≤ givenI q.part true es.length) && decide (givenI q.part true es.length ≠ (k : Int))) && decide (nth q.g.edges k = ⟨(nth q.p.edges es.length).kind, nth ns (nth q.p.edges es.length).src.toNat, nth ns (nth q.p.edges es.length).tgt.toNat⟩)) || (q.inj && es.any fun c => decide ((k : Int) = c))) := rfl
          have fin : ∀ c : Bool, c = skipE q ns es k → ((some c).bind fun c => bif c then some (Ct.go (R := List Morph) o) else (catL ([] : List Int) es).bind fun a3 => (catL a3 [(k : Int)]).bind fun a4 => (s_ref17_search_edges F ⟨s.t, s.p, q.g, s.partialx, q.inj, s.most, o⟩ ns a4).bind fun rx => some (.go rx)) = some (.go ((o ++ (if skipE q ns es k then [] else UE q ns f (es ++ [(k : Int)]))).take q.most)) := by
            intro c hc
            subst hc
            cases hb : skipE q ns es k
            · simp only [Option.bind_some, cond_false, Bool.false_eq_true, if_false]
              rw [catL_of (by simp; omega)]
              simp only [Option.bind_some, List.nil_append]
              rw [catL_of (by simp; omega)]
              simp only [Option.bind_some]
              rw [show (⟨s.t, s.p, q.g, s.partialx, q.inj, s.most, o⟩ : Gscarfjointref17_search) = ⟨s.t, s.p, s.g, s.partialx, s.injective, s.most, o⟩ by rw [hs.g, hs.inj], edges_some hq ns hn f F _ _ hs' ho (by simp; omega) (by omega)]
              rfl
            · simp only [Option.bind_some, cond_true, if_true, List.append_nil]
              rw [List.take_of_length_le ho]
          generalize nth q.g.edges k = y at hsk ⊢
          generalize nth q.p.edges es.length = x at hsk ⊢
          obtain ⟨yk, ys, yt⟩ := y
          obtain ⟨xk, xs, xt⟩ := x
          simp only at hsk ⊢
          generalize nth ns xs.toNat = n1 at hsk ⊢
          generalize nth ns xt.toNat = n2 at hsk ⊢
          generalize givenI q.part true es.length = w at hsk ⊢
          generalize (q.inj && es.any fun c => decide ((k : Int) = c)) = u at hsk ⊢
          have hE : ∀ c' : Bool, c' = skipE q ns es k → ∀ X : Option Bool, X = some c' → (X.bind fun c => bif c then some (Ct.go (R := List Morph) o) else (catL ([] : List Int) es).bind fun a3 => (catL a3 [(k : Int)]).bind fun a4 => (s_ref17_search_edges F ⟨s.t, s.p, q.g, s.partialx, q.inj, s.most, o⟩ ns a4).bind fun rx => some (.go rx)) = some (.go ((o ++ (if skipE q ns es k then [] else UE q ns f (es ++ [(k : Int)]))).take q.most)) := fun c' h1 X h2 => by rw [h2]; exact fin c' h1
          refine hE _ rfl _ ?_
          rw [hsk]
          have hiff : decide ((⟨yk, ys, yt⟩ : E3) = ⟨xk, n1, n2⟩) = (decide (xk = yk) && (decide (ys = n1) && decide (yt = n2))) := by
            rw [Bool.eq_iff_iff]; simp; omega
          rw [hiff]
          by_cases d0 : 0 ≤ w <;> by_cases d1 : w = (k : Int) <;> by_cases d2 : xk = yk <;> by_cases d3 : ys = n1 <;> by_cases d4 : yt = n2 <;> cases u <;> simp [d0, d1, d2, d3, d4])
      rw [e1]
      simp only [Option.bind_some, Out.on]
      rw [foldN_foldl]
      conv => rhs; unfold UE
      rw [← List.range_eq_range', foldl_take q.most _ (fun k => if skipE q ns es k then [] else UE q ns f (es ++ [(k : Int)])) _ (fun o k _ _ => rfl) s.found hfo]
theorem nth_rowsF (t : Types) (a b : Nat) (ha : a < t.nodes.length) (hb : b < t.nodes.length) : nth (nth (rowsF t t.nodes.length) a) b = isF t.nodes b a := by
  have h1 : nth (rowsF t t.nodes.length) a = rowF t a := by
    rw [← nth_eq _ a (by rw [rowsF_len]; exact ha)]
    simp [rowsF]
  rw [h1, ← nth_eq _ b (by rw [rowF_len]; exact hb)]
  simp [rowF]
theorem nodes_some {q : Quest} {t : Types} (hq : OkQ q t) : ∀ (f F : Nat) (ns : List Int) (s : Gscarfjointref17_search), SameQ q t s → s.found.length ≤ q.most → ns.length + f = q.p.nodes.length → f + 400 < F →
    s_ref17_search_nodes F s ns = some ((s.found ++ UN q f ns).take q.most)
  | f, 0, ns, s, _, _, _, hF => by omega
  | f, F + 1, ns, s, hs, hfo, he, hF => by
    have hp80 := hq.p80
    have hp40 := hq.p40
    have hms := hq.most
    rw [s_ref17_search_nodes]
    have hmost := hs.most
    by_cases c : s.most < (s.found.length : Int)
    · rw [bif_t (by simpa using c)]
      simp only [Option.bind_some, cond_true]
      rw [List.take_append_of_le_length (by omega), List.take_of_length_le hfo]
    rw [bif_f (by simpa using c)]
    obtain ⟨b, e, hb⟩ := fits_some hs hq ns (by omega)
    rw [e]
    simp only [Option.bind_some]
    cases b with
    | false =>
      obtain ⟨i, h1, h2, h3, h4⟩ := hb rfl
      rw [UN_nil q i h1 f ns h2 h3 h4]
      simp only [Bool.not_false, cond_true, List.append_nil]
      rw [List.take_of_length_le hfo]
    | true =>
      simp only [Bool.not_true, cond_false]
      rw [hs.p]
      cases f with
      | zero =>
        rw [bif_t (by simp; omega), edges_some hq ns (by omega) q.p.edges.length F [] s hs hfo (by simp) (by omega)]
        rfl
      | succ f =>
        have hns : ns.length < q.p.nodes.length := by omega
        rw [bif_f (by simp; omega), hs.g]
        obtain ⟨pa, pb⟩ := hq.pn _ hns
        obtain ⟨e1, e2⟩ := forN_fold (body := b1_ref17_search_nodes F s ns (s_ref17_search_nodes F)) (fun _ (o : List Morph) => o.length ≤ q.most)
          (fun k o => (o ++ (if skipN q ns k then [] else UN q f (ns ++ [(k : Int)]))).take q.most) q.g.nodes.length 0 s.found hfo (fun k o _ hk ho => by
            have hk' : k < q.g.nodes.length := by omega
            obtain ⟨ga, gb⟩ := hq.gn _ hk'
            refine ⟨?_, List.length_take_le _ _⟩
            have hs' : SameQ q t ⟨s.t, s.p, s.g, s.partialx, s.injective, s.most, o⟩ := ⟨hs.t, hs.p, hs.g, hs.inj, hs.most, hs.pn, hs.pe, hs.gn, hs.ge⟩
            have hB : s_ref04_Below1 F s.t (nth q.g.nodes k) (nth q.p.nodes ns.length) = some (isF t.nodes (nth q.g.nodes k).toNat (nth q.p.nodes ns.length)) := by
              have := below1_some hq.ok (nth q.p.nodes ns.length) pa (nth q.g.nodes k).toNat F (by omega) (by have := hq.t12; omega)
              rw [Int.toNat_of_nonneg ga] at this
              rw [hs.t]; exact this
            unfold b1_ref17_search_nodes
            rw [getN_some (by rw [hs.pn]; exact hns), nth_eq s.partialx.nodes ns.length (by rw [hs.pn]; exact hns), hs.gn _ hns, used_some _ ns (k : Int) F (by omega) (by omega), hs.g, hs.p, getN_some hk', nth_eq q.g.nodes k hk', getN_some hns, nth_eq q.p.nodes _ hns]
            simp only [Option.bind_some]
            rw [hB]
            simp only [Option.bind_some, hs.inj]
            have hsk : skipN q ns k = ((decide (0 ≤ givenI q.part false ns.length) && decide (givenI q.part false ns.length ≠ (k : Int))) || !(isF t.nodes (nth q.g.nodes k).toNat (nth q.p.nodes ns.length)) || (q.inj && ns.any fun c => decide ((k : Int) = c))) := by
              unfold skipN
              rw [hq.is, nth_rowsF t _ _ (by omega) (by omega), Int.toNat_of_nonneg pa]
            have hE : ∀ c' : Bool, c' = skipN q ns k → ∀ X : Option Bool, X = some c' → (X.bind fun c => bif c then some (Ct.go (R := List Morph) o) else (catL ([] : List Int) ns).bind fun a3 => (catL a3 [(k : Int)]).bind fun a4 => (s_ref17_search_nodes F ⟨s.t, q.p, q.g, s.partialx, q.inj, s.most, o⟩ a4).bind fun rx => some (.go rx)) = some (.go ((o ++ (if skipN q ns k then [] else UN q f (ns ++ [(k : Int)]))).take q.most)) := by
              intro c' h1 X h2
              subst h1
              subst h2
              cases hb : skipN q ns k
              · simp only [Option.bind_some, cond_false, Bool.false_eq_true, if_false]
                rw [catL_of (by simp; omega)]
                simp only [Option.bind_some, List.nil_append]
                rw [catL_of (by simp; omega)]
                simp only [Option.bind_some]
                rw [show (⟨s.t, q.p, q.g, s.partialx, q.inj, s.most, o⟩ : Gscarfjointref17_search) = ⟨s.t, s.p, s.g, s.partialx, s.injective, s.most, o⟩ by rw [hs.g, hs.inj, hs.p], nodes_some hq f F _ _ hs' ho (by simp; omega) (by omega)]
                rfl
              · simp only [Option.bind_some, cond_true, if_true, List.append_nil]
                rw [List.take_of_length_le ho]
            refine hE _ rfl _ ?_
            rw [hsk]
            generalize givenI q.part false ns.length = w
            generalize (q.inj && ns.any fun c => decide ((k : Int) = c)) = u
            generalize isF t.nodes (nth q.g.nodes k).toNat (nth q.p.nodes ns.length) = v
            by_cases d0 : 0 ≤ w <;> by_cases d1 : w = (k : Int) <;> cases u <;> cases v <;> simp [d0, d1])
        rw [e1]
        simp only [Option.bind_some, Out.on]
        rw [foldN_foldl]
        conv => rhs; unfold UN
        rw [← List.range_eq_range', foldl_take q.most _ (fun k => if skipN q ns k then [] else UN q f (ns ++ [(k : Int)])) _ (fun o k _ _ => rfl) s.found hfo]
end Go.Proofs.YtdacgjleiloooaaGreat
namespace Go.Proofs.YtdacgjleiloooaaGreat
open Go Go.Ew
theorem okq_of {t : Types} {p g : Graph} (h : svalidF t p g = 0) (part : Option Morph) (inj : Bool) (most : Nat) (hm : most ≤ 100000) (hpart : ∀ m, part = some m → m.nodes.length = p.nodes.length ∧ m.edges.length = p.edges.length) :
    OkQ (questOf t part p g inj most) t ∧ wfQ2 (questOf t part p g inj most) ∧ (validF t).2 = 0 := by
  unfold svalidF at h
  split at h
  · rename_i h1; exact absurd h h1
  rename_i h1
  split at h
  · rename_i h2; exact absurd h h2
  rename_i h2
  split at h
  · rename_i h3; exact absurd h h3
  rename_i h3
  have h4 : (withinF t p && withinF t g) = true := by
    cases hb : withinF t p && withinF t g
    · rw [hb] at h; cases h
    · rfl
  have h1' : (validF t).2 = 0 := by omega
  have h2' : gvalidF p = 0 := by omega
  have h3' : gvalidF g = 0 := by omega
  obtain ⟨k1, k2, k3, k4⟩ := valid_okAll h1'
  obtain ⟨p1, p2, p3, p4⟩ := gvalid_ok h2'
  obtain ⟨g1, g2, g3, g4⟩ := gvalid_ok h3'
  have hin : ∀ x : Graph, withinF t x = true → ∀ n ∈ x.nodes, n < t.nodes.length := fun x hx n hn => by
    unfold withinF at hx
    simp only [Bool.and_eq_true, Bool.not_eq_true', List.any_eq_false, decide_eq_true_eq] at hx
    have := hx.1 n hn
    omega
  simp only [Bool.and_eq_true] at h4
  have hp : ∀ i, i < p.nodes.length → 0 ≤ nth p.nodes i ∧ nth p.nodes i < t.nodes.length := fun i hi => ⟨(p3 _ (nth_mem _ i hi)).1, hin p h4.1 _ (nth_mem _ i hi)⟩
  have hg : ∀ i, i < g.nodes.length → 0 ≤ nth g.nodes i ∧ nth g.nodes i < t.nodes.length := fun i hi => ⟨(g3 _ (nth_mem _ i hi)).1, hin g h4.2 _ (nth_mem _ i hi)⟩
  have he : ∀ i, i < p.edges.length → (0 ≤ (nth p.edges i).src ∧ (nth p.edges i).src < p.nodes.length) ∧ (0 ≤ (nth p.edges i).tgt ∧ (nth p.edges i).tgt < p.nodes.length) := fun i hi => (p4 _ (nth_mem _ i hi)).2
  refine ⟨⟨k1, rfl, k2, p1, p2, g1, g2, hm, hp, hg, he⟩, ⟨⟨⟨by show p.nodes.length ≤ _; omega, by show p.edges.length ≤ _; omega⟩, ⟨by show g.nodes.length ≤ _; omega, by show g.edges.length ≤ _; omega⟩, he, hpart⟩, hm, fun i hi => ?_, fun k hk r hr => ?_, by show p.nodes.length ≤ _; omega, by show p.edges.length ≤ _; omega⟩, h1'⟩
  · show 0 ≤ nth p.nodes i ∧ nth p.nodes i < (rowsF t t.nodes.length).length
    rw [rowsF_len]
    exact hp i hi
  · show 0 ≤ nth g.nodes k ∧ nth g.nodes k < r.length
    have hr' : r ∈ rowsF t t.nodes.length := hr
    obtain ⟨a, _, rfl⟩ := List.mem_map.1 hr'
    rw [rowF_len]
    exact hg k hk
theorem sameInts_refl (a : List Int) : s_ref05_SameInts a a = some true := by
  unfold s_ref05_SameInts
  rw [bif_f (by simp), forN_hit (fun _ => none) _ _ fun j _ hj _ => by
    unfold b1_ref05_SameInts
    rw [getN_some (by omega)]
    simp [ctO]]
  rw [hitF_none.2 fun _ _ _ => rfl]
  rfl
theorem sameAll_refl (a : List Morph) : s_ref17_SameAll a a = some true := by
  unfold s_ref17_SameAll
  rw [bif_f (by simp), forN_hit (fun _ => none) _ _ fun j _ hj _ => by
    unfold b1_ref17_SameAll
    rw [getN_some (by omega)]
    simp only [Option.bind_some]
    rw [sameInts_refl, sameInts_refl]
    rfl]
  rw [hitF_none.2 fun _ _ _ => rfl]
  rfl
theorem light_some {t : Types} (ht : wfTypes t) (p g : Graph) (F : Nat) (hF : 1001 < F) : ∃ b, s_ref17_Light F t p g = some b ∧ (b = true → fewA t) := by
  obtain ⟨b0, e0, h0⟩ := few_some t ht
  unfold s_ref17_Light
  rw [e0]
  cases b0 with
  | false => exact ⟨false, rfl, fun h => by cases h⟩
  | true =>
    have hA := h0 rfl
    simp only [Option.bind_some, cond_true, s_ref05_Few]
    rw [given_some hA ht p g F hF]
    simp only [Option.bind_some]
    have key : ∀ A B C D E G : Bool, ∃ b, ((bif A then (bif B then (bif C then some true else (bif D then (bif E then some G else some false) else some false)) else some false) else some false).bind fun c => some c) = some b := by decide
    obtain ⟨b, e⟩ := key (decide ((p.nodes.length : Int) ≤ 45) && decide ((p.edges.length : Int) ≤ 90)) (decide ((g.nodes.length : Int) ≤ 45) && decide ((g.edges.length : Int) ≤ 90)) (!decide (((svalidF t p g : Nat) : Int) = 0)) (decide (IntKind.i64.wrap ((p.nodes.length : Int) + (p.edges.length : Int)) ≤ 6)) (decide ((g.nodes.length : Int) ≤ 8)) (decide ((g.edges.length : Int) ≤ 12))
    exact ⟨b, e, fun _ => hA⟩
/-! ### First -/
theorem open_set (m : Nat) : ∀ (n i : Nat) (l : List Int), l.length = m → i + n = m → (∀ k, k < i → nth l k = -1) → ∃ r, forN (R := Morph) (fun i x => (getN x i).bind fun _ => some (Ct.go (x.set i (-1)))) n i l = some (.done r) ∧ r.length = m ∧ ∀ k, k < m → nth r k = -1
  | 0, i, l, hl, hi, h => ⟨l, rfl, hl, fun k hk => h k (by omega)⟩
  | n + 1, i, l, hl, hi, h => by
    unfold forN
    rw [getN_some (by omega)]
    simp only [Option.bind_some, Ct.on]
    refine open_set m n (i + 1) _ (by simpa using hl) (by omega) fun k hk => ?_
    simp only [nth, List.getD_eq_getElem?_getD]
    by_cases e : k = i
    · subst e
      rw [List.getElem?_set_self (by omega)]
      rfl
    · rw [List.getElem?_set_ne (fun e' => e e'.symm)]
      have := h k (by omega)
      simpa [nth, List.getD_eq_getElem?_getD] using this
theorem open_some (p : Graph) (h1 : p.nodes.length ≤ 40) (h2 : p.edges.length ≤ 80) : ∃ P, s_ref17_open p = some P ∧ P.nodes.length = p.nodes.length ∧ P.edges.length = p.edges.length ∧ (∀ k, k < p.nodes.length → nth P.nodes k = -1) ∧ ∀ k, k < p.edges.length → nth P.edges k = -1 := by
  unfold s_ref17_open
  rw [mkL_of (by omega) (by omega)]
  simp only [Option.bind_some]
  rw [mkL_of (by omega) (by omega)]
  simp only [Option.bind_some, Int.toNat_natCast, List.length_replicate]
  obtain ⟨r1, e1, l1, k1⟩ := open_set p.nodes.length p.nodes.length 0 (List.replicate p.nodes.length 0) (by simp) (by omega) (fun k hk => by omega)
  obtain ⟨r2, e2, l2, k2⟩ := open_set p.edges.length p.edges.length 0 (List.replicate p.edges.length 0) (by simp) (by omega) (fun k hk => by omega)
  rw [show (b1_ref17_open : Nat → List Int → Option (Ct (List Int) Morph)) = fun i x => (getN x i).bind fun _ => some (Ct.go (x.set i (-1))) from rfl, e1]
  simp only [Option.bind_some, Out.on]
  rw [show (b3_ref17_open : Nat → List Int → Option (Ct (List Int) Morph)) = fun i x => (getN x i).bind fun _ => some (Ct.go (x.set i (-1))) from rfl, e2]
  exact ⟨⟨r1, r2⟩, rfl, l1, l2, k1, k2⟩
theorem run_some {t : Types} {p g : Graph} (h : svalidF t p g = 0) (part : Option Morph) (P : Morph) (inj : Bool) (most F : Nat) (hm : most ≤ 100000) (hm0 : 0 < most) (hF : 1001 < F)
    (hpart : ∀ m, part = some m → m.nodes.length = p.nodes.length ∧ m.edges.length = p.edges.length) (l1 : P.nodes.length = p.nodes.length) (l2 : P.edges.length = p.edges.length)
    (k1 : ∀ i, i < p.nodes.length → nth P.nodes i = givenI part false i) (k2 : ∀ i, i < p.edges.length → nth P.edges i = givenI part true i) (m' : Int) (hmm : m' + 1 = (most : Int)) :
    s_ref17_run F t p g P inj m' = some (foundQ (questOf t part p g inj most)) := by
  obtain ⟨hq, hw, _⟩ := okq_of h part inj most hm hpart
  unfold s_ref17_run
  have hs : SameQ (questOf t part p g inj most) t ⟨t, p, g, P, inj, m', []⟩ := ⟨rfl, rfl, rfl, rfl, hmm, l1, l2, k1, k2⟩
  rw [nodes_some hq p.nodes.length F [] _ hs (Nat.zero_le _) (by show 0 + p.nodes.length = p.nodes.length; omega) (by have := hq.p40; show p.nodes.length + 400 < F; have h40 : p.nodes.length ≤ 40 := hq.p40; omega)]
  simp only [Option.bind_some, List.nil_append]
  rw [foundQ_UN _ hw.1]
  rfl
theorem valid_s {t : Types} {p g : Graph} (ht : wfTypes t) (hp : wfGraph p) (hg : wfGraph g) : s_search_valid t p g = some ((svalidF t p g : Nat) : Int) := by
  unfold s_search_valid
  rw [if_pos ⟨ht, hp, hg⟩]
theorem all_s {t : Types} {p g : Graph} (ht : wfTypes t) (h : svalidF t p g = 0) (part : Option Morph) (inj : Bool) (hpart : ∀ m, part = some m → m.nodes.length = p.nodes.length ∧ m.edges.length = p.edges.length) :
    s_search_all t p g part inj = some (allQ (questOf t part p g inj 5001)) := by
  obtain ⟨_, hw, hv⟩ := okq_of h part inj 5001 (by omega) hpart
  unfold s_search_all
  rw [if_pos ⟨ht, hv, hw⟩]
/-! ### Extend -/
end Go.Proofs.YtdacgjleiloooaaGreat
namespace Go.Proofs.YtdacgjleiloooaaGreat
open Go Go.Ew
/-- The error of node number k of a match. -/
def nodeErr (t : Types) (p g : Graph) (m : Morph) (k : Nat) : Option Int :=
  if nth m.nodes k < 0 ∨ (g.nodes.length : Int) ≤ nth m.nodes k then some 6
  else if isF t.nodes (nth g.nodes (nth m.nodes k).toNat).toNat (nth p.nodes k) then none else some 13
/-- The error of edge number k of a match. -/
def edgeErr (p g : Graph) (m : Morph) (k : Nat) : Option Int :=
  if nth m.edges k < 0 ∨ (g.edges.length : Int) ≤ nth m.edges k then some 6
  else if (nth p.edges k).kind ≠ (nth g.edges (nth m.edges k).toNat).kind then some 13
  else if nth m.nodes (nth p.edges k).src.toNat ≠ (nth g.edges (nth m.edges k).toNat).src ∨ nth m.nodes (nth p.edges k).tgt.toNat ≠ (nth g.edges (nth m.edges k).toNat).tgt then some 11
  else none
def matchErr (t : Types) (p g : Graph) (m : Morph) : Int :=
  if m.nodes.length = p.nodes.length ∧ m.edges.length = p.edges.length then
    match hitF (nodeErr t p g m) p.nodes.length 0 with
    | some e => e
    | none => match hitF (edgeErr p g m) p.edges.length 0 with
      | some e => e
      | none => 0
  else 20
theorem below_s {t : Types} (ht : wfTypes t) (hv : (validF t).2 = 0) : s_search_below t = some (rowsF t t.nodes.length) := by
  unfold s_search_below
  rw [if_pos ⟨ht, hv⟩]
theorem nth_rows (t : Types) (a : Nat) (ha : a < t.nodes.length) : nth (rowsF t t.nodes.length) a = rowF t a := by
  rw [← nth_eq _ a (by rw [rowsF_len]; exact ha)]
  simp [rowsF]
theorem shape_some {t : Types} {p g : Graph} (ht : wfTypes t) (h : svalidF t p g = 0) (m : Morph) : s_search_shape t p g m = some (matchErr t p g m) := by
  obtain ⟨hq, _, hv⟩ := okq_of h none false 1 (by omega) (fun m e => by cases e)
  have hpn := hq.pn
  have hgn := hq.gn
  have hpe := hq.pe
  simp only [questOf] at hpn hgn hpe
  unfold s_search_shape matchErr
  by_cases hl : m.nodes.length = p.nodes.length ∧ m.edges.length = p.edges.length
  · rw [bif_f (by simp [hl.1, hl.2]), if_pos hl, below_s ht hv]
    simp only [Option.bind_some]
    rw [hl.1, hl.2, forN_hit (nodeErr t p g m) _ _ fun k _ hk _ => by
      have hk' : k < p.nodes.length := by omega
      obtain ⟨a1, a2⟩ := hpn k hk'
      unfold b1_search_shape nodeErr
      rw [getN_some (by omega), nth_eq m.nodes k (by omega)]
      simp only [Option.bind_some]
      by_cases c : nth m.nodes k < 0 ∨ (g.nodes.length : Int) ≤ nth m.nodes k
      · rw [bif_t (by simpa using c), if_pos c]; rfl
      rw [bif_f (by simpa using c), if_neg c, getN_some hk', nth_eq p.nodes k hk']
      simp only [Option.bind_some]
      obtain ⟨b1, b2⟩ := hgn (nth m.nodes k).toNat (by omega)
      rw [getI_of a1, getN_some (by rw [rowsF_len]; omega), nth_eq _ _ (by rw [rowsF_len]; omega), nth_rows t _ (by omega)]
      simp only [Option.bind_some]
      rw [getI_of (by omega), getN_some (by omega), nth_eq _ _ (by omega)]
      simp only [Option.bind_some]
      rw [getI_of b1, getN_some (by rw [rowF_len]; omega), nth_eq _ _ (by rw [rowF_len]; omega), ← nth_rows t (nth p.nodes k).toNat (by omega), nth_rowsF t _ _ (by omega) (by omega), Int.toNat_of_nonneg a1]
      simp only [Option.bind_some]
      cases isF t.nodes (nth g.nodes (nth m.nodes k).toNat).toNat (nth p.nodes k) <;> rfl]
    cases hitF (nodeErr t p g m) p.nodes.length 0 with
    | some e => rfl
    | none =>
      simp only [outO, Option.bind_some, Out.on]
      rw [forN_hit (edgeErr p g m) _ _ fun k _ hk _ => by
        have hk' : k < p.edges.length := by omega
        obtain ⟨⟨a1, a2⟩, a3, a4⟩ := hpe k hk'
        unfold b3_search_shape edgeErr
        rw [getN_some (by omega), nth_eq m.edges k (by omega)]
        simp only [Option.bind_some]
        by_cases c : nth m.edges k < 0 ∨ (g.edges.length : Int) ≤ nth m.edges k
        · rw [bif_t (by simpa using c), if_pos c]; rfl
        rw [bif_f (by simpa using c), if_neg c, getN_some hk', nth_eq p.edges k hk', getI_of (by omega), getN_some (by omega), nth_eq g.edges _ (by omega)]
        simp only [Option.bind_some]
        by_cases c2 : (nth p.edges k).kind = (nth g.edges (nth m.edges k).toNat).kind
        · rw [bif_f (by simp [c2]), if_neg (by simp [c2]), getI_of a1, getI_of a3, getN_some (show (nth p.edges k).src.toNat < m.nodes.length by omega), getN_some (show (nth p.edges k).tgt.toNat < m.nodes.length by omega), nth_eq _ _ (by omega), nth_eq _ _ (by omega)]
          simp only [Option.bind_some]
          by_cases c3 : nth m.nodes (nth p.edges k).src.toNat = (nth g.edges (nth m.edges k).toNat).src <;> by_cases c4 : nth m.nodes (nth p.edges k).tgt.toNat = (nth g.edges (nth m.edges k).toNat).tgt <;> simp [c3, c4, ctO]
        · rw [bif_t (by simp [c2]), if_pos c2]; rfl]
      cases hitF (edgeErr p g m) p.edges.length 0 <;> rfl
  · rw [if_neg hl, bif_t (by
      by_cases e1 : m.nodes.length = p.nodes.length
      · by_cases e2 : m.edges.length = p.edges.length
        · exact absurd ⟨e1, e2⟩ hl
        · simp [e2]
      · simp [e1])]
theorem matchErr_ok {t : Types} {p g : Graph} {m : Morph} (h : matchErr t p g m = 0) : (m.nodes.length = p.nodes.length ∧ m.edges.length = p.edges.length) ∧ (∀ k, k < p.nodes.length → nodeErr t p g m k = none) ∧ ∀ k, k < p.edges.length → edgeErr p g m k = none := by
  unfold matchErr at h
  split at h
  · rename_i hl
    refine ⟨hl, ?_⟩
    cases hn : hitF (nodeErr t p g m) p.nodes.length 0 with
    | some e =>
      rw [hn] at h
      obtain ⟨j, _, _, hj, _⟩ := hitF_some hn
      unfold nodeErr at hj
      split at hj
      · cases hj; cases h
      split at hj
      · cases hj
      · cases hj; cases h
    | none =>
      rw [hn] at h
      simp only at h
      cases he : hitF (edgeErr p g m) p.edges.length 0 with
      | some e =>
        rw [he] at h
        obtain ⟨j, _, _, hj, _⟩ := hitF_some he
        unfold edgeErr at hj
        split at hj
        · cases hj; cases h
        split at hj
        · cases hj; cases h
        split at hj
        · cases hj; cases h
        · cases hj
      | none => exact ⟨fun k hk => hitF_none.1 hn k (by omega) (by omega), fun k hk => hitF_none.1 he k (by omega) (by omega)⟩
  · cases h
/-- The types of the images. -/
def imgs (g : Graph) (m : Morph) : List Int := m.nodes.map fun n => nth g.nodes n.toNat
theorem imgs_nth (g : Graph) (m : Morph) (k : Nat) (hk : k < m.nodes.length) : nth (imgs g m) k = nth g.nodes (nth m.nodes k).toNat := by
  rw [← nth_eq _ k (by simpa [imgs] using hk), ← nth_eq m.nodes k hk]
  simp [imgs]
theorem sInstance_some {t : Types} {p g : Graph} (ht : wfTypes t) (hp : wfGraph p) (hg : wfGraph g) (m : Morph) : s_search_Instance t p g m = some (if svalidF t p g = 0 then (if matchErr t p g m = 0 then (⟨imgs g m, p.edges⟩, 0) else (⟨[], []⟩, matchErr t p g m)) else (⟨[], []⟩, ((svalidF t p g : Nat) : Int))) := by
  unfold s_search_Instance
  rw [valid_s ht hp hg]
  simp only [Option.bind_some]
  by_cases h : svalidF t p g = 0
  · obtain ⟨hq, _, _⟩ := okq_of h none false 1 (by omega) (fun m e => by cases e)
    have h40 := hq.p40
    have h80 := hq.p80
    have g40 := hq.g40
    simp only [questOf] at h40 h80 g40
    rw [bif_f (by simp [h]), if_pos h, shape_some ht h]
    simp only [Option.bind_some]
    by_cases h2 : matchErr t p g m = 0
    · obtain ⟨⟨l1, l2⟩, n1, _⟩ := matchErr_ok h2
      rw [bif_f (by simp [h2]), if_pos h2]
      unfold s_slices_Clone_Edge
      rw [if_pos (by omega)]
      simp only [Option.bind_some]
      obtain ⟨e1, e2⟩ := forN_fold (body := b1_search_Instance g m) (fun j (x : List Int) => x = (imgs g m).take j) (fun k x => x ++ [nth g.nodes (nth m.nodes k).toNat]) m.nodes.length 0 [] rfl (fun k x _ hk hx => by
        have hk' : k < m.nodes.length := by omega
        have hn := n1 k (by omega)
        unfold nodeErr at hn
        split at hn
        · cases hn
        rename_i hr
        refine ⟨?_, ?_⟩
        · unfold b1_search_Instance
          rw [getN_some hk', nth_eq m.nodes k hk']
          simp only [Option.bind_some]
          rw [getI_of (by omega), getN_some (by omega), nth_eq _ _ (by omega)]
          simp only [Option.bind_some]
          rw [catL_of (by rw [hx, List.length_take]; simp [imgs]; omega)]
          rfl
        · rw [hx, take_nth (imgs g m) k (by simpa [imgs] using hk'), imgs_nth g m k hk'])
      rw [e1]
      simp only [Option.bind_some, Out.on]
      rw [e2, Nat.zero_add, List.take_of_length_le (by simp [imgs])]
    · rw [bif_t (by simp [h2]), if_neg h2]
  · rw [bif_t (by simp [h]), if_neg h]
/-! ### The examples -/
theorem example_some : ∃ T, s_ref04_Example = some T ∧ wfTypes T ∧ svalidF T ⟨[0, 0], []⟩ ⟨[3, 1, 1], [⟨0, 0, 1⟩, ⟨0, 0, 2⟩]⟩ = 0 ∧
    allQ (questOf T none ⟨[0, 0], []⟩ ⟨[3, 1, 1], [⟨0, 0, 1⟩, ⟨0, 0, 2⟩]⟩ true 5001) = ([⟨[1, 2], []⟩, ⟨[2, 1], []⟩], 0) ∧
    (allQ (questOf T none ⟨[0, 0], []⟩ ⟨[3, 1, 1], [⟨0, 0, 1⟩, ⟨0, 0, 2⟩]⟩ false 5001)).1.length = 4 ∧ (allQ (questOf T none ⟨[0, 0], []⟩ ⟨[3, 1, 1], [⟨0, 0, 1⟩, ⟨0, 0, 2⟩]⟩ false 5001)).2 = 0 ∧
    matchErr T ⟨[0, 0], []⟩ ⟨[3, 1, 1], [⟨0, 0, 1⟩, ⟨0, 0, 2⟩]⟩ ⟨[1, 2], []⟩ = 0 := by
  refine ⟨_, rfl, ?_, by decide +kernel, by decide +kernel, by decide +kernel, by decide +kernel, by decide +kernel⟩
  refine ⟨by simp, by simp, ?_, ?_⟩
  · intro n hn
    simp only [List.mem_cons, List.not_mem_nil, or_false] at hn
    rcases hn with rfl | rfl | rfl | rfl <;> refine ⟨by simp [wfS], by simp, ?_⟩ <;> intro a ha <;> simp only [List.mem_cons, List.not_mem_nil, or_false] at ha <;> subst ha <;> refine ⟨by simp [wfS], by simp, ?_⟩ <;> intro s hs <;> simp only [List.mem_cons, List.not_mem_nil, or_false] at hs
    rcases hs with rfl | rfl <;> simp [wfS]
  · intro e he
    simp only [List.mem_cons, List.not_mem_nil, or_false] at he
    rcases he with rfl | rfl <;> simp [wfS]
theorem awake_some : s_law17_awake = some true := by
  obtain ⟨T, e, hw, hv, h1, h2, h3, h4⟩ := example_some
  have hp : wfGraph ⟨[0, 0], []⟩ := ⟨by simp, by simp⟩
  have hg : wfGraph ⟨[3, 1, 1], [⟨0, 0, 1⟩, ⟨0, 0, 2⟩]⟩ := ⟨by simp, by simp⟩
  unfold s_law17_awake s_law17_bank s_search_Count s_search_All
  rw [e]
  simp only [Option.bind_some]
  rw [valid_s hw hp hg, hv]
  simp only [Option.bind_some, Int.natCast_zero, decide_true, Bool.not_true, cond_false]
  rw [all_s hw hv none true (fun m e => by cases e), all_s hw hv none false (fun m e => by cases e), sInstance_some hw hp hg, h1, if_pos hv, if_pos h4]
  simp only [Option.bind_some, h2, h3, decide_true, cond_true]
  rw [sameAll_refl]
  simp only [Option.bind_some, cond_true]
  rfl
/-! ### The laws -/
end Go.Proofs.YtdacgjleiloooaaGreat
namespace Go.Proofs.YtdacgjleiloooaaGreat
open Go Go.Ew
def dupErr (m : Morph) (inj : Bool) : Int := if inj = true ∧ ¬ (m.nodes.Nodup ∧ m.edges.Nodup) then 5 else 0
def matchErrI (t : Types) (p g : Graph) (m : Morph) (inj : Bool) : Int :=
  if m.nodes.length = p.nodes.length ∧ m.edges.length = p.edges.length then
    match hitF (nodeErr t p g m) p.nodes.length 0 with
    | some e => e
    | none => match hitF (edgeErr p g m) p.edges.length 0 with
      | some e => e
      | none => dupErr m inj
  else 20
theorem nodeErr_ne {t : Types} {p g : Graph} {m : Morph} {n i : Nat} {e : Int} (h : hitF (nodeErr t p g m) n i = some e) : e ≠ 0 := by
  obtain ⟨j, _, _, h1, _⟩ := hitF_some h
  unfold nodeErr at h1
  split at h1
  · cases h1; decide
  · split at h1
    · cases h1
    · cases h1; decide
theorem edgeErr_ne {p g : Graph} {m : Morph} {n i : Nat} {e : Int} (h : hitF (edgeErr p g m) n i = some e) : e ≠ 0 := by
  obtain ⟨j, _, _, h1, _⟩ := hitF_some h
  unfold edgeErr at h1
  split at h1
  · cases h1; decide
  · split at h1
    · cases h1; decide
    · split at h1
      · cases h1; decide
      · cases h1
theorem matchErrI_eq (t : Types) (p g : Graph) (m : Morph) (inj : Bool) : matchErrI t p g m inj = if matchErr t p g m = 0 then dupErr m inj else matchErr t p g m := by
  unfold matchErrI matchErr
  split
  · cases h1 : hitF (nodeErr t p g m) p.nodes.length 0 with
    | some e => simp only; rw [if_neg (nodeErr_ne h1)]
    | none =>
      simp only
      cases h2 : hitF (edgeErr p g m) p.edges.length 0 with
      | some e => simp only; rw [if_neg (edgeErr_ne h2)]
      | none => simp
  · simp
/-- What Check answers. -/
def checkE (t : Types) (p g : Graph) (m : Morph) (inj : Bool) : Int := if svalidF t p g = 0 then matchErrI t p g m inj else ((svalidF t p g : Nat) : Int)
theorem sCheck_some {t : Types} {p g : Graph} (ht : wfTypes t) (hp : wfGraph p) (hg : wfGraph g) (m : Morph) (inj : Bool) (hm : m.nodes.length ≤ 1000) (hm2 : m.edges.length ≤ 1000) : s_search_Check t p g m inj = some (checkE t p g m inj) := by
  unfold s_search_Check checkE
  rw [valid_s ht hp hg]
  simp only [Option.bind_some]
  by_cases h : svalidF t p g = 0
  · rw [bif_f (by simp [h]), if_pos h, shape_some ht h m, matchErrI_eq]
    simp only [Option.bind_some]
    by_cases h2 : matchErr t p g m = 0
    · rw [bif_f (by simp [h2]), if_pos h2]
      unfold s_search_twice dupErr
      rw [if_pos (by omega), if_pos (by omega)]
      cases inj
      · simp
      · by_cases d1 : m.nodes.Nodup <;> by_cases d2 : m.edges.Nodup <;> simp [d1, d2]
    · rw [bif_t (by simp [h2]), if_neg h2]
  · rw [bif_t (by simp [h]), if_neg h]
end Go.Proofs.YtdacgjleiloooaaGreat
namespace Go.Proofs.YtdacgjleiloooaaGreat
open Go Go.Ew
/-! ### What is in the tree -/
theorem take_succ_nth {l : List Int} {n : Nat} (h : n < l.length) : l.take (n + 1) = l.take n ++ [nth l n] := by
  rw [List.take_add_one, List.getElem?_eq_getElem h, nth_eq l n h]; rfl
theorem take_app_one {l es : List Int} {k : Int} (h : l.take (es ++ [k]).length = es ++ [k]) (hl : (es ++ [k]).length ≤ l.length) : l.take es.length = es ∧ nth l es.length = k := by
  rw [List.length_append, List.length_singleton] at h hl
  rw [take_succ_nth (by omega)] at h
  have := List.append_inj h (by simp; omega)
  exact ⟨this.1, by simpa using this.2⟩
theorem mem_UE (q : Quest) (ns : List Int) (m : Morph) : ∀ (f : Nat) (es : List Int), m ∈ UE q ns f es ↔ m.nodes = ns ∧ m.edges.length = es.length + f ∧ m.edges.take es.length = es ∧
    ∀ i, es.length ≤ i → i < m.edges.length → ∃ k : Nat, k < q.g.edges.length ∧ nth m.edges i = (k : Int) ∧ skipE q ns (m.edges.take i) k = false
  | 0, es => by
    simp only [UE, List.mem_singleton, Nat.add_zero]
    constructor
    · rintro rfl
      exact ⟨rfl, rfl, by simp, fun i h1 h2 => by simp only at h2; omega⟩
    · rintro ⟨h1, h2, h3, _⟩
      rw [← h2, List.take_length] at h3
      cases m; simp_all
  | f + 1, es => by
    simp only [UE, List.mem_flatMap, List.mem_range]
    constructor
    · rintro ⟨k, hk, hm⟩
      by_cases hs : skipE q ns es k = true
      · rw [if_pos hs] at hm; cases hm
      · rw [if_neg hs] at hm
        obtain ⟨h1, h2, h3, h4⟩ := (mem_UE q ns m f _).1 hm
        have h2' : m.edges.length = es.length + f + 1 := by rw [h2, List.length_append, List.length_singleton]; omega
        obtain ⟨h5, h6⟩ := take_app_one h3 (by rw [h2]; omega)
        refine ⟨h1, by omega, h5, fun i hi hi2 => ?_⟩
        by_cases e : i = es.length
        · subst e
          exact ⟨k, hk, h6, by rw [h5]; simpa using hs⟩
        · exact h4 i (by rw [List.length_append, List.length_singleton]; omega) hi2
    · rintro ⟨h1, h2, h3, h4⟩
      obtain ⟨k, hk, h5, h6⟩ := h4 es.length (Nat.le_refl _) (by omega)
      rw [h3] at h6
      refine ⟨k, hk, ?_⟩
      rw [if_neg (by simp [h6])]
      refine (mem_UE q ns m f _).2 ⟨h1, by rw [List.length_append, List.length_singleton]; omega, ?_, fun i hi hi2 => h4 i (by rw [List.length_append, List.length_singleton] at hi; omega) hi2⟩
      rw [List.length_append, List.length_singleton, take_succ_nth (by omega), h3, h5]
theorem mem_UN (q : Quest) (m : Morph) : ∀ (f : Nat) (ns : List Int), m ∈ UN q f ns ↔ m ∈ UE q m.nodes q.p.edges.length [] ∧ m.nodes.length = ns.length + f ∧ m.nodes.take ns.length = ns ∧
    ∀ i, ns.length ≤ i → i < m.nodes.length → ∃ k : Nat, k < q.g.nodes.length ∧ nth m.nodes i = (k : Int) ∧ skipN q (m.nodes.take i) k = false
  | 0, ns => by
    simp only [UN, Nat.add_zero]
    constructor
    · intro h
      have h1 := ((mem_UE q ns m _ _).1 h).1
      subst h1
      exact ⟨h, rfl, by simp, fun i h1 h2 => by omega⟩
    · rintro ⟨h1, h2, h3, _⟩
      rw [← h2, List.take_length] at h3
      rw [← h3]; exact h1
  | f + 1, ns => by
    simp only [UN, List.mem_flatMap, List.mem_range]
    constructor
    · rintro ⟨k, hk, hm⟩
      by_cases hs : skipN q ns k = true
      · rw [if_pos hs] at hm; cases hm
      · rw [if_neg hs] at hm
        obtain ⟨h1, h2, h3, h4⟩ := (mem_UN q m f _).1 hm
        have h2' : m.nodes.length = ns.length + f + 1 := by rw [h2, List.length_append, List.length_singleton]; omega
        obtain ⟨h5, h6⟩ := take_app_one h3 (by rw [h2]; omega)
        refine ⟨h1, by omega, h5, fun i hi hi2 => ?_⟩
        by_cases e : i = ns.length
        · subst e
          exact ⟨k, hk, h6, by rw [h5]; simpa using hs⟩
        · exact h4 i (by rw [List.length_append, List.length_singleton]; omega) hi2
    · rintro ⟨h1, h2, h3, h4⟩
      obtain ⟨k, hk, h5, h6⟩ := h4 ns.length (Nat.le_refl _) (by omega)
      rw [h3] at h6
      refine ⟨k, hk, ?_⟩
      rw [if_neg (by simp [h6])]
      refine (mem_UN q m f _).2 ⟨h1, by rw [List.length_append, List.length_singleton]; omega, ?_, fun i hi hi2 => h4 i (by rw [List.length_append, List.length_singleton] at hi; omega) hi2⟩
      rw [List.length_append, List.length_singleton, take_succ_nth (by omega), h3, h5]
/-! ### Ascending -/
def ltL (a b : List Int) : Prop := ∃ i, i < a.length ∧ i < b.length ∧ (∀ j, j < i → nth a j = nth b j) ∧ nth a i < nth b i
def ltM (a b : Morph) : Prop := ltL a.nodes b.nodes ∨ a.nodes = b.nodes ∧ ltL a.edges b.edges
theorem nth_of_take {a b : List Int} {n j : Nat} (h : a.take n = b.take n) (hj : j < n) (ha : j < a.length) (hb : j < b.length) : nth a j = nth b j := by
  have := congrArg (fun l => l[j]?) h
  simp only [List.getElem?_take_of_lt hj, List.getElem?_eq_getElem ha, List.getElem?_eq_getElem hb, Option.some.injEq] at this
  rw [← nth_eq a j ha, ← nth_eq b j hb, this]
theorem UE_asc (q : Quest) (ns : List Int) : ∀ (f : Nat) (es : List Int), (UE q ns f es).Pairwise ltM
  | 0, es => by simp [UE]
  | f + 1, es => by
    rw [UE, List.pairwise_flatMap]
    refine ⟨fun k _ => ?_, (List.pairwise_lt_range (n := q.g.edges.length)).imp ?_⟩
    · split
      · exact List.Pairwise.nil
      · exact UE_asc q ns f _
    · intro k1 k2 hk x hx y hy
      split at hx
      · cases hx
      split at hy
      · cases hy
      obtain ⟨a1, a2, a3, _⟩ := (mem_UE q ns x f _).1 hx
      obtain ⟨b1, b2, b3, _⟩ := (mem_UE q ns y f _).1 hy
      obtain ⟨a4, a5⟩ := take_app_one a3 (by rw [a2]; omega)
      obtain ⟨b4, b5⟩ := take_app_one b3 (by rw [b2]; omega)
      rw [List.length_append, List.length_singleton] at a2 b2
      refine .inr ⟨by rw [a1, b1], es.length, by omega, by omega, fun j hj => nth_of_take (by rw [a4, b4]) hj (by omega) (by omega), by rw [a5, b5]; omega⟩
theorem UN_asc (q : Quest) : ∀ (f : Nat) (ns : List Int), (UN q f ns).Pairwise ltM
  | 0, ns => UE_asc q ns _ _
  | f + 1, ns => by
    rw [UN, List.pairwise_flatMap]
    refine ⟨fun k _ => ?_, (List.pairwise_lt_range (n := q.g.nodes.length)).imp ?_⟩
    · split
      · exact List.Pairwise.nil
      · exact UN_asc q f _
    · intro k1 k2 hk x hx y hy
      split at hx
      · cases hx
      split at hy
      · cases hy
      obtain ⟨_, a2, a3, _⟩ := (mem_UN q x f _).1 hx
      obtain ⟨_, b2, b3, _⟩ := (mem_UN q y f _).1 hy
      obtain ⟨a4, a5⟩ := take_app_one a3 (by rw [a2]; omega)
      obtain ⟨b4, b5⟩ := take_app_one b3 (by rw [b2]; omega)
      rw [List.length_append, List.length_singleton] at a2 b2
      refine .inl ⟨ns.length, by omega, by omega, fun j hj => nth_of_take (by rw [a4, b4]) hj (by omega) (by omega), by rw [a5, b5]; omega⟩
/-! ### Compare -/
def cmpAt (a b : List Int) (k : Nat) : Option Int := if b.length ≤ k then some 1 else if nth a k < nth b k then some (-1) else if nth b k < nth a k then some 1 else none
def cmpL (a b : List Int) : Int := match hitF (cmpAt a b) a.length 0 with
  | some r => r
  | none => if a.length < b.length then -1 else 0
theorem cmpInt_some (x y : Int) : s_cmp_Compare_int x y = some (if x < y then -1 else if y < x then 1 else 0) := by
  unfold s_cmp_Compare_int s_cmp_isNaN_int
  by_cases h1 : x < y <;> by_cases h2 : y < x <;> simp [h1, h2]
theorem compare_some (a b : List Int) : s_slices_Compare_int a b = some (cmpL a b) := by
  unfold s_slices_Compare_int cmpL
  rw [forN_hit (cmpAt a b) _ _ fun k _ hk _ => by
    unfold b1_slices_Compare_int cmpAt
    rw [getN_some (show k < a.length by omega), nth_eq a k (by omega)]
    simp only [Option.bind_some]
    by_cases c : b.length ≤ k
    · rw [bif_t (by simpa using c), if_pos c]; rfl
    · rw [bif_f (by simpa using c), if_neg c, getN_some (show k < b.length by omega), nth_eq b k (by omega)]
      simp only [Option.bind_some, cmpInt_some]
      by_cases c1 : nth a k < nth b k
      · simp [c1, ctO]
      · by_cases c2 : nth b k < nth a k
        · simp [c1, c2, ctO]
        · simp [c1, c2, ctO]]
  cases hitF (cmpAt a b) a.length 0 with
  | some r => rfl
  | none =>
    simp only [outO, Option.bind_some, Out.on]
    by_cases c : a.length < b.length
    · rw [bif_t (by simpa using c), if_pos c]
    · rw [bif_f (by simpa using c), if_neg c]
theorem cmp_lt {a b : List Int} (h : ltL a b) : cmpL a b = -1 := by
  obtain ⟨i, h1, h2, h3, h4⟩ := h
  unfold cmpL
  rw [hitF_at (r := -1) (j := i) (by omega) (by omega) (by unfold cmpAt; rw [if_neg (by omega), if_pos h4]) fun l _ hl => by
    unfold cmpAt
    rw [if_neg (by omega), h3 l hl, if_neg (by omega), if_neg (by omega)]]
theorem cmp_refl (a : List Int) : cmpL a a = 0 := by
  unfold cmpL
  rw [hitF_none.2 fun j _ hj => by
    unfold cmpAt
    rw [if_neg (by omega), if_neg (by omega), if_neg (by omega)]]
  simp
/-! ### What is in the tree is a match, and every match is in it -/
theorem nodup_take {l : List Int} : l.Nodup ↔ ∀ i, i < l.length → nth l i ∉ l.take i := by
  rw [List.Nodup, List.pairwise_iff_getElem]
  constructor
  · intro h i hi hm
    obtain ⟨j, hj⟩ := List.getElem?_of_mem hm
    have hji : j < i := by have := (List.getElem?_eq_some_iff.1 hj).1; simp at this; omega
    rw [List.getElem?_take_of_lt hji, List.getElem?_eq_getElem (by omega), Option.some.injEq, ← nth_eq l i hi] at hj
    exact h j i (by omega) hi hji hj
  · intro h i j hi hj hij e
    refine h j hj ?_
    rw [← nth_eq l j hj, ← e]
    refine List.mem_of_getElem? (i := i) ?_
    rw [List.getElem?_take_of_lt hij, List.getElem?_eq_getElem hi]
theorem any_f (l : List Int) (k : Int) : (l.any fun c => decide (k = c)) = decide (k ∈ l) := by
  by_cases h : k ∈ l
  · rw [decide_eq_true h]; simpa using h
  · rw [decide_eq_false h, List.any_eq_false]
    intro c hc e
    have := of_decide_eq_true e
    subst this
    exact h hc
theorem dupErr_ok {m : Morph} {inj : Bool} : dupErr m inj = 0 ↔ (inj = true → m.nodes.Nodup ∧ m.edges.Nodup) := by
  unfold dupErr
  split
  · rename_i h
    constructor
    · intro e; cases e
    · intro e; exact absurd (e h.1) h.2
  · rename_i h
    constructor
    · intro _ hi
      exact Classical.not_not.1 fun hn => h ⟨hi, hn⟩
    · intro _; rfl
theorem nodeErr_ok {t : Types} {p g : Graph} {m : Morph} {k : Nat} : nodeErr t p g m k = none ↔ (0 ≤ nth m.nodes k ∧ nth m.nodes k < g.nodes.length) ∧ isF t.nodes (nth g.nodes (nth m.nodes k).toNat).toNat (nth p.nodes k) = true := by
  unfold nodeErr
  by_cases c : nth m.nodes k < 0 ∨ (g.nodes.length : Int) ≤ nth m.nodes k
  · rw [if_pos c]; simp; omega
  · rw [if_neg c]
    by_cases c2 : isF t.nodes (nth g.nodes (nth m.nodes k).toNat).toNat (nth p.nodes k) = true
    · rw [if_pos c2]; simp [c2]; omega
    · rw [if_neg c2]; simp [c2]
theorem edgeErr_ok {p g : Graph} {m : Morph} {k : Nat} : edgeErr p g m k = none ↔ (0 ≤ nth m.edges k ∧ nth m.edges k < g.edges.length) ∧ nth g.edges (nth m.edges k).toNat = ⟨(nth p.edges k).kind, nth m.nodes (nth p.edges k).src.toNat, nth m.nodes (nth p.edges k).tgt.toNat⟩ := by
  unfold edgeErr
  by_cases c : nth m.edges k < 0 ∨ (g.edges.length : Int) ≤ nth m.edges k
  · rw [if_pos c]; simp; omega
  · rw [if_neg c]
    have c' : 0 ≤ nth m.edges k ∧ nth m.edges k < g.edges.length := by omega
    generalize nth g.edges (nth m.edges k).toNat = y
    obtain ⟨a, b, d⟩ := y
    simp only [E3.mk.injEq]
    by_cases c2 : (nth p.edges k).kind = a
    · rw [if_neg (by simpa using c2)]
      by_cases c3 : nth m.nodes (nth p.edges k).src.toNat = b ∧ nth m.nodes (nth p.edges k).tgt.toNat = d
      · rw [if_neg (by simp [c3.1, c3.2])]
        simp only [true_iff]
        exact ⟨c', c2.symm, c3.1.symm, c3.2.symm⟩
      · rw [if_pos (by
          by_cases d1 : nth m.nodes (nth p.edges k).src.toNat = b
          · exact .inr fun d2 => c3 ⟨d1, d2⟩
          · exact .inl d1)]
        simp only [reduceCtorEq, false_iff]
        rintro ⟨_, _, h1, h2⟩
        exact c3 ⟨h1.symm, h2.symm⟩
    · rw [if_pos (by simpa using c2)]
      simp only [reduceCtorEq, false_iff]
      rintro ⟨_, h1, _⟩
      exact c2 h1.symm
theorem matchErr_iff {t : Types} {p g : Graph} {m : Morph} : matchErr t p g m = 0 ↔ (m.nodes.length = p.nodes.length ∧ m.edges.length = p.edges.length) ∧ (∀ k, k < p.nodes.length → nodeErr t p g m k = none) ∧ ∀ k, k < p.edges.length → edgeErr p g m k = none := by
  refine ⟨matchErr_ok, ?_⟩
  rintro ⟨h1, h2, h3⟩
  unfold matchErr
  rw [if_pos h1, hitF_none.2 fun j _ hj => h2 j (by omega)]
  simp only
  rw [hitF_none.2 fun j _ hj => h3 j (by omega)]
theorem skipN_ok {t : Types} {p g : Graph} {inj : Bool} {most : Nat} {l : List Int} {i k : Nat} (hi : i < p.nodes.length) (hl : i ≤ l.length) (ha : 0 ≤ nth p.nodes i ∧ nth p.nodes i < t.nodes.length) (hb : 0 ≤ nth g.nodes k ∧ nth g.nodes k < t.nodes.length) :
    skipN (questOf t none p g inj most) (l.take i) k = false ↔ isF t.nodes (nth g.nodes k).toNat (nth p.nodes i) = true ∧ (inj = true → (k : Int) ∉ l.take i) := by
  have hln : (l.take i).length = i := by simp; omega
  have e := nth_rowsF t (nth p.nodes i).toNat (nth g.nodes k).toNat (by omega) (by omega)
  rw [Int.toNat_of_nonneg ha.1] at e
  unfold skipN questOf
  simp only [hln, givenI, e]
  rw [any_f (l.take i) (k : Int)]
  cases inj <;> cases isF t.nodes (nth g.nodes k).toNat (nth p.nodes i) <;> simp
theorem skipE_ok {t : Types} {p g : Graph} {inj : Bool} {most : Nat} {ns l : List Int} {i k : Nat} (hl : i ≤ l.length) :
    skipE (questOf t none p g inj most) ns (l.take i) k = false ↔ nth g.edges k = ⟨(nth p.edges i).kind, nth ns (nth p.edges i).src.toNat, nth ns (nth p.edges i).tgt.toNat⟩ ∧ (inj = true → (k : Int) ∉ l.take i) := by
  have hln : (l.take i).length = i := by simp; omega
  unfold skipE fitsQ questOf
  simp only [hln, givenI]
  rw [any_f (l.take i) (k : Int)]
  cases inj <;> simp
/-- What the tree holds are exactly the matches. -/
theorem mem_tree {t : Types} {p g : Graph} (h : svalidF t p g = 0) (m : Morph) (inj : Bool) (most : Nat) : m ∈ UN (questOf t none p g inj most) p.nodes.length [] ↔ matchErrI t p g m inj = 0 := by
  obtain ⟨hq, _, _⟩ := okq_of h none inj 1 (by omega) (fun m e => by cases e)
  have hpn := hq.pn
  have hgn := hq.gn
  simp only [questOf] at hpn hgn
  rw [mem_UN, mem_UE, matchErrI_eq]
  have key : (if matchErr t p g m = 0 then dupErr m inj else matchErr t p g m) = 0 ↔ matchErr t p g m = 0 ∧ dupErr m inj = 0 := by
    split
    · rename_i h'; simp [h']
    · rename_i h'; simp [h']
  rw [key, matchErr_iff, dupErr_ok]
  simp only [List.length_nil, Nat.zero_add, List.take_zero, true_and, Nat.zero_le, true_implies]
  have eP : (questOf t none p g inj most).p = p := rfl
  have eG : (questOf t none p g inj most).g = g := rfl
  rw [eP, eG]
  constructor
  · rintro ⟨⟨l2, hE⟩, l1, hN⟩
    refine ⟨⟨⟨l1, l2⟩, fun k hk => ?_, fun k hk => ?_⟩, fun hi => ⟨nodup_take.2 fun i hi2 => ?_, nodup_take.2 fun i hi2 => ?_⟩⟩
    · obtain ⟨x, hx, e1, e2⟩ := hN k (by omega)
      rw [skipN_ok hk (by omega) (hpn k hk) (hgn x hx)] at e2
      rw [nodeErr_ok, e1]
      exact ⟨by omega, by simpa using e2.1⟩
    · obtain ⟨x, hx, e1, e2⟩ := hE k (by omega)
      rw [skipE_ok (by omega)] at e2
      rw [edgeErr_ok, e1]
      exact ⟨by omega, by simpa using e2.1⟩
    · obtain ⟨x, hx, e1, e2⟩ := hN i hi2
      rw [skipN_ok (by omega) (by omega) (hpn i (by omega)) (hgn x hx)] at e2
      rw [e1]
      exact e2.2 hi
    · obtain ⟨x, hx, e1, e2⟩ := hE i hi2
      rw [skipE_ok (by omega)] at e2
      rw [e1]
      exact e2.2 hi
  · rintro ⟨⟨⟨l1, l2⟩, hN, hE⟩, hd⟩
    refine ⟨⟨l2, fun i hi => ?_⟩, l1, fun i hi => ?_⟩
    · obtain ⟨⟨a1, a2⟩, a3⟩ := edgeErr_ok.1 (hE i (by omega))
      refine ⟨(nth m.edges i).toNat, by omega, by omega, ?_⟩
      rw [skipE_ok (by omega), Int.toNat_of_nonneg a1]
      exact ⟨a3, fun hj => nodup_take.1 (hd hj).2 i hi⟩
    · obtain ⟨⟨a1, a2⟩, a3⟩ := nodeErr_ok.1 (hN i (by omega))
      refine ⟨(nth m.nodes i).toNat, by omega, by omega, ?_⟩
      rw [skipN_ok (by omega) (by omega) (hpn i (by omega)) (hgn _ (by omega)), Int.toNat_of_nonneg a1]
      exact ⟨a3, fun hj => nodup_take.1 (hd hj).1 i hi⟩
/-! ### The law -/
def allE (t : Types) (p g : Graph) (inj : Bool) : List Morph × Int := if svalidF t p g = 0 then allQ (questOf t none p g inj 5001) else ([], ((svalidF t p g : Nat) : Int))
theorem sAll_some {t : Types} {p g : Graph} (ht : wfTypes t) (hp : wfGraph p) (hg : wfGraph g) (inj : Bool) : s_search_All t p g inj = some (allE t p g inj) := by
  unfold s_search_All allE
  rw [valid_s ht hp hg]
  simp only [Option.bind_some]
  by_cases h : svalidF t p g = 0
  · rw [bif_f (by simp [h]), if_pos h, all_s ht h none inj (fun m e => by cases e)]
    rfl
  · rw [bif_t (by simp [h]), if_neg h]
theorem rAll_some {t : Types} {p g : Graph} (hA : fewA t) (ht : wfTypes t) (inj : Bool) (F : Nat) (hF : 1001 < F) : s_ref17_All F t p g inj = some (allE t p g inj) := by
  unfold s_ref17_All allE
  rw [given_some hA ht p g F hF]
  simp only [Option.bind_some]
  by_cases h : svalidF t p g = 0
  · obtain ⟨hq, _, _⟩ := okq_of h none inj 1 (by omega) (fun m e => by cases e)
    have h40 : p.nodes.length ≤ 40 := hq.p40
    have h80 : p.edges.length ≤ 80 := hq.p80
    obtain ⟨P, e1, l1, l2, k1, k2⟩ := open_some p h40 h80
    rw [bif_f (by simp [h]), if_pos h, e1]
    simp only [Option.bind_some]
    rw [run_some h none P inj 5001 F (by omega) (by omega) hF (fun m e => by cases e) l1 l2 k1 k2 5000 rfl]
    simp only [Option.bind_some]
    unfold allQ
    by_cases c : 5000 < (foundQ (questOf t none p g inj 5001)).length
    · rw [if_pos c, bif_t (by simpa using (show (5000 : Int) < _ by omega))]
    · rw [if_neg c, bif_f (by simpa using (show ¬ (5000 : Int) < _ by omega))]
  · rw [bif_t (by simp [h]), if_neg h]
theorem allE_mem {t : Types} {p g : Graph} {inj : Bool} (hne : (allE t p g inj).1 ≠ []) : svalidF t p g = 0 ∧ (allE t p g inj).1 = (UN (questOf t none p g inj 5001) p.nodes.length []).take 5001 := by
  unfold allE at hne ⊢
  by_cases h : svalidF t p g = 0
  · rw [if_pos h] at hne ⊢
    obtain ⟨_, hw, _⟩ := okq_of h none inj 5001 (by omega) (fun m e => by cases e)
    unfold allQ at hne ⊢
    split
    · rename_i c; rw [if_pos c] at hne; exact absurd rfl hne
    · exact ⟨h, foundQ_UN _ hw.1⟩
  · rw [if_neg h] at hne; exact absurd rfl hne
theorem asc_at {l : List Morph} (h : l.Pairwise ltM) (k : Nat) (h0 : 0 < k) (hk : k < l.length) : ltM (nth l (k - 1)) (nth l k) := by
  have := List.pairwise_iff_getElem.1 h (k - 1) k (by omega) hk (by omega)
  rwa [nth_eq l _ (by omega), nth_eq l k hk] at this
theorem lawAll {c : Gscarfjointlaw17_Case} (ht : wfTypes c.t) (hp : wfGraph c.p) (hg : wfGraph c.g) (inj : Bool) (F : Nat) (hF : 1001 < F) : s_law17_SearchAll F c inj = some true := by
  obtain ⟨b, e1, h1⟩ := light_some ht c.p c.g F hF
  unfold s_law17_SearchAll
  rw [awake_some]
  simp only [Option.bind_some, Bool.not_true, cond_false, e1]
  cases b with
  | false => rfl
  | true =>
    simp only [Bool.not_true, cond_false]
    rw [sAll_some ht hp hg inj, rAll_some (h1 rfl) ht inj F hF]
    unfold s_search_Count
    rw [sAll_some ht hp hg inj]
    simp only [Option.bind_some, decide_true, Bool.not_true, cond_false, sameAll_refl]
    rw [forN_hit (fun _ => none) _ _ fun k _ hk _ => by
      have hk' : k < (allE c.t c.p c.g inj).1.length := by omega
      obtain ⟨hv, e⟩ := allE_mem (t := c.t) (p := c.p) (g := c.g) (inj := inj) (fun h0 => by rw [h0] at hk'; simp at hk')
      have hasc : (allE c.t c.p c.g inj).1.Pairwise ltM := by rw [e]; exact (UN_asc _ _ _).sublist (List.take_sublist _ _)
      have hmem : nth (allE c.t c.p c.g inj).1 k ∈ UN (questOf c.t none c.p c.g inj 5001) c.p.nodes.length [] := by
        rw [← nth_eq _ k hk']
        have hm := List.getElem_mem hk'
        exact List.mem_of_mem_take ((congrArg (fun l => (allE c.t c.p c.g inj).1[k] ∈ l) e).mp hm)
      have hz := (mem_tree hv _ inj 5001).1 hmem
      obtain ⟨hq, _, _⟩ := okq_of hv none inj 1 (by omega) (fun m e => by cases e)
      have h40 : c.p.nodes.length ≤ 40 := hq.p40
      have h80 : c.p.edges.length ≤ 80 := hq.p80
      have hln : (nth (allE c.t c.p c.g inj).1 k).nodes.length = c.p.nodes.length ∧ (nth (allE c.t c.p c.g inj).1 k).edges.length = c.p.edges.length := by
        rw [matchErrI_eq] at hz
        split at hz
        · rename_i hm; exact (matchErr_iff.1 hm).1
        · rename_i hm; exact absurd hz hm
      unfold b1_law17_SearchAll
      rw [getN_some hk', nth_eq _ k hk']
      simp only [Option.bind_some]
      rw [sCheck_some ht hp hg _ inj (by omega) (by omega)]
      unfold checkE
      rw [if_pos hv, hz]
      simp only [Option.bind_some, decide_true, Bool.not_true, cond_false]
      by_cases c0 : 0 < k
      · rw [bif_t (by simpa using c0)]
        have hw : IntKind.i64.wrap (((k : Nat) : Int) - 1) = ((k - 1 : Nat) : Int) := by
          have : (allE c.t c.p c.g inj).1.length ≤ 5001 := by rw [e]; simp; omega
          rw [wrap64_of _ (by omega) (by omega)]
          omega
        rw [hw, getI_nat, getN_some (show k - 1 < _ by omega), nth_eq _ (k - 1) (by omega)]
        simp only [Option.bind_some, compare_some]
        rcases asc_at hasc k c0 hk' with hl | ⟨hl, hl2⟩
        · rw [cmp_lt hl]; rfl
        · rw [hl, cmp_refl, cmp_lt hl2]; rfl
      · rw [bif_f (by simpa using c0)]; rfl]
    rw [hitF_none.2 fun _ _ _ => rfl]
    rfl
end Go.Proofs.YtdacgjleiloooaaGreat
namespace Go.Proofs.YtdacgjleiloooaaGreat
open Go Go.Ew
def okB (n : Int) : Prop := 0 ≤ n ∧ n ≤ 255
def okA2 (l : List Ar2_Int) : Prop := ∀ x ∈ l, okB x.a0 ∧ okB x.a1
def okDraft (d : Gscarfjointref05_Draft) : Prop := (∀ n ∈ d.nodes, okB n) ∧ ∀ x ∈ d.edges, okB x.a0 ∧ okB x.a1 ∧ okB x.a2
/-! ### Type graphs -/
def attrOk (k : Nat) (l : List Attr) : Prop := l = [] ∨ (∃ h, 3 ≤ h ∧ h ≤ 11 ∧ l = [⟨[UInt8.ofNat (117 + k)], -3, h, []⟩]) ∨ l = [⟨[UInt8.ofNat (117 + k)], 0, 1, [[111, 102, 102], [111, 110]]⟩]
def nodeOk (k : Nat) (n : NodeT) : Prop := n.name = [UInt8.ofNat (65 + k)] ∧ -1 ≤ n.parent ∧ n.parent < k ∧ attrOk k n.attrs
def nodesOk (x : List NodeT) : Prop := ∀ k, k < x.length → nodeOk k (nth x k)
theorem nth_snoc {α : Type} [Inhabited α] (l : List α) (x : α) : nth (l ++ [x]) l.length = x := by
  simp [nth, List.getD_eq_getElem?_getD]
theorem snoc_ok {α : Type} [Inhabited α] {p : Nat → α → Prop} {l : List α} {x : α} (h : ∀ k, k < l.length → p k (nth l k)) (hx : p l.length x) : ∀ k, k < (l ++ [x]).length → p k (nth (l ++ [x]) k) := fun k hk => by
  rw [List.length_append, List.length_singleton] at hk
  by_cases e : k = l.length
  · subst e; rw [nth_snoc]; exact hx
  · rw [nth_app l x k (by omega)]; exact h k (by omega)
theorem cutA (i : Nat) (h : i < 6) : cutL ([65, 66, 67, 68, 69, 70] : List UInt8) (i : Int) ((i + 1 : Nat) : Int) = some [UInt8.ofNat (65 + i)] := by
  match i, h with
  | 0, _ => rfl
  | 1, _ => rfl
  | 2, _ => rfl
  | 3, _ => rfl
  | 4, _ => rfl
  | 5, _ => rfl
theorem cutU (i : Nat) (h : i < 6) : cutL ([117, 118, 119, 120, 121, 122] : List UInt8) (i : Int) ((i + 1 : Nat) : Int) = some [UInt8.ofNat (117 + i)] := by
  match i, h with
  | 0, _ => rfl
  | 1, _ => rfl
  | 2, _ => rfl
  | 3, _ => rfl
  | 4, _ => rfl
  | 5, _ => rfl
theorem cutE (i : Nat) (h : i < 5) : cutL ([101, 102, 103, 104, 105] : List UInt8) (i : Int) ((i + 1 : Nat) : Int) = some [UInt8.ofNat (101 + i)] := by
  match i, h with
  | 0, _ => rfl
  | 1, _ => rfl
  | 2, _ => rfl
  | 3, _ => rfl
  | 4, _ => rfl
theorem wrap_byte {n : Int} (h : okB n) : IntKind.i64.wrap n = n := wrap64_of _ (by have := h.1; omega) (by have := h.2; omega)
theorem wrap8_div {n k : Int} (h : okB n) (hk : 0 < k) : ∃ m, IntKind.u8.wrap (Int.tdiv n k) = m ∧ okB m := by
  refine ⟨_, rfl, ?_⟩
  have h1 : 0 ≤ Int.tdiv n k := Int.tdiv_nonneg h.1 (by omega)
  have h2 : Int.tdiv n k ≤ 255 := Int.le_trans (Int.tdiv_le_self _ h.1) h.2
  have : IntKind.u8.wrap (Int.tdiv n k) = Int.tdiv n k := by rw [IntKind.wrap_u8]; omega
  rw [this]
  exact ⟨h1, h2⟩
theorem tmod_rng {n k : Int} (h : 0 ≤ n) (hk : 0 < k) : 0 ≤ Int.tmod n k ∧ Int.tmod n k < k := ⟨Int.tmod_nonneg _ h, Int.tmod_lt_of_pos _ hk⟩
theorem madeNodes (l : List Ar2_Int) (hl : l.length ≤ 6) (hb : okA2 l) (F : Nat) (hF : 10 < F) : ∃ y x, whileG (b1_ref04_Made l) F (0, []) = some (.done (y, x)) ∧ nodesOk x ∧ 1 ≤ x.length ∧ x.length ≤ 6 := by
  rcases whileG_inv (body := b1_ref04_Made l) (fun s => s.1 = (s.2.length : Int) ∧ s.2.length ≤ 6 ∧ nodesOk s.2) (fun s => 6 - s.2.length) (fun s => nodesOk s.2 ∧ 1 ≤ s.2.length ∧ s.2.length ≤ 6) (fun _ => False) (fun ⟨y, x⟩ ⟨h1, h2, h3⟩ => by
    simp only at h1 h2 h3
    subst h1
    have hw : IntKind.i64.wrap ((x.length : Int) + 1) = ((x.length + 1 : Nat) : Int) := by rw [wrap64_of _ (by omega) (by omega)]; rfl
    unfold b1_ref04_Made
    simp only
    by_cases c : x.length = 0 ∨ (x.length < l.length ∧ x.length < 6)
    · left
      have hx6 : x.length < 6 := by omega
      rw [bif_t (by
        rcases c with c | c
        · rw [c]; rfl
        · simp only [Bool.or_eq_true, Bool.and_eq_true, decide_eq_true_eq]; right; omega)]
      have hpq : ∃ p q, ((bif decide ((x.length : Int) < (l.length : Int)) then ((getI l (x.length : Int)).bind fun x3 => some (Out.done (x3.a0, x3.a1))) else some (Out.done (0, 0))) : Option (Out (Int × Int) (Ct (Int × List NodeT) Types))) = some (.done (p, q)) ∧ okB p ∧ okB q := by
        by_cases cl : x.length < l.length
        · rw [bif_t (by simpa using cl), getI_nat, getN_some cl]
          have := hb _ (List.getElem_mem cl)
          exact ⟨_, _, rfl, this.1, this.2⟩
        · rw [bif_f (by simpa using cl)]
          exact ⟨0, 0, rfl, ⟨by omega, by omega⟩, ⟨by omega, by omega⟩⟩
      obtain ⟨p, q, e1, hp, hq⟩ := hpq
      rw [e1]
      simp only [Option.bind_some, Out.on]
      rw [hw, cutA _ hx6, cutU _ hx6, nzI_of (by omega), wrap_byte hp]
      simp only [Option.bind_some]
      obtain ⟨m1, e2, hm1⟩ := wrap8_div hq (k := 4) (by omega)
      obtain ⟨m2, e3, hm2⟩ := wrap8_div hp (k := 16) (by omega)
      rw [e2, e3, wrap_byte hm1]
      obtain ⟨r1, r2⟩ := tmod_rng hm1.1 (k := 9) (by omega)
      obtain ⟨r3, r4⟩ := tmod_rng hp.1 (k := ((x.length + 1 : Nat) : Int)) (by omega)
      rw [wrap64_of _ (show -9223372036854775808 ≤ 3 + Int.tmod m1 9 by omega) (by omega), wrap64_of _ (show -9223372036854775808 ≤ Int.tmod p ((x.length + 1 : Nat) : Int) - 1 by omega) (by omega)]
      have hat : ∃ x4, ((bif decide (Int.tmod q 4 = 1) then some (Out.done [(⟨[UInt8.ofNat (117 + x.length)], -3, 3 + Int.tmod m1 9, []⟩ : Attr)]) else bif decide (Int.tmod q 4 = 2) then some (Out.done [(⟨[UInt8.ofNat (117 + x.length)], 0, 1, [[111, 102, 102], [111, 110]]⟩ : Attr)]) else some (Out.done [])) : Option (Out (List Attr) (Ct (Int × List NodeT) Types))) = some (.done x4) ∧ attrOk x.length x4 := by
        by_cases d1 : Int.tmod q 4 = 1
        · rw [bif_t (by simpa using d1)]; exact ⟨_, rfl, .inr (.inl ⟨_, by omega, by omega, rfl⟩)⟩
        · rw [bif_f (by simpa using d1)]
          by_cases d2 : Int.tmod q 4 = 2
          · rw [bif_t (by simpa using d2)]; exact ⟨_, rfl, .inr (.inr rfl)⟩
          · rw [bif_f (by simpa using d2)]; exact ⟨_, rfl, .inl rfl⟩
      obtain ⟨x4, e4, ha⟩ := hat
      rw [e4]
      simp only [Option.bind_some]
      rw [catL_of (by simp; omega)]
      refine ⟨_, rfl, ⟨by simp, by simp; omega, ?_⟩, by simp; omega⟩
      exact snoc_ok (p := nodeOk) h3 ⟨rfl, by simp only; omega, by simp only; omega, ha⟩
    · right; left
      rw [bif_f (by
        simp only [Bool.or_eq_false_iff, Bool.and_eq_false_iff, decide_eq_false_iff_not]
        refine ⟨by omega, ?_⟩
        by_cases d : x.length < l.length
        · right; omega
        · left; omega)]
      exact ⟨_, rfl, h3, by simp only; omega, h2⟩) F (0, []) ⟨rfl, by simp, fun k hk => by simp at hk⟩ (by simp; omega) with ⟨⟨y, x⟩, e, h⟩ | ⟨_, _, h⟩
  · exact ⟨y, x, e, h⟩
  · exact h.elim
def edgeOk (n : Nat) (k : Nat) (e : EdgeT) : Prop := e.name = [UInt8.ofNat (101 + k)] ∧ (0 ≤ e.src ∧ e.src < n) ∧ (0 ≤ e.tgt ∧ e.tgt < n) ∧ e.outLow = 0 ∧ e.outHigh = -1 ∧ e.inLow = 0 ∧ e.inHigh = -1
theorem madeEdges (l : List Ar2_Int) (hl : l.length ≤ 5) (hb : okA2 l) (x : List NodeT) (hx : 1 ≤ x.length) (hx6 : x.length ≤ 6) (F : Nat) (hF : 10 < F) : ∃ y es, whileG (b3_ref04_Made l x) F (0, []) = some (.done (y, es)) ∧ (∀ k, k < es.length → edgeOk x.length k (nth es k)) ∧ es.length ≤ 5 := by
  rcases whileG_inv (body := b3_ref04_Made l x) (fun s => s.1 = (s.2.length : Int) ∧ s.2.length ≤ 5 ∧ ∀ k, k < s.2.length → edgeOk x.length k (nth s.2 k)) (fun s => 5 - s.2.length) (fun s => (∀ k, k < s.2.length → edgeOk x.length k (nth s.2 k)) ∧ s.2.length ≤ 5) (fun _ => False) (fun ⟨y, es⟩ ⟨h1, h2, h3⟩ => by
    simp only at h1 h2 h3
    subst h1
    have hw : IntKind.i64.wrap ((es.length : Int) + 1) = ((es.length + 1 : Nat) : Int) := by rw [wrap64_of _ (by omega) (by omega)]; rfl
    unfold b3_ref04_Made
    simp only
    by_cases c : es.length < l.length ∧ es.length < 5
    · left
      rw [bif_t (by simp only [Bool.and_eq_true, decide_eq_true_eq]; omega), hw, cutE _ c.2, getI_nat, getN_some c.1]
      simp only [Option.bind_some]
      rw [nzI_of (by omega)]
      simp only [Option.bind_some]
      have hbx := hb _ (List.getElem_mem c.1)
      rw [wrap_byte hbx.1, wrap_byte hbx.2, catL_of (by simp; omega)]
      refine ⟨_, rfl, ⟨by simp, by simp; omega, ?_⟩, by simp; omega⟩
      exact snoc_ok (p := edgeOk x.length) h3 ⟨rfl, tmod_rng hbx.1.1 (by omega), tmod_rng hbx.2.1 (by omega), rfl, rfl, rfl, rfl⟩
    · right; left
      rw [bif_f (by
        simp only [Bool.and_eq_false_iff, decide_eq_false_iff_not]
        by_cases d : es.length < l.length
        · right; omega
        · left; omega)]
      exact ⟨_, rfl, h3, h2⟩) F (0, []) ⟨rfl, by simp, fun k hk => by simp at hk⟩ (by simp; omega) with ⟨⟨y, x⟩, e, h⟩ | ⟨_, _, h⟩
  · exact ⟨y, x, e, h⟩
  · exact h.elim
theorem u8_inj {a b c : Nat} (ha : c + a < 256) (hb : c + b < 256) (h : UInt8.ofNat (c + a) = UInt8.ofNat (c + b)) : a = b := by
  have := congrArg UInt8.toNat h
  simp only [UInt8.toNat_ofNat'] at this
  omega
theorem nameA (i : Nat) (h : i < 6) : isNameF [UInt8.ofNat (65 + i)] = true := by
  match i, h with
  | 0, _ => decide +kernel
  | 1, _ => decide +kernel
  | 2, _ => decide +kernel
  | 3, _ => decide +kernel
  | 4, _ => decide +kernel
  | 5, _ => decide +kernel
theorem nameU (i : Nat) (h : i < 6) : isNameF [UInt8.ofNat (117 + i)] = true := by
  match i, h with
  | 0, _ => decide +kernel
  | 1, _ => decide +kernel
  | 2, _ => decide +kernel
  | 3, _ => decide +kernel
  | 4, _ => decide +kernel
  | 5, _ => decide +kernel
theorem nameE' (i : Nat) (h : i < 5) : isNameF [UInt8.ofNat (101 + i)] = true := by
  match i, h with
  | 0, _ => decide +kernel
  | 1, _ => decide +kernel
  | 2, _ => decide +kernel
  | 3, _ => decide +kernel
  | 4, _ => decide +kernel
theorem made_okUpto {x : List NodeT} (h : nodesOk x) (a : Nat) (ha : a < x.length) : okUpto x a := fun j hj => by
  obtain ⟨_, h1, h2, h3⟩ := h j (by omega)
  refine ⟨h1, h2, ?_⟩
  rcases h3 with e | ⟨_, _, _, e⟩ | e <;> rw [e] <;> simp
theorem made_attrs {x : List NodeT} (h : nodesOk x) : ∀ (a : Nat), a < x.length → (attrsF x a).length ≤ a + 1 ∧ ∀ y ∈ attrsF x a, ∃ j, j ≤ a ∧ y.name = [UInt8.ofNat (117 + j)] := by
  intro a
  induction a using Nat.strongRecOn with
  | _ a ih =>
    intro ha
    obtain ⟨_, h1, h2, h3⟩ := h a ha
    have hown : (nth x a).attrs.length ≤ 1 ∧ ∀ y ∈ (nth x a).attrs, y.name = [UInt8.ofNat (117 + a)] := by
      rcases h3 with e | ⟨_, _, _, e⟩ | e <;> rw [e] <;> simp
    by_cases hp : (nth x a).parent < 0
    · rw [attrsF_neg hp]
      exact ⟨by omega, fun y hy => ⟨a, Nat.le_refl _, hown.2 y hy⟩⟩
    · obtain ⟨p, hpp⟩ : ∃ p : Nat, (nth x a).parent = p := ⟨(nth x a).parent.toNat, by omega⟩
      rw [attrsF_pos (made_okUpto h a ha) hpp]
      obtain ⟨i1, i2⟩ := ih p (by omega) (by omega)
      refine ⟨by rw [List.length_append]; omega, fun y hy => ?_⟩
      rcases List.mem_append.1 hy with hy | hy
      · obtain ⟨j, hj, e⟩ := i2 y hy
        exact ⟨j, by omega, e⟩
      · exact ⟨a, Nat.le_refl _, hown.2 y hy⟩
theorem made_node {x : List NodeT} (h : nodesOk x) (h6 : x.length ≤ 6) (i : Nat) (hi : i < x.length) : nodeF x i = 0 := by
  obtain ⟨hn, h1, h2, h3⟩ := h i hi
  have hown : (nth x i).attrs.length ≤ 1 := by rcases h3 with e | ⟨_, _, _, e⟩ | e <;> rw [e] <;> simp
  unfold nodeF
  rw [hn, if_neg (by rw [nameA i (by omega)]; simp), if_neg, if_neg (by omega), if_neg (by omega), if_neg (by have := (made_attrs h i hi).1; omega)]
  · -- the own attribute
    have hsplit : ∃ pre, attrsF x i = pre ++ (nth x i).attrs ∧ ∀ y ∈ pre, ∃ j, j < i ∧ y.name = [UInt8.ofNat (117 + j)] := by
      by_cases hp : (nth x i).parent < 0
      · exact ⟨[], by rw [attrsF_neg hp]; rfl, fun y hy => by cases hy⟩
      · obtain ⟨p, hpp⟩ : ∃ p : Nat, (nth x i).parent = p := ⟨(nth x i).parent.toNat, by omega⟩
        refine ⟨attrsF x p, attrsF_pos (made_okUpto h i hi) hpp, fun y hy => ?_⟩
        obtain ⟨j, hj, e⟩ := (made_attrs h p (by omega)).2 y hy
        exact ⟨j, by omega, e⟩
    obtain ⟨pre, hpre, hno⟩ := hsplit
    have htake : (attrsF x i).take ((attrsF x i).length - (nth x i).attrs.length) = pre := by
      rw [hpre, List.length_append, Nat.add_sub_cancel, List.take_left]
    rw [htake]
    have hnn : hasName pre [UInt8.ofNat (117 + i)] = false := by
      unfold hasName
      rw [List.any_eq_false]
      intro y hy e
      obtain ⟨j, hj, e2⟩ := hno y hy
      rw [e2] at e
      have e3 : UInt8.ofNat (117 + j) = UInt8.ofNat (117 + i) := by simpa using e
      have := u8_inj (by omega) (by omega) e3
      omega
    have hat : ∀ a : Attr, a.name = [UInt8.ofNat (117 + i)] → namesF a.names = 0 → rangeOk a = true → attrsErr pre [a] = 0 := fun a e1 e2 e3 => by
      simp only [attrsErr, attributeF, e1, nameU i (by omega), hnn, e2, e3, Bool.not_true, Bool.false_eq_true, if_false, if_true, ne_eq, not_true]
    rcases h3 with e | ⟨hh, b1, b2, e⟩ | e
    · rw [e]; rfl
    · rw [e]
      refine hat _ rfl rfl ?_
      simp only [rangeOk, List.length_nil, Nat.lt_irrefl, if_false]
      simp
      omega
    · rw [e]
      exact hat _ rfl (show namesF [[111, 102, 102], [111, 110]] = 0 by decide +kernel) (by simp [rangeOk])
  · intro hany
    obtain ⟨y, hy, he⟩ := List.any_eq_true.1 hany
    obtain ⟨j, hj⟩ := List.mem_iff_getElem?.1 hy
    rw [List.getElem?_take] at hj
    split at hj
    · rename_i hjk
      rw [List.getElem?_eq_getElem (by omega), nth_eq x j (by omega)] at hj
      have hnj := (h j (by omega)).1
      rw [Option.some.inj hj] at hnj
      rw [hnj] at he
      have e3 : UInt8.ofNat (65 + j) = UInt8.ofNat (65 + i) := by simpa using he
      have := u8_inj (by omega) (by omega) e3
      omega
    · cases hj
theorem made_edge {t : Types} (h5 : t.edges.length ≤ 5) (h : ∀ k, k < t.edges.length → edgeOk t.nodes.length k (nth t.edges k)) (i : Nat) (hi : i < t.edges.length) : edgeF t i = 0 := by
  obtain ⟨hn, h1, h2, h3, h4, h5', h6⟩ := h i hi
  unfold edgeF
  simp only
  rw [hn, if_neg (by rw [nameE' i (by omega)]; simp), if_neg, if_neg]
  · simp [h1.1, h1.2, h2.1, h2.2, boundF, h3, h4, h5', h6]
  · intro hany
    obtain ⟨y, hy, he⟩ := List.any_eq_true.1 hany
    obtain ⟨j, hj⟩ := List.mem_iff_getElem?.1 hy
    rw [List.getElem?_take] at hj
    split at hj
    · rename_i hjk
      rw [List.getElem?_eq_getElem (by omega), nth_eq t.edges j (by omega)] at hj
      have hnj := (h j (by omega)).1
      rw [Option.some.inj hj] at hnj
      rw [hnj] at he
      have e3 : UInt8.ofNat (101 + j) = UInt8.ofNat (101 + i) := by simpa using he
      have := u8_inj (by omega) (by omega) e3
      omega
    · cases hj
/-- A type graph as a draft describes it. -/
structure MadeT (t : Types) : Prop where
  valid : (validF t).2 = 0
  wf : wfTypes t
  n6 : t.nodes.length ≤ 6
  n1 : 1 ≤ t.nodes.length
  e5 : t.edges.length ≤ 5
  ends : ∀ k, k < t.edges.length → edgeOk t.nodes.length k (nth t.edges k)
theorem mem_nth {α : Type} [Inhabited α] {l : List α} {x : α} (h : x ∈ l) : ∃ k, k < l.length ∧ nth l k = x := by
  obtain ⟨k, hk⟩ := List.mem_iff_getElem?.1 h
  have hl := (List.getElem?_eq_some_iff.1 hk).1
  rw [List.getElem?_eq_getElem hl, nth_eq l k hl] at hk
  exact ⟨k, hl, Option.some.inj hk⟩
theorem madeT_some (a b : List Ar2_Int) (ha : a.length ≤ 6) (hb : b.length ≤ 5) (oa : okA2 a) (ob : okA2 b) (F : Nat) (hF : 10 < F) : ∃ t, s_ref04_Made F a b = some t ∧ MadeT t := by
  obtain ⟨y, x, e1, h1, h2, h3⟩ := madeNodes a ha oa F hF
  obtain ⟨z, es, e2, k1, k2⟩ := madeEdges b hb ob x h2 h3 F hF
  unfold s_ref04_Made
  rw [e1]
  simp only [Option.bind_some, Out.on]
  rw [e2]
  refine ⟨⟨x, es⟩, rfl, ⟨?_, ?_, h3, h2, k2, k1⟩⟩
  · unfold validF
    simp only
    rw [if_neg (by omega), if_neg (by omega), firstErr_none (nodeF x) x.length 0 fun j _ hj => made_node h1 h3 j (by omega)]
    simp only
    rw [firstErr_none (edgeF ⟨x, es⟩) es.length 0 fun j _ hj => made_edge (t := ⟨x, es⟩) k2 k1 j (by simpa using hj)]
  · refine ⟨by simp only; omega, by simp only; omega, fun n hn => ?_, fun e he => ?_⟩
    · obtain ⟨k, hk, rfl⟩ := mem_nth hn
      obtain ⟨m1, _, _, m4⟩ := h1 k hk
      refine ⟨by rw [m1]; simp [wfS], ?_, ?_⟩
      · rcases m4 with e | ⟨_, _, _, e⟩ | e <;> rw [e] <;> simp
      · intro a ha
        rcases m4 with e | ⟨_, _, _, e⟩ | e <;> rw [e] at ha
        · cases ha
        · rw [List.mem_singleton.1 ha]; exact ⟨by simp [wfS], by simp, fun s hs => by cases hs⟩
        · rw [List.mem_singleton.1 ha]
          refine ⟨by simp [wfS], by simp, fun s hs => ?_⟩
          simp only [List.mem_cons, List.not_mem_nil, or_false] at hs
          rcases hs with rfl | rfl <;> simp [wfS]
    · obtain ⟨k, hk, rfl⟩ := mem_nth he
      rw [(k1 k hk).1]; simp [wfS]
end Go.Proofs.YtdacgjleiloooaaGreat
namespace Go.Proofs.YtdacgjleiloooaaGreat
open Go Go.Ew
/-! ### Graphs of drafts -/
theorem among_some {t : Types} (hok : okAll t.nodes) (g : Graph) (hg : ∀ n ∈ g.nodes, 0 ≤ n ∧ n < t.nodes.length) (h8 : g.nodes.length ≤ 40) (h12 : t.nodes.length ≤ 12) (kind : Int) (hk : 0 ≤ kind) (F : Nat) (hF : 100 < F) :
    ∃ l, s_ref17_among F t g kind = some l ∧ (∀ n ∈ l, 0 ≤ n ∧ n < g.nodes.length) := by
  unfold s_ref17_among
  rcases forN_inv (body := b1_ref17_among F t g kind) (fun j l => l.length ≤ j ∧ ∀ n ∈ l, 0 ≤ n ∧ n < g.nodes.length) (fun _ => False) (fun _ => False) g.nodes.length 0 [] ⟨Nat.le_refl _, fun n hn => by cases hn⟩ (fun j l h1 h2 ⟨h3, h4⟩ => by
    have hj : j < g.nodes.length := by omega
    obtain ⟨a1, a2⟩ := hg _ (nth_mem g.nodes j hj)
    have hB := below1_some hok kind hk (nth g.nodes j).toNat F (by omega) (by omega)
    rw [Int.toNat_of_nonneg a1] at hB
    unfold b1_ref17_among
    rw [getN_some hj, nth_eq g.nodes j hj]
    simp only [Option.bind_some]
    rw [hB]
    simp only [Option.bind_some]
    cases isF t.nodes (nth g.nodes j).toNat kind
    · exact .inl ⟨l, rfl, by omega, h4⟩
    · rw [bif_t rfl, catL_of (by simp; omega)]
      refine .inl ⟨_, rfl, by simp; omega, fun n hn => ?_⟩
      rcases List.mem_append.1 hn with hn | hn
      · exact h4 n hn
      · rw [List.mem_singleton.1 hn]; omega) with ⟨l, e, h | h⟩ | ⟨_, _, h⟩
  · rw [e]; exact ⟨l, rfl, h.2⟩
  · exact h.elim
  · exact h.elim
/-- A graph as a draft describes it over a type graph. -/
structure MadeG (t : Types) (g : Graph) (a b : Nat) : Prop where
  nodes : ∀ n ∈ g.nodes, 0 ≤ n ∧ n < t.nodes.length
  edges : ∀ e ∈ g.edges, (0 ≤ e.kind ∧ e.kind < t.edges.length) ∧ (0 ≤ e.src ∧ e.src < g.nodes.length) ∧ (0 ≤ e.tgt ∧ e.tgt < g.nodes.length)
  na : g.nodes.length ≤ a
  eb : g.edges.length ≤ b
theorem madeG_some {t : Types} (ht : MadeT t) (d : Gscarfjointref05_Draft) (hd : okDraft d) (A : Bool) (F : Nat) (hF : 100 < F) : ∃ g, s_ref17_Made F t d A = some g ∧ MadeG t g (min d.nodes.length 8) (min d.edges.length 10) := by
  obtain ⟨k1, _, _, _⟩ := valid_okAll ht.valid
  have hn6 := ht.n6
  unfold s_ref17_Made
  rcases forN_inv (body := b1_ref17_Made t A) (fun j l => l.length ≤ j ∧ ∀ n ∈ l, 0 ≤ n ∧ n < t.nodes.length) (fun _ => False) (fun _ => False) t.nodes.length 0 [] ⟨Nat.le_refl _, fun n hn => by cases hn⟩ (fun j l h1 h2 ⟨h3, h4⟩ => by
    have hj : j < t.nodes.length := by omega
    have hb : ∃ c, ((bif A then some true else (getN t.nodes j).bind fun x => some (!x.abst)) : Option Bool) = some c := by
      cases A
      · rw [bif_f rfl, getN_some hj]; exact ⟨_, rfl⟩
      · exact ⟨true, rfl⟩
    obtain ⟨c, e⟩ := hb
    unfold b1_ref17_Made
    rw [e]
    simp only [Option.bind_some]
    cases c
    · exact .inl ⟨l, rfl, by omega, h4⟩
    · rw [bif_t rfl, catL_of (by simp; omega)]
      refine .inl ⟨_, rfl, by simp; omega, fun n hn => ?_⟩
      rcases List.mem_append.1 hn with hn | hn
      · exact h4 n hn
      · rw [List.mem_singleton.1 hn]; omega) with ⟨ks, e1, h | h⟩ | ⟨_, _, h⟩
  rotate_left
  · exact h.elim
  · exact h.elim
  obtain ⟨hkl, hks⟩ := h
  rw [e1]
  simp only [Option.bind_some, Out.on]
  -- the nodes
  rcases whileG_inv (body := b3_ref17_Made d ks) (fun s => s.1 = (s.2.length : Int) ∧ s.2.length ≤ 8 ∧ s.2.length ≤ d.nodes.length ∧ ∀ n ∈ s.2, 0 ≤ n ∧ n < t.nodes.length) (fun s => 8 - s.2.length)
    (fun s => s.2.length ≤ min d.nodes.length 8 ∧ ∀ n ∈ s.2, 0 ≤ n ∧ n < t.nodes.length) (fun _ => False) (fun ⟨y, x⟩ ⟨h1, h2, h2', h3⟩ => by
    simp only at h1 h2 h2' h3
    subst h1
    have hw : IntKind.i64.wrap ((x.length : Int) + 1) = ((x.length + 1 : Nat) : Int) := by rw [wrap64_of _ (by omega) (by omega)]; rfl
    unfold b3_ref17_Made
    simp only
    by_cases c : x.length < d.nodes.length ∧ x.length < 8 ∧ 0 < ks.length
    · left
      obtain ⟨c1, c2, c3⟩ := c
      rw [bif_t (by simp only [Bool.and_eq_true, decide_eq_true_eq]; omega), getI_nat, getN_some c1, hw]
      simp only [Option.bind_some]
      rw [nzI_of (by omega)]
      simp only [Option.bind_some]
      have hb := hd.1 _ (List.getElem_mem c1)
      rw [wrap_byte hb]
      obtain ⟨r1, r2⟩ := tmod_rng hb.1 (k := (ks.length : Int)) (by omega)
      rw [getI_of r1, getN_some (by omega)]
      simp only [Option.bind_some]
      rw [catL_of (by simp; omega)]
      refine ⟨_, rfl, ⟨by simp, by simp; omega, by simp; omega, fun n hn => ?_⟩, by simp; omega⟩
      rcases List.mem_append.1 hn with hn | hn
      · exact h3 n hn
      · rw [List.mem_singleton.1 hn]; exact hks _ (List.getElem_mem _)
    · right; left
      rw [bif_f (by
        simp only [Bool.and_eq_false_iff, decide_eq_false_iff_not]
        by_cases d1 : x.length < d.nodes.length
        · by_cases d2 : x.length < 8
          · right; right; omega
          · right; left; omega
        · left; omega)]
      exact ⟨_, rfl, by simp only; omega, h3⟩) F (0, []) ⟨rfl, by simp, by simp, fun n hn => by cases hn⟩ (by simp; omega) with ⟨⟨y, x⟩, e2, h⟩ | ⟨_, _, h⟩
  rotate_left
  · exact h.elim
  obtain ⟨hxl, hxn⟩ := h
  simp only at hxl hxn
  rw [e2]
  simp only [Option.bind_some, Out.on]
  -- the edges
  rcases whileG_inv (body := b5_ref17_Made F t d x) (fun s => (∃ i : Nat, s.1 = (i : Int) ∧ i ≤ 10 ∧ i ≤ d.edges.length ∧ s.2.length ≤ i) ∧ ∀ e ∈ s.2, (0 ≤ e.kind ∧ e.kind < t.edges.length) ∧ (0 ≤ e.src ∧ e.src < x.length) ∧ (0 ≤ e.tgt ∧ e.tgt < x.length)) (fun s => 10 - s.1.toNat)
    (fun s => s.2.length ≤ min d.edges.length 10 ∧ ∀ e ∈ s.2, (0 ≤ e.kind ∧ e.kind < t.edges.length) ∧ (0 ≤ e.src ∧ e.src < x.length) ∧ (0 ≤ e.tgt ∧ e.tgt < x.length)) (fun _ => False) (fun ⟨y, es⟩ ⟨⟨i, h1, h2, h2', h2''⟩, h3⟩ => by
    simp only at h1 h2 h2' h2'' h3
    subst h1
    have hw : IntKind.i64.wrap ((i : Int) + 1) = ((i + 1 : Nat) : Int) := by rw [wrap64_of _ (by omega) (by omega)]; rfl
    unfold b5_ref17_Made
    simp only
    by_cases c : i < d.edges.length ∧ i < 10 ∧ 0 < t.edges.length
    · left
      obtain ⟨c1, c2, c3⟩ := c
      rw [bif_t (by simp only [Bool.and_eq_true, decide_eq_true_eq]; omega), getI_nat, getN_some c1, hw]
      simp only [Option.bind_some]
      rw [nzI_of (by omega)]
      simp only [Option.bind_some]
      have hb := hd.2 _ (List.getElem_mem c1)
      rw [wrap_byte hb.1, wrap_byte hb.2.1, wrap_byte hb.2.2]
      obtain ⟨r1, r2⟩ := tmod_rng hb.1.1 (k := (t.edges.length : Int)) (by omega)
      rw [getI_of r1, getN_some (by omega), nth_eq t.edges _ (by omega)]
      simp only [Option.bind_some]
      obtain ⟨_, s1, s2, _⟩ := ht.ends (Int.tmod d.edges[i].a0 (t.edges.length : Int)).toNat (by omega)
      obtain ⟨l1, m1, m2⟩ := among_some k1 ⟨x, es⟩ hxn (by simp only; omega) (by omega) _ s1.1 F hF
      obtain ⟨l2, m3, m4⟩ := among_some k1 ⟨x, es⟩ hxn (by simp only; omega) (by omega) _ s2.1 F hF
      rw [m1]
      simp only [Option.bind_some]
      rw [m3]
      simp only [Option.bind_some]
      by_cases cc : 0 < l1.length ∧ 0 < l2.length
      · rw [bif_t (by simp only [Bool.and_eq_true, decide_eq_true_eq]; omega), nzI_of (by omega)]
        simp only [Option.bind_some]
        obtain ⟨q1, q2⟩ := tmod_rng hb.2.1.1 (k := (l1.length : Int)) (by omega)
        obtain ⟨q3, q4⟩ := tmod_rng hb.2.2.1 (k := (l2.length : Int)) (by omega)
        rw [getI_of q1, getN_some (by omega)]
        simp only [Option.bind_some]
        rw [nzI_of (by omega)]
        simp only [Option.bind_some]
        rw [getI_of q3, getN_some (by omega)]
        simp only [Option.bind_some]
        rw [catL_of (by simp; omega)]
        refine ⟨_, rfl, ⟨⟨i + 1, rfl, by omega, by omega, by simp; omega⟩, fun e he => ?_⟩, by simp only; omega⟩
        rcases List.mem_append.1 he with he | he
        · exact h3 e he
        · rw [List.mem_singleton.1 he]
          exact ⟨⟨r1, r2⟩, m2 _ (List.getElem_mem _), m4 _ (List.getElem_mem _)⟩
      · rw [bif_f (by
          simp only [Bool.and_eq_false_iff, decide_eq_false_iff_not]
          by_cases d1 : 0 < l1.length
          · right; omega
          · left; omega)]
        exact ⟨_, rfl, ⟨⟨i + 1, rfl, by omega, by omega, by simp only; omega⟩, h3⟩, by simp only; omega⟩
    · right; left
      rw [bif_f (by
        simp only [Bool.and_eq_false_iff, decide_eq_false_iff_not]
        by_cases d1 : i < d.edges.length
        · by_cases d2 : i < 10
          · right; right; omega
          · right; left; omega
        · left; omega)]
      exact ⟨_, rfl, by simp only; omega, h3⟩) F (0, []) ⟨⟨0, rfl, by omega, by omega, by simp⟩, fun n hn => by cases hn⟩ (by simp; omega) with ⟨⟨y, es⟩, e3, h⟩ | ⟨_, _, h⟩
  rotate_left
  · exact h.elim
  rw [e3]
  exact ⟨⟨x, es⟩, rfl, hxn, h.2, hxl, h.1⟩
theorem madeG_valid {t : Types} {g : Graph} {a b : Nat} (ht : MadeT t) (hg : MadeG t g a b) (ha : a ≤ 40) (hb : b ≤ 80) : gvalidF g = 0 ∧ withinF t g = true := by
  have h6 := ht.n6
  have h5 := ht.e5
  have na := hg.na
  have eb := hg.eb
  refine ⟨?_, ?_⟩
  · unfold gvalidF
    rw [if_neg (by omega), if_neg, if_neg]
    · intro h
      obtain ⟨e, he, hf⟩ := List.any_eq_true.1 h
      obtain ⟨q1, q2, q3⟩ := hg.edges e he
      simp [fitsF, kindF] at hf
      omega
    · intro h
      obtain ⟨n, hn, hf⟩ := List.any_eq_true.1 h
      have := hg.nodes n hn
      simp [kindF] at hf
      omega
  · unfold withinF
    simp only [Bool.and_eq_true, Bool.not_eq_true', List.any_eq_false, decide_eq_true_eq]
    exact ⟨fun n hn => by have := hg.nodes n hn; omega, fun e he => by have := (hg.edges e he).1; omega⟩
theorem made_svalid {t : Types} {p g : Graph} {a b c d : Nat} (ht : MadeT t) (hp : MadeG t p a b) (hg : MadeG t g c d) (ha : a ≤ 40) (hb : b ≤ 80) (hc : c ≤ 40) (hd : d ≤ 80) : svalidF t p g = 0 := by
  obtain ⟨p1, p2⟩ := madeG_valid ht hp ha hb
  obtain ⟨g1, g2⟩ := madeG_valid ht hg hc hd
  unfold svalidF
  rw [ht.valid, p1, g1, p2, g2]
  rfl
end Go.Proofs.YtdacgjleiloooaaGreat
namespace Go.Proofs.YtdacgjleiloooaaGreat
open Go Go.Ew
theorem sameInts2_some (a b : List Int) : s_ref02_SameInts a b = some (decide (a = b)) := by
  unfold s_ref02_SameInts
  by_cases hl : a.length = b.length
  · rw [bif_f (by simp [hl]), forN_hit (fun k => if nth a k = nth b k then none else some false) _ _ fun k _ hk _ => by
      unfold b1_ref02_SameInts
      rw [getN_some (show k < a.length by omega), getN_some (show k < b.length by omega), nth_eq a k (by omega), nth_eq b k (by omega)]
      simp only [Option.bind_some]
      by_cases c : nth a k = nth b k
      · rw [bif_f (by simp [c]), if_pos c]; rfl
      · rw [bif_t (by simp [c]), if_neg c]; rfl]
    cases hh : hitF (fun k => if nth a k = nth b k then none else some false) a.length 0 with
    | none =>
      have e : a = b := List.ext_getElem hl fun k h1 h2 => by
        have := hitF_none.1 hh k (by omega) (by omega)
        split at this
        · rename_i e; rw [nth_eq a k h1, nth_eq b k h2, e]
        · cases this
      simp [outO, Out.on, e]
    | some r =>
      obtain ⟨k, _, hk, h1, _⟩ := hitF_some hh
      split at h1
      · cases h1
      · rename_i hne
        cases h1
        have e : ¬ a = b := fun e => hne (by rw [e])
        simp [outO, Out.on, e]
  · rw [bif_t (by simp [hl])]
    have e : ¬ a = b := fun e => hl (by rw [e])
    simp [e]
theorem sameMorph_some (a b : Morph) : s_ref06_Same a b = some (decide (a = b)) := by
  unfold s_ref06_Same
  rw [sameInts2_some, sameInts2_some]
  obtain ⟨a1, a2⟩ := a
  obtain ⟨b1, b2⟩ := b
  simp only [Option.bind_some, Morph.mk.injEq]
  by_cases h1 : a1 = b1 <;> by_cases h2 : a2 = b2 <;> simp [h1, h2]
theorem containsFunc_morph (l : List Morph) (p : Morph → Bool) : s_slices_ContainsFunc_Morphism l (fun a => some (p a)) = some (l.any p) := by
  unfold s_slices_ContainsFunc_Morphism s_slices_IndexFunc_Morphism
  have hh : forN (b1_slices_IndexFunc_Morphism l fun a => some (p a)) l.length 0 () = some (outO (hitF (fun k => if p (nth l k) = true then some ((k : Nat) : Int) else none) l.length 0)) := forN_hit _ _ _ fun j _ hj _ => by
    unfold b1_slices_IndexFunc_Morphism
    rw [getN_some (by omega), nth_eq l j (by omega)]
    simp only [Option.bind_some]
    cases hp : p (nth l j) <;> simp [ctO]
  rw [hh]
  cases hq : hitF (fun k => if p (nth l k) = true then some ((k : Nat) : Int) else none) l.length 0 with
  | some r =>
    obtain ⟨j, _, hj, hr, _⟩ := hitF_some hq
    split at hr
    · rename_i hp
      cases hr
      rw [show l.any p = true from List.any_eq_true.2 ⟨nth l j, nth_mem l j (by omega), hp⟩]
      simp [outO, Out.on]
    · cases hr
  | none =>
    rw [show l.any p = false from List.any_eq_false.2 fun x hx hpx => by
      obtain ⟨k, hk⟩ := List.mem_iff_getElem?.1 hx
      have hkl := (List.getElem?_eq_some_iff.1 hk).1
      rw [List.getElem?_eq_getElem hkl, nth_eq l k hkl] at hk
      have := hitF_none.1 hq k (by omega) (by omega)
      rw [Option.some.inj hk, if_pos hpx] at this
      cases this]
    rfl
theorem brute_loop (o : List Int) (rx : Types × Graph × Graph × Bool) (hn : rx.2.2.1.nodes.length ≠ 0) (ho : o.length ≤ 10) (n m : Nat) (hnn : n ≤ 1000) (hmm : m ≤ 1000) :
    ∃ x x1, forN (b1_law17_SearchBrute o rx) o.length 0 (List.replicate n 0, List.replicate m 0) = some (.done (x, x1)) ∧ x.length = n ∧ x1.length = m := by
  rcases forN_inv (body := b1_law17_SearchBrute o rx) (fun _ s => s.1.length = n ∧ s.2.length = m) (fun _ => False) (fun _ => False) o.length 0 (List.replicate n 0, List.replicate m 0) ⟨by simp, by simp⟩ (fun k s _ hk hs => by
    obtain ⟨x, x1⟩ := s
    obtain ⟨hx, hx1⟩ := hs
    simp only at hx hx1
    left
    unfold b1_law17_SearchBrute
    have hw : IntKind.i64.wrap (((k : Nat) : Int) - ((x.length : Nat) : Int)) = (k : Int) - n := by rw [wrap64_of _ (by omega) (by omega), hx]
    simp only [hw]
    by_cases c : k < n
    · rw [bif_t (by simp; omega), getN_some (show k < o.length by omega), nzI_of (by omega), getN_some (show k < x.length by omega)]
      exact ⟨_, rfl, by simp [hx], hx1⟩
    · rw [bif_f (by simp; omega)]
      by_cases c2 : (k : Int) - n < m ∧ 0 < rx.2.2.1.edges.length
      · rw [bif_t (by simp only [Bool.and_eq_true, decide_eq_true_eq]; omega), getN_some (show k < o.length by omega), nzI_of (by omega)]
        simp only [Option.bind_some]
        rw [getI_of (by omega), getN_some (show ((k : Int) - n).toNat < x1.length by omega)]
        exact ⟨_, rfl, hx, by simp [hx1]⟩
      · rw [bif_f (by
          by_cases d : (k : Int) - n < m
          · have : ¬ 0 < rx.2.2.1.edges.length := fun h => c2 ⟨d, h⟩
            simp only [Bool.and_eq_false_iff, decide_eq_false_iff_not]; right; omega
          · simp only [Bool.and_eq_false_iff, decide_eq_false_iff_not]; left; omega)]
        exact ⟨_, rfl, hx, hx1⟩) with ⟨s', e, h | h⟩ | ⟨r, _, h⟩
  · exact ⟨s'.1, s'.2, e, h.1, h.2⟩
  · exact h.elim
  · exact h.elim
theorem lawBrute {d : Gscarfjointlaw17_Drafts} {o : List Int} (h1 : okA2 d.nodes) (h2 : okA2 d.edges) (h3 : okDraft d.p) (h4 : okDraft d.g) (inj : Bool) (F : Nat) (hF : 100 < F) : s_law17_SearchBrute F d o inj = some true := by
  unfold s_law17_SearchBrute s_law17_Drafts_parts
  by_cases c : 6 < d.nodes.length ∨ 5 < d.edges.length ∨ 3 < d.p.nodes.length ∨ 3 < d.p.edges.length ∨ 8 < d.g.nodes.length ∨ 10 < d.g.edges.length
  · rw [bif_t (by simp only [Bool.or_eq_true, decide_eq_true_eq]; omega)]
    simp only [Option.bind_some]
    rw [awake_some]
    rfl
  rw [bif_f (by simp only [Bool.or_eq_false_iff, decide_eq_false_iff_not]; omega)]
  obtain ⟨t, e1, ht⟩ := madeT_some d.nodes d.edges (by omega) (by omega) h1 h2 F (by omega)
  obtain ⟨p, e2, hp⟩ := madeG_some ht d.p h3 true F hF
  obtain ⟨g, e3, hg⟩ := madeG_some ht d.g h4 false F hF
  rw [e1]
  simp only [Option.bind_some]
  rw [e2]
  simp only [Option.bind_some]
  rw [e3]
  simp only [Option.bind_some]
  rw [awake_some]
  simp only [Option.bind_some]
  by_cases c2 : g.nodes.length = 0 ∨ 10 < o.length
  · rw [bif_t (by simp only [Bool.or_eq_true, decide_eq_true_eq]; right; right; omega)]
  rw [bif_f (by simp only [Bool.or_eq_false_iff, decide_eq_false_iff_not, Bool.not_true, Bool.not_false]; exact ⟨trivial, trivial, by omega, by omega⟩)]
  have pn := hp.na
  have pe := hp.eb
  have gn := hg.na
  have ge := hg.eb
  have hv := made_svalid ht hp hg (by omega) (by omega) (by omega) (by omega)
  rw [mkL_of (by omega) (by omega), mkL_of (by omega) (by omega), Int.toNat_natCast, Int.toNat_natCast]
  simp only [Option.bind_some]
  obtain ⟨x, x1, e4, l1, l2⟩ := brute_loop o (t, p, g, true) (show g.nodes.length ≠ 0 by omega) (by omega) p.nodes.length p.edges.length (by omega) (by omega)
  rw [e4]
  simp only [Option.bind_some, Out.on]
  have hwt := ht.wf
  have hwp : wfGraph p := ⟨by omega, by omega⟩
  have hwg : wfGraph g := ⟨by omega, by omega⟩
  rw [sAll_some hwt hwp hwg inj]
  simp only [Option.bind_some]
  have hf : (fun a0 => s_law17_SearchBrute_c1 a0 ⟨x, x1⟩) = fun a0 => some (decide (a0 = (⟨x, x1⟩ : Morph))) := funext fun a0 => by
    unfold s_law17_SearchBrute_c1
    rw [sameMorph_some]
    rfl
  rw [hf, containsFunc_morph, sCheck_some hwt hwp hwg _ inj (by simp only; omega) (by simp only; omega)]
  unfold checkE allE
  rw [if_pos hv, if_pos hv]
  unfold allQ
  by_cases c3 : 5000 < (foundQ (questOf t none p g inj 5001)).length
  · rw [if_pos c3]; rfl
  · rw [if_neg c3]
    obtain ⟨_, hw, _⟩ := okq_of hv none inj 5001 (by omega) (fun m e => by cases e)
    have hfu : foundQ (questOf t none p g inj 5001) = UN (questOf t none p g inj 5001) p.nodes.length [] := by
      have e := foundQ_UN _ hw.1
      rw [e] at c3 ⊢
      refine List.take_of_length_le ?_
      rw [List.length_take] at c3
      have : (questOf t none p g inj 5001).most = 5001 := rfl
      have : (questOf t none p g inj 5001).p.nodes.length = p.nodes.length := rfl
      omega
    have key : ((foundQ (questOf t none p g inj 5001)).any fun a0 => decide (a0 = (⟨x, x1⟩ : Morph))) = decide (matchErrI t p g ⟨x, x1⟩ inj = 0) := by
      rw [hfu]
      by_cases hm : matchErrI t p g ⟨x, x1⟩ inj = 0
      · rw [decide_eq_true hm]
        exact List.any_eq_true.2 ⟨_, (mem_tree hv _ inj 5001).2 hm, by simp⟩
      · rw [decide_eq_false hm]
        refine List.any_eq_false.2 fun y hy e => hm ?_
        have := of_decide_eq_true e
        subst this
        exact (mem_tree hv _ inj 5001).1 hy
    simp only [decide_true, Bool.not_true, cond_false, Option.bind_some, key]
    simp
end Go.Proofs.YtdacgjleiloooaaGreat
