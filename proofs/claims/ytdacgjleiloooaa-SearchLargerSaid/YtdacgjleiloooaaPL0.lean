/-
  Search: what the program comes to, in plain words; the examples of the chapter. No program in sight.
-/
import Derived.Test.YtdacgjleiloooaaB2
import Derived.Test.YtdacgjleiloooaaB3
import Derived.Test.YtdacgjleiloooaaGd
set_option linter.unusedSimpArgs false
set_option linter.unusedVariables false
namespace Go.Proofs.Ytdacgjleiloooaa
open Go Go.Ew
theorem hit_exists {R : Type} {f : Nat → Option R} {n i j : Nat} {r : R} (h1 : i ≤ j) (h2 : j < i + n) (h3 : f j = some r) (h4 : ∀ k r', f k = some r' → r' = r) : hitF f n i = some r := by
  cases hq : hitF f n i with
  | some r' => obtain ⟨k, _, _, hk, _⟩ := hitF_some hq; rw [h4 k r' hk]
  | none => rw [hitF_none.1 hq j h1 h2] at h3; cases h3
theorem any_hit {α R : Type} [Inhabited α] (l : List α) (p : α → Bool) (r : R) : hitF (fun k => if p (nth l k) = true then some r else none) l.length 0 = (if l.any p = true then some r else none) := by
  by_cases h : l.any p = true
  · rw [if_pos h]
    obtain ⟨x, hx, hp⟩ := List.any_eq_true.1 h
    obtain ⟨k, hk⟩ := List.mem_iff_getElem?.1 hx
    have hkl := (List.getElem?_eq_some_iff.1 hk).1
    rw [List.getElem?_eq_getElem hkl, nth_eq l k hkl] at hk
    exact hit_exists (j := k) (by omega) (by omega) (by rw [Option.some.inj hk, if_pos hp]) fun k' r' h => by split at h <;> cases h; rfl
  · rw [if_neg h]
    refine hitF_none.2 fun k _ hk => ?_
    rw [if_neg]
    intro hp
    exact h (List.any_eq_true.2 ⟨nth l k, nth_mem l k (by omega), hp⟩)
theorem gvalid_some (g : Graph) : s_ref05_Valid g = some ((gvalidF g : Nat) : Int) := by
  unfold s_ref05_Valid gvalidF
  by_cases c : 40 < g.nodes.length ∨ 80 < g.edges.length
  · rw [if_pos c, bif_t (by simp; omega)]; rfl
  rw [if_neg c, bif_f (by simp; omega)]
  rw [forN_hit (fun k => if (!kindF (nth g.nodes k)) = true then some 6 else none) _ _ fun j _ hj _ => by
    unfold b1_ref05_Valid
    rw [getN_some (by omega), nth_eq g.nodes j (by omega)]
    simp only [Option.bind_some, s_ref05_kind]
    rw [show (decide (0 ≤ nth g.nodes j) && decide (nth g.nodes j ≤ 99)) = kindF (nth g.nodes j) from rfl]
    cases kindF (nth g.nodes j) <;> rfl]
  rw [any_hit g.nodes (fun n => !kindF n)]
  by_cases c1 : g.nodes.any (fun n => !kindF n) = true
  · simp only [c1, if_true]; rfl
  simp only [c1, if_false]
  simp only [outO, Option.bind_some, Out.on]
  rw [forN_hit (fun k => if (!fitsF g.nodes.length (nth g.edges k)) = true then some 6 else none) _ _ fun j _ hj _ => by
    unfold b3_ref05_Valid
    rw [getN_some (by omega), nth_eq g.edges j (by omega)]
    simp only [Option.bind_some, s_ref05_right, s_ref05_kind]
    rw [show ((decide (0 ≤ (nth g.edges j).kind) && decide ((nth g.edges j).kind ≤ 99)) && (decide (0 ≤ (nth g.edges j).src) && (decide ((nth g.edges j).src < (g.nodes.length : Int)) && (decide (0 ≤ (nth g.edges j).tgt) && decide ((nth g.edges j).tgt < (g.nodes.length : Int)))))) = fitsF g.nodes.length (nth g.edges j) by
      unfold fitsF kindF
      simp [Bool.and_assoc]]
    cases fitsF g.nodes.length (nth g.edges j) <;> rfl]
  rw [any_hit g.edges (fun e => !fitsF g.nodes.length e)]
  by_cases c2 : g.edges.any (fun e => !fitsF g.nodes.length e) = true
  · simp only [c2, if_true]; rfl
  · simp only [c2, if_false]; rfl
theorem gvalid_ok {g : Graph} (h : gvalidF g = 0) : g.nodes.length ≤ 40 ∧ g.edges.length ≤ 80 ∧ (∀ n ∈ g.nodes, 0 ≤ n ∧ n ≤ 99) ∧ ∀ e ∈ g.edges, (0 ≤ e.kind ∧ e.kind ≤ 99) ∧ (0 ≤ e.src ∧ e.src < g.nodes.length) ∧ (0 ≤ e.tgt ∧ e.tgt < g.nodes.length) := by
  unfold gvalidF at h
  split at h
  · cases h
  rename_i h0
  split at h
  · cases h
  rename_i h1
  split at h
  · cases h
  rename_i h2
  refine ⟨by omega, by omega, fun n hn => ?_, fun e he => ?_⟩
  · by_cases c : kindF n = true
    · simpa [kindF] using c
    · exact absurd (List.any_eq_true.2 ⟨n, hn, by simpa using c⟩) h1
  · by_cases c : fitsF g.nodes.length e = true
    · simp [fitsF, kindF] at c
      omega
    · exact absurd (List.any_eq_true.2 ⟨e, he, by simpa using c⟩) h2
theorem below1_neg (t : Types) (a b : Int) (ha : a < 0) (hb : 0 ≤ b) (F : Nat) : s_ref04_Below1 (F + 1) t a b = some false := by
  rw [s_ref04_Below1, bif_f (by simp; omega), bif_f (by simp; omega)]
  rfl
theorem below1_some {t : Types} (hok : okAll t.nodes) (b : Int) (hb : 0 ≤ b) : ∀ (a F : Nat), a < t.nodes.length → a + 1 < F → s_ref04_Below1 F t a b = some (isF t.nodes a b) := by
  intro a
  induction a using Nat.strongRecOn with
  | _ a ih =>
    intro F ha hF
    obtain ⟨F, rfl⟩ : ∃ G, F = G + 1 := ⟨F - 1, by omega⟩
    obtain ⟨p1, p2⟩ := hok a ha
    unfold isF
    rw [chainF_eq hok ha, s_ref04_Below1]
    by_cases e : (a : Int) = b
    · rw [bif_t (by simpa using e)]
      simp [e]
    · rw [bif_f (by simpa using e), bif_t (by simp), getI_nat, getN_some ha, nth_eq t.nodes a ha]
      simp only [Option.bind_some, List.any_cons]
      rw [show decide (b = (a : Int)) = false by simpa using fun h => e h.symm, Bool.false_or]
      by_cases hp : (nth t.nodes a).parent < 0
      · obtain ⟨G, rfl⟩ : ∃ G, F = G + 1 := ⟨F - 1, by omega⟩
        rw [below1_neg t _ b hp hb, if_pos hp]
        rfl
      · obtain ⟨p, hpp⟩ : ∃ p : Nat, (nth t.nodes a).parent = p := ⟨(nth t.nodes a).parent.toNat, by omega⟩
        rw [if_neg hp, hpp, ih p (by omega) F (by omega) (by omega)]
        rfl
def UE (q : Quest) (ns : List Int) : Nat → List Int → List Morph
  | 0, es => [⟨ns, es⟩]
  | f + 1, es => (List.range q.g.edges.length).flatMap fun k => if skipE q ns es k then [] else UE q ns f (es ++ [(k : Int)])
def UN (q : Quest) : Nat → List Int → List Morph
  | 0, ns => UE q ns q.p.edges.length []
  | f + 1, ns => (List.range q.g.nodes.length).flatMap fun k => if skipN q ns k then [] else UN q f (ns ++ [(k : Int)])
theorem flatMap_nil' {α β : Type} {l : List α} {f : α → List β} (h : ∀ a ∈ l, f a = []) : l.flatMap f = [] := by
  rw [List.flatMap_eq_nil_iff]; exact h
theorem UE_nil (q : Quest) (ns : List Int) (i : Nat) (hno : ∀ k, k < q.g.edges.length → fitsQ q ns i k = false) : ∀ (f : Nat) (es : List Int), es.length ≤ i → i < es.length + f → UE q ns f es = []
  | 0, es, h1, h2 => by omega
  | f + 1, es, h1, h2 => by
    unfold UE
    refine flatMap_nil' fun k hk => ?_
    have hk' : k < q.g.edges.length := by simpa using hk
    by_cases c : skipE q ns es k = true
    · rw [if_pos c]
    · rw [if_neg c]
      by_cases e : i = es.length
      · exfalso
        apply c
        unfold skipE
        rw [← e, hno k hk']
        rfl
      · exact UE_nil q ns i hno f _ (by simp; omega) (by simp; omega)
theorem nth_app {α : Type} [Inhabited α] (l : List α) (x : α) (i : Nat) (h : i < l.length) : nth (l ++ [x]) i = nth l i := by
  simp only [nth, List.getD_eq_getElem?_getD]
  rw [List.getElem?_append_left h]
theorem fitsQ_app (q : Quest) (ns : List Int) (x : Int) (i k : Nat) (h1 : (nth q.p.edges i).src.toNat < ns.length) (h2 : (nth q.p.edges i).tgt.toNat < ns.length) : fitsQ q (ns ++ [x]) i k = fitsQ q ns i k := by
  unfold fitsQ
  simp only [nth_app ns x _ h1, nth_app ns x _ h2]
theorem UN_nil (q : Quest) (i : Nat) (hi : i < q.p.edges.length) : ∀ (f : Nat) (ns : List Int), (nth q.p.edges i).src.toNat < ns.length → (nth q.p.edges i).tgt.toNat < ns.length → (∀ k, k < q.g.edges.length → fitsQ q ns i k = false) → UN q f ns = []
  | 0, ns, _, _, hno => UE_nil q ns i hno _ [] (by simp) (by simpa using hi)
  | f + 1, ns, h1, h2, hno => by
    unfold UN
    refine flatMap_nil' fun k _ => ?_
    by_cases c : skipN q ns k = true
    · rw [if_pos c]
    · rw [if_neg c]
      exact UN_nil q i hi f _ (by simp; omega) (by simp; omega) fun k' hk' => by rw [fitsQ_app q ns _ i k' h1 h2]; exact hno k' hk'
theorem take_app {β : Type} (M : Nat) (o a b : List β) : ((o ++ a).take M ++ b).take M = (o ++ (a ++ b)).take M := by
  by_cases h : (o ++ a).length ≤ M
  · rw [List.take_of_length_le h, List.append_assoc]
  · have h' : M ≤ (o ++ a).length := by omega
    have hl : ((o ++ a).take M).length = M := by rw [List.length_take]; omega
    rw [← List.append_assoc, List.take_append_of_le_length (by omega), List.take_append_of_le_length h', List.take_take, Nat.min_self]
theorem foldl_take {β : Type} (M : Nat) (g : List β → Nat → List β) (L : Nat → List β) : ∀ (l : List Nat), (∀ o k, k ∈ l → o.length ≤ M → g o k = (o ++ L k).take M) → ∀ (o : List β), o.length ≤ M → l.foldl g o = (o ++ l.flatMap L).take M
  | [], _, o, ho => by simp [List.take_of_length_le ho]
  | k :: l, hg, o, ho => by
    rw [List.foldl_cons, hg o k (List.mem_cons_self ..) ho, foldl_take M g L l (fun o k hk => hg o k (List.mem_cons_of_mem _ hk)) _ (List.length_take_le _ _), List.flatMap_cons, take_app]
theorem take_nil {β : Type} {M : Nat} {o : List β} (h : o.length ≤ M) : o = (o ++ []).take M := by rw [List.append_nil, List.take_of_length_le h]
theorem find_UE (q : Quest) (ns : List Int) (hn : q.p.nodes.length ≤ ns.length) : ∀ (f : Nat) (es : List Int) (out : List Morph), es.length + f = q.p.edges.length → out.length ≤ q.most → findQ q f ns es out = (out ++ UE q ns f es).take q.most
  | 0, es, out, he, ho => by
    unfold findQ UE
    split
    · rename_i h
      rw [List.take_append_of_le_length (by omega), List.take_of_length_le ho]
    · rw [List.take_of_length_le (by simp; omega)]
  | f + 1, es, out, he, ho => by
    unfold findQ UE
    split
    · rename_i h
      rw [List.take_append_of_le_length (by omega), List.take_of_length_le ho]
    · rw [if_neg (by omega)]
      refine foldl_take q.most _ _ _ (fun o k hk hol => ?_) out ho
      by_cases c : skipE q ns es k = true
      · rw [if_pos c, if_pos c]; exact take_nil hol
      · rw [if_neg c, if_neg c]
        exact find_UE q ns hn f _ o (by simp; omega) hol
theorem find_UN (q : Quest) (hw : wfQ q) : ∀ (f : Nat) (ns : List Int) (out : List Morph), ns.length + f = q.p.nodes.length → out.length ≤ q.most → findQ q (f + q.p.edges.length) ns [] out = (out ++ UN q f ns).take q.most
  | 0, ns, out, hn, ho => by
    rw [Nat.zero_add]
    exact find_UE q ns (by omega) q.p.edges.length [] out (by simp) ho
  | f + 1, ns, out, hn, ho => by
    rw [show f + 1 + q.p.edges.length = (f + q.p.edges.length) + 1 by omega]
    unfold findQ UN
    split
    · rename_i h
      rw [List.take_append_of_le_length (by omega), List.take_of_length_le ho]
    · rw [if_pos (by omega)]
      refine foldl_take q.most _ _ _ (fun o k hk hol => ?_) out ho
      by_cases c : skipN q ns k = true
      · rw [if_pos c, if_pos c]; exact take_nil hol
      · rw [if_neg c, if_neg c]
        by_cases c2 : possibleQ q (ns ++ [(k : Int)]) = true
        · rw [if_pos c2]
          exact find_UN q hw f _ o (by simp; omega) hol
        · rw [if_neg c2]
          have hex : ∃ i, i < q.p.edges.length ∧ okE q (ns ++ [(k : Int)]) i = false := by
            by_cases he : ∃ i, i < q.p.edges.length ∧ okE q (ns ++ [(k : Int)]) i = false
            · exact he
            · exfalso
              apply c2
              unfold possibleQ
              rw [List.all_eq_true]
              intro i hi
              by_cases z : okE q (ns ++ [(k : Int)]) i = true
              · exact z
              · exact absurd ⟨i, by simpa using hi, by simpa using z⟩ he
          obtain ⟨i, hi, hok⟩ := hex
          unfold okE at hok
          simp only at hok
          split at hok
          · rename_i hmax
            obtain ⟨⟨a1, a2⟩, b1, b2⟩ := hw.2.2.1 i hi
            rw [List.length_append, List.length_singleton] at hmax
            rw [UN_nil q i hi f _ (by simp; omega) (by simp; omega) fun k' hk' => by
              have := List.any_eq_false.1 hok k' (by simpa using hk')
              simpa using this]
            exact take_nil hol
          · cases hok
theorem foundQ_UN (q : Quest) (hw : wfQ q) : foundQ q = (UN q q.p.nodes.length []).take q.most := by
  unfold foundQ
  rw [find_UN q hw q.p.nodes.length [] [] (by simp) (Nat.zero_le _), List.nil_append]
/-- What the quest has to be like. -/
structure OkQ (q : Quest) (t : Types) : Prop where
  ok : okAll t.nodes
  is : q.is = rowsF t t.nodes.length
  t12 : t.nodes.length ≤ 12
  p40 : q.p.nodes.length ≤ 40
  p80 : q.p.edges.length ≤ 80
  g40 : q.g.nodes.length ≤ 40
  g80 : q.g.edges.length ≤ 80
  most : q.most ≤ 100000
  pn : ∀ i, i < q.p.nodes.length → 0 ≤ nth q.p.nodes i ∧ nth q.p.nodes i < t.nodes.length
  gn : ∀ i, i < q.g.nodes.length → 0 ≤ nth q.g.nodes i ∧ nth q.g.nodes i < t.nodes.length
  pe : ∀ i, i < q.p.edges.length → (0 ≤ (nth q.p.edges i).src ∧ (nth q.p.edges i).src < q.p.nodes.length) ∧ (0 ≤ (nth q.p.edges i).tgt ∧ (nth q.p.edges i).tgt < q.p.nodes.length)
theorem nth_rowsF (t : Types) (a b : Nat) (ha : a < t.nodes.length) (hb : b < t.nodes.length) : nth (nth (rowsF t t.nodes.length) a) b = isF t.nodes b a := by
  have h1 : nth (rowsF t t.nodes.length) a = rowF t a := by
    rw [← nth_eq _ a (by rw [rowsF_len]; exact ha)]
    simp [rowsF]
  rw [h1, ← nth_eq _ b (by rw [rowF_len]; exact hb)]
  simp [rowF]
theorem okq_of {t : Types} {p g : Graph} (h : svalidF t p g = 0) (part : Option Morph) (inj : Bool) (most : Nat) (hm : most ≤ 100000) (hpart : ∀ m, part = some m → m.nodes.length = p.nodes.length ∧ m.edges.length = p.edges.length) :
    OkQ (questOf t part p g inj most) t ∧ wfQ2 (questOf t part p g inj most) ∧ (validF t).2 = 0 := by
  unfold svalidF at h
  split at h
  · rename_i h1; exact absurd h h1
  rename_i h1
  split at h
  · rename_i h2; exact absurd h h2
  rename_i h2
  split at h
  · rename_i h3; exact absurd h h3
  rename_i h3
  have h4 : (withinF t p && withinF t g) = true := by
    cases hb : withinF t p && withinF t g
    · rw [hb] at h; cases h
    · rfl
  have h1' : (validF t).2 = 0 := by omega
  have h2' : gvalidF p = 0 := by omega
  have h3' : gvalidF g = 0 := by omega
  obtain ⟨k1, k2, k3, k4⟩ := valid_okAll h1'
  obtain ⟨p1, p2, p3, p4⟩ := gvalid_ok h2'
  obtain ⟨g1, g2, g3, g4⟩ := gvalid_ok h3'
  have hin : ∀ x : Graph, withinF t x = true → ∀ n ∈ x.nodes, n < t.nodes.length := fun x hx n hn => by
    unfold withinF at hx
    simp only [Bool.and_eq_true, Bool.not_eq_true', List.any_eq_false, decide_eq_true_eq] at hx
    have := hx.1 n hn
    omega
  simp only [Bool.and_eq_true] at h4
  have hp : ∀ i, i < p.nodes.length → 0 ≤ nth p.nodes i ∧ nth p.nodes i < t.nodes.length := fun i hi => ⟨(p3 _ (nth_mem _ i hi)).1, hin p h4.1 _ (nth_mem _ i hi)⟩
  have hg : ∀ i, i < g.nodes.length → 0 ≤ nth g.nodes i ∧ nth g.nodes i < t.nodes.length := fun i hi => ⟨(g3 _ (nth_mem _ i hi)).1, hin g h4.2 _ (nth_mem _ i hi)⟩
  have he : ∀ i, i < p.edges.length → (0 ≤ (nth p.edges i).src ∧ (nth p.edges i).src < p.nodes.length) ∧ (0 ≤ (nth p.edges i).tgt ∧ (nth p.edges i).tgt < p.nodes.length) := fun i hi => (p4 _ (nth_mem _ i hi)).2
  refine ⟨⟨k1, rfl, k2, p1, p2, g1, g2, hm, hp, hg, he⟩, ⟨⟨⟨by show p.nodes.length ≤ _; omega, by show p.edges.length ≤ _; omega⟩, ⟨by show g.nodes.length ≤ _; omega, by show g.edges.length ≤ _; omega⟩, he, hpart⟩, hm, fun i hi => ?_, fun k hk r hr => ?_, by show p.nodes.length ≤ _; omega, by show p.edges.length ≤ _; omega⟩, h1'⟩
  · show 0 ≤ nth p.nodes i ∧ nth p.nodes i < (rowsF t t.nodes.length).length
    rw [rowsF_len]
    exact hp i hi
  · show 0 ≤ nth g.nodes k ∧ nth g.nodes k < r.length
    have hr' : r ∈ rowsF t t.nodes.length := hr
    obtain ⟨a, _, rfl⟩ := List.mem_map.1 hr'
    rw [rowF_len]
    exact hg k hk
theorem sameInts_refl (a : List Int) : s_ref05_SameInts a a = some true := by
  unfold s_ref05_SameInts
  rw [bif_f (by simp), forN_hit (fun _ => none) _ _ fun j _ hj _ => by
    unfold b1_ref05_SameInts
    rw [getN_some (by omega)]
    simp [ctO]]
  rw [hitF_none.2 fun _ _ _ => rfl]
  rfl
theorem sameInts2_refl (a : List Int) : s_ref02_SameInts a a = some true := by
  unfold s_ref02_SameInts
  rw [bif_f (by simp), forN_hit (fun _ => none) _ _ fun j _ hj _ => by
    unfold b1_ref02_SameInts
    rw [getN_some (by omega)]
    simp [ctO]]
  rw [hitF_none.2 fun _ _ _ => rfl]
  rfl
theorem sameMorph_refl (a : Morph) : s_ref06_Same a a = some true := by
  unfold s_ref06_Same
  rw [sameInts2_refl, sameInts2_refl]
  rfl
theorem sameAll_refl (a : List Morph) : s_ref17_SameAll a a = some true := by
  unfold s_ref17_SameAll
  rw [bif_f (by simp), forN_hit (fun _ => none) _ _ fun j _ hj _ => by
    unfold b1_ref17_SameAll
    rw [getN_some (by omega)]
    simp only [Option.bind_some]
    rw [sameInts_refl, sameInts_refl]
    rfl]
  rw [hitF_none.2 fun _ _ _ => rfl]
  rfl
theorem valid_s {t : Types} {p g : Graph} (ht : wfTypes t) (hp : wfGraph p) (hg : wfGraph g) : s_search_valid t p g = some ((svalidF t p g : Nat) : Int) := by
  unfold s_search_valid
  rw [if_pos ⟨ht, hp, hg⟩]
theorem all_s {t : Types} {p g : Graph} (ht : wfTypes t) (h : svalidF t p g = 0) (part : Option Morph) (inj : Bool) (hpart : ∀ m, part = some m → m.nodes.length = p.nodes.length ∧ m.edges.length = p.edges.length) :
    s_search_all t p g part inj = some (allQ (questOf t part p g inj 5001)) := by
  obtain ⟨_, hw, hv⟩ := okq_of h part inj 5001 (by omega) hpart
  unfold s_search_all
  rw [if_pos ⟨ht, hv, hw⟩]
/-- The error of node number k of a match. -/
def nodeErr (t : Types) (p g : Graph) (m : Morph) (k : Nat) : Option Int :=
  if nth m.nodes k < 0 ∨ (g.nodes.length : Int) ≤ nth m.nodes k then some 6
  else if isF t.nodes (nth g.nodes (nth m.nodes k).toNat).toNat (nth p.nodes k) then none else some 13
/-- The error of edge number k of a match. -/
def edgeErr (p g : Graph) (m : Morph) (k : Nat) : Option Int :=
  if nth m.edges k < 0 ∨ (g.edges.length : Int) ≤ nth m.edges k then some 6
  else if (nth p.edges k).kind ≠ (nth g.edges (nth m.edges k).toNat).kind then some 13
  else if nth m.nodes (nth p.edges k).src.toNat ≠ (nth g.edges (nth m.edges k).toNat).src ∨ nth m.nodes (nth p.edges k).tgt.toNat ≠ (nth g.edges (nth m.edges k).toNat).tgt then some 11
  else none
def matchErr (t : Types) (p g : Graph) (m : Morph) : Int :=
  if m.nodes.length = p.nodes.length ∧ m.edges.length = p.edges.length then
    match hitF (nodeErr t p g m) p.nodes.length 0 with
    | some e => e
    | none => match hitF (edgeErr p g m) p.edges.length 0 with
      | some e => e
      | none => 0
  else 20
theorem below_s {t : Types} (ht : wfTypes t) (hv : (validF t).2 = 0) : s_search_below t = some (rowsF t t.nodes.length) := by
  unfold s_search_below
  rw [if_pos ⟨ht, hv⟩]
theorem nth_rows (t : Types) (a : Nat) (ha : a < t.nodes.length) : nth (rowsF t t.nodes.length) a = rowF t a := by
  rw [← nth_eq _ a (by rw [rowsF_len]; exact ha)]
  simp [rowsF]
theorem shape_some {t : Types} {p g : Graph} (ht : wfTypes t) (h : svalidF t p g = 0) (m : Morph) : s_search_shape t p g m = some (matchErr t p g m) := by
  obtain ⟨hq, _, hv⟩ := okq_of h none false 1 (by omega) (fun m e => by cases e)
  have hpn := hq.pn
  have hgn := hq.gn
  have hpe := hq.pe
  simp only [questOf] at hpn hgn hpe
  unfold s_search_shape matchErr
  by_cases hl : m.nodes.length = p.nodes.length ∧ m.edges.length = p.edges.length
  · rw [bif_f (by simp [hl.1, hl.2]), if_pos hl, below_s ht hv]
    simp only [Option.bind_some]
    rw [hl.1, hl.2, forN_hit (nodeErr t p g m) _ _ fun k _ hk _ => by
      have hk' : k < p.nodes.length := by omega
      obtain ⟨a1, a2⟩ := hpn k hk'
      unfold b1_search_shape nodeErr
      rw [getN_some (by omega), nth_eq m.nodes k (by omega)]
      simp only [Option.bind_some]
      by_cases c : nth m.nodes k < 0 ∨ (g.nodes.length : Int) ≤ nth m.nodes k
      · rw [bif_t (by simpa using c), if_pos c]; rfl
      rw [bif_f (by simpa using c), if_neg c, getN_some hk', nth_eq p.nodes k hk']
      simp only [Option.bind_some]
      obtain ⟨b1, b2⟩ := hgn (nth m.nodes k).toNat (by omega)
      rw [getI_of a1, getN_some (by rw [rowsF_len]; omega), nth_eq _ _ (by rw [rowsF_len]; omega), nth_rows t _ (by omega)]
      simp only [Option.bind_some]
      rw [getI_of (by omega), getN_some (by omega), nth_eq _ _ (by omega)]
      simp only [Option.bind_some]
      rw [getI_of b1, getN_some (by rw [rowF_len]; omega), nth_eq _ _ (by rw [rowF_len]; omega), ← nth_rows t (nth p.nodes k).toNat (by omega), nth_rowsF t _ _ (by omega) (by omega), Int.toNat_of_nonneg a1]
      simp only [Option.bind_some]
      cases isF t.nodes (nth g.nodes (nth m.nodes k).toNat).toNat (nth p.nodes k) <;> rfl]
    cases hitF (nodeErr t p g m) p.nodes.length 0 with
    | some e => rfl
    | none =>
      simp only [outO, Option.bind_some, Out.on]
      rw [forN_hit (edgeErr p g m) _ _ fun k _ hk _ => by
        have hk' : k < p.edges.length := by omega
        obtain ⟨⟨a1, a2⟩, a3, a4⟩ := hpe k hk'
        unfold b3_search_shape edgeErr
        rw [getN_some (by omega), nth_eq m.edges k (by omega)]
        simp only [Option.bind_some]
        by_cases c : nth m.edges k < 0 ∨ (g.edges.length : Int) ≤ nth m.edges k
        · rw [bif_t (by simpa using c), if_pos c]; rfl
        rw [bif_f (by simpa using c), if_neg c, getN_some hk', nth_eq p.edges k hk', getI_of (by omega), getN_some (by omega), nth_eq g.edges _ (by omega)]
        simp only [Option.bind_some]
        by_cases c2 : (nth p.edges k).kind = (nth g.edges (nth m.edges k).toNat).kind
        · rw [bif_f (by simp [c2]), if_neg (by simp [c2]), getI_of a1, getI_of a3, getN_some (show (nth p.edges k).src.toNat < m.nodes.length by omega), getN_some (show (nth p.edges k).tgt.toNat < m.nodes.length by omega), nth_eq _ _ (by omega), nth_eq _ _ (by omega)]
          simp only [Option.bind_some]
          by_cases c3 : nth m.nodes (nth p.edges k).src.toNat = (nth g.edges (nth m.edges k).toNat).src <;> by_cases c4 : nth m.nodes (nth p.edges k).tgt.toNat = (nth g.edges (nth m.edges k).toNat).tgt <;> simp [c3, c4, ctO]
        · rw [bif_t (by simp [c2]), if_pos c2]; rfl]
      cases hitF (edgeErr p g m) p.edges.length 0 <;> rfl
  · rw [if_neg hl, bif_t (by
      by_cases e1 : m.nodes.length = p.nodes.length
      · by_cases e2 : m.edges.length = p.edges.length
        · exact absurd ⟨e1, e2⟩ hl
        · simp [e2]
      · simp [e1])]
theorem matchErr_ok {t : Types} {p g : Graph} {m : Morph} (h : matchErr t p g m = 0) : (m.nodes.length = p.nodes.length ∧ m.edges.length = p.edges.length) ∧ (∀ k, k < p.nodes.length → nodeErr t p g m k = none) ∧ ∀ k, k < p.edges.length → edgeErr p g m k = none := by
  unfold matchErr at h
  split at h
  · rename_i hl
    refine ⟨hl, ?_⟩
    cases hn : hitF (nodeErr t p g m) p.nodes.length 0 with
    | some e =>
      rw [hn] at h
      obtain ⟨j, _, _, hj, _⟩ := hitF_some hn
      unfold nodeErr at hj
      split at hj
      · cases hj; cases h
      split at hj
      · cases hj
      · cases hj; cases h
    | none =>
      rw [hn] at h
      simp only at h
      cases he : hitF (edgeErr p g m) p.edges.length 0 with
      | some e =>
        rw [he] at h
        obtain ⟨j, _, _, hj, _⟩ := hitF_some he
        unfold edgeErr at hj
        split at hj
        · cases hj; cases h
        split at hj
        · cases hj; cases h
        split at hj
        · cases hj; cases h
        · cases hj
      | none => exact ⟨fun k hk => hitF_none.1 hn k (by omega) (by omega), fun k hk => hitF_none.1 he k (by omega) (by omega)⟩
  · cases h
/-- The types of the images. -/
def imgs (g : Graph) (m : Morph) : List Int := m.nodes.map fun n => nth g.nodes n.toNat
theorem imgs_nth (g : Graph) (m : Morph) (k : Nat) (hk : k < m.nodes.length) : nth (imgs g m) k = nth g.nodes (nth m.nodes k).toNat := by
  rw [← nth_eq _ k (by simpa [imgs] using hk), ← nth_eq m.nodes k hk]
  simp [imgs]
theorem sInstance_some {t : Types} {p g : Graph} (ht : wfTypes t) (hp : wfGraph p) (hg : wfGraph g) (m : Morph) : s_search_Instance t p g m = some (if svalidF t p g = 0 then (if matchErr t p g m = 0 then (⟨imgs g m, p.edges⟩, 0) else (⟨[], []⟩, matchErr t p g m)) else (⟨[], []⟩, ((svalidF t p g : Nat) : Int))) := by
  unfold s_search_Instance
  rw [valid_s ht hp hg]
  simp only [Option.bind_some]
  by_cases h : svalidF t p g = 0
  · obtain ⟨hq, _, _⟩ := okq_of h none false 1 (by omega) (fun m e => by cases e)
    have h40 := hq.p40
    have h80 := hq.p80
    have g40 := hq.g40
    simp only [questOf] at h40 h80 g40
    rw [bif_f (by simp [h]), if_pos h, shape_some ht h]
    simp only [Option.bind_some]
    by_cases h2 : matchErr t p g m = 0
    · obtain ⟨⟨l1, l2⟩, n1, _⟩ := matchErr_ok h2
      rw [bif_f (by simp [h2]), if_pos h2]
      unfold s_slices_Clone_Edge
      rw [if_pos (by omega)]
      simp only [Option.bind_some]
      obtain ⟨e1, e2⟩ := forN_fold (body := b1_search_Instance g m) (fun j (x : List Int) => x = (imgs g m).take j) (fun k x => x ++ [nth g.nodes (nth m.nodes k).toNat]) m.nodes.length 0 [] rfl (fun k x _ hk hx => by
        have hk' : k < m.nodes.length := by omega
        have hn := n1 k (by omega)
        unfold nodeErr at hn
        split at hn
        · cases hn
        rename_i hr
        refine ⟨?_, ?_⟩
        · unfold b1_search_Instance
          rw [getN_some hk', nth_eq m.nodes k hk']
          simp only [Option.bind_some]
          rw [getI_of (by omega), getN_some (by omega), nth_eq _ _ (by omega)]
          simp only [Option.bind_some]
          rw [catL_of (by rw [hx, List.length_take]; simp [imgs]; omega)]
          rfl
        · rw [hx, take_nth (imgs g m) k (by simpa [imgs] using hk'), imgs_nth g m k hk'])
      rw [e1]
      simp only [Option.bind_some, Out.on]
      rw [e2, Nat.zero_add, List.take_of_length_le (by simp [imgs])]
    · rw [bif_t (by simp [h2]), if_neg h2]
  · rw [bif_t (by simp [h]), if_neg h]
theorem example_some : ∃ T, s_ref04_Example = some T ∧ wfTypes T ∧ svalidF T ⟨[0, 0], []⟩ ⟨[3, 1, 1], [⟨0, 0, 1⟩, ⟨0, 0, 2⟩]⟩ = 0 ∧
    allQ (questOf T none ⟨[0, 0], []⟩ ⟨[3, 1, 1], [⟨0, 0, 1⟩, ⟨0, 0, 2⟩]⟩ true 5001) = ([⟨[1, 2], []⟩, ⟨[2, 1], []⟩], 0) ∧
    (allQ (questOf T none ⟨[0, 0], []⟩ ⟨[3, 1, 1], [⟨0, 0, 1⟩, ⟨0, 0, 2⟩]⟩ false 5001)).1.length = 4 ∧ (allQ (questOf T none ⟨[0, 0], []⟩ ⟨[3, 1, 1], [⟨0, 0, 1⟩, ⟨0, 0, 2⟩]⟩ false 5001)).2 = 0 ∧
    matchErr T ⟨[0, 0], []⟩ ⟨[3, 1, 1], [⟨0, 0, 1⟩, ⟨0, 0, 2⟩]⟩ ⟨[1, 2], []⟩ = 0 := by
  refine ⟨_, rfl, ?_, by decide +kernel, by decide +kernel, by decide +kernel, by decide +kernel, by decide +kernel⟩
  refine ⟨by simp, by simp, ?_, ?_⟩
  · intro n hn
    simp only [List.mem_cons, List.not_mem_nil, or_false] at hn
    rcases hn with rfl | rfl | rfl | rfl <;> refine ⟨by simp [wfS], by simp, ?_⟩ <;> intro a ha <;> simp only [List.mem_cons, List.not_mem_nil, or_false] at ha <;> subst ha <;> refine ⟨by simp [wfS], by simp, ?_⟩ <;> intro s hs <;> simp only [List.mem_cons, List.not_mem_nil, or_false] at hs
    rcases hs with rfl | rfl <;> simp [wfS]
  · intro e he
    simp only [List.mem_cons, List.not_mem_nil, or_false] at he
    rcases he with rfl | rfl <;> simp [wfS]
theorem awake_some : s_law17_awake = some true := by
  obtain ⟨T, e, hw, hv, h1, h2, h3, h4⟩ := example_some
  have hp : wfGraph ⟨[0, 0], []⟩ := ⟨by simp, by simp⟩
  have hg : wfGraph ⟨[3, 1, 1], [⟨0, 0, 1⟩, ⟨0, 0, 2⟩]⟩ := ⟨by simp, by simp⟩
  unfold s_law17_awake s_law17_bank s_search_Count s_search_All
  rw [e]
  simp only [Option.bind_some]
  rw [valid_s hw hp hg, hv]
  simp only [Option.bind_some, Int.natCast_zero, decide_true, Bool.not_true, cond_false]
  rw [all_s hw hv none true (fun m e => by cases e), all_s hw hv none false (fun m e => by cases e), sInstance_some hw hp hg, h1, if_pos hv, if_pos h4]
  simp only [Option.bind_some, h2, h3, decide_true, cond_true]
  rw [sameAll_refl]
  simp only [Option.bind_some, cond_true]
  rfl
end Go.Proofs.Ytdacgjleiloooaa
