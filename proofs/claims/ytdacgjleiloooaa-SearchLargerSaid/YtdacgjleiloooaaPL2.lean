/-
  SearchLarger as a plain function: graphs of drafts, the union, the matches in it. No program in sight.
-/
import Derived.Test.YtdacgjleiloooaaPL1
import Derived.Test.YtdacgjleiloooaaGd
set_option linter.unusedSimpArgs false
set_option linter.unusedVariables false
namespace Go.Proofs.Ytdacgjleiloooaa
open Go Go.Ew
/-! ### Graphs of drafts -/
theorem among_some {t : Types} (hok : okAll t.nodes) (g : Graph) (hg : ∀ n ∈ g.nodes, 0 ≤ n ∧ n < t.nodes.length) (h8 : g.nodes.length ≤ 40) (h12 : t.nodes.length ≤ 12) (kind : Int) (hk : 0 ≤ kind) (F : Nat) (hF : 100 < F) :
    ∃ l, s_ref17_among F t g kind = some l ∧ (∀ n ∈ l, 0 ≤ n ∧ n < g.nodes.length) := by
  unfold s_ref17_among
  rcases forN_inv (body := b1_ref17_among F t g kind) (fun j l => l.length ≤ j ∧ ∀ n ∈ l, 0 ≤ n ∧ n < g.nodes.length) (fun _ => False) (fun _ => False) g.nodes.length 0 [] ⟨Nat.le_refl _, fun n hn => by cases hn⟩ (fun j l h1 h2 ⟨h3, h4⟩ => by
    have hj : j < g.nodes.length := by omega
    obtain ⟨a1, a2⟩ := hg _ (nth_mem g.nodes j hj)
    have hB := below1_some hok kind hk (nth g.nodes j).toNat F (by omega) (by omega)
    rw [Int.toNat_of_nonneg a1] at hB
    unfold b1_ref17_among
    rw [getN_some hj, nth_eq g.nodes j hj]
    simp only [Option.bind_some]
    rw [hB]
    simp only [Option.bind_some]
    cases isF t.nodes (nth g.nodes j).toNat kind
    · exact .inl ⟨l, rfl, by omega, h4⟩
    · rw [bif_t rfl, catL_of (by simp; omega)]
      refine .inl ⟨_, rfl, by simp; omega, fun n hn => ?_⟩
      rcases List.mem_append.1 hn with hn | hn
      · exact h4 n hn
      · rw [List.mem_singleton.1 hn]; omega) with ⟨l, e, h | h⟩ | ⟨_, _, h⟩
  · rw [e]; exact ⟨l, rfl, h.2⟩
  · exact h.elim
  · exact h.elim
/-- A graph as a draft describes it over a type graph. -/
structure MadeG (t : Types) (g : Graph) (a b : Nat) : Prop where
  nodes : ∀ n ∈ g.nodes, 0 ≤ n ∧ n < t.nodes.length
  edges : ∀ e ∈ g.edges, (0 ≤ e.kind ∧ e.kind < t.edges.length) ∧ (0 ≤ e.src ∧ e.src < g.nodes.length) ∧ (0 ≤ e.tgt ∧ e.tgt < g.nodes.length)
  na : g.nodes.length ≤ a
  eb : g.edges.length ≤ b
theorem madeG_some {t : Types} (ht : MadeT t) (d : Gscarfjointref05_Draft) (hd : okDraft d) (A : Bool) (F : Nat) (hF : 100 < F) : ∃ g, s_ref17_Made F t d A = some g ∧ MadeG t g (min d.nodes.length 8) (min d.edges.length 10) := by
  obtain ⟨k1, _, _, _⟩ := valid_okAll ht.valid
  have hn6 := ht.n6
  unfold s_ref17_Made
  rcases forN_inv (body := b1_ref17_Made t A) (fun j l => l.length ≤ j ∧ ∀ n ∈ l, 0 ≤ n ∧ n < t.nodes.length) (fun _ => False) (fun _ => False) t.nodes.length 0 [] ⟨Nat.le_refl _, fun n hn => by cases hn⟩ (fun j l h1 h2 ⟨h3, h4⟩ => by
    have hj : j < t.nodes.length := by omega
    have hb : ∃ c, ((bif A then some true else (getN t.nodes j).bind fun x => some (!x.abst)) : Option Bool) = some c := by
      cases A
      · rw [bif_f rfl, getN_some hj]; exact ⟨_, rfl⟩
      · exact ⟨true, rfl⟩
    obtain ⟨c, e⟩ := hb
    unfold b1_ref17_Made
    rw [e]
    simp only [Option.bind_some]
    cases c
    · exact .inl ⟨l, rfl, by omega, h4⟩
    · rw [bif_t rfl, catL_of (by simp; omega)]
      refine .inl ⟨_, rfl, by simp; omega, fun n hn => ?_⟩
      rcases List.mem_append.1 hn with hn | hn
      · exact h4 n hn
      · rw [List.mem_singleton.1 hn]; omega) with ⟨ks, e1, h | h⟩ | ⟨_, _, h⟩
  rotate_left
  · exact h.elim
  · exact h.elim
  obtain ⟨hkl, hks⟩ := h
  rw [e1]
  simp only [Option.bind_some, Out.on]
  -- the nodes
  rcases whileG_inv (body := b3_ref17_Made d ks) (fun s => s.1 = (s.2.length : Int) ∧ s.2.length ≤ 8 ∧ s.2.length ≤ d.nodes.length ∧ ∀ n ∈ s.2, 0 ≤ n ∧ n < t.nodes.length) (fun s => 8 - s.2.length)
    (fun s => s.2.length ≤ min d.nodes.length 8 ∧ ∀ n ∈ s.2, 0 ≤ n ∧ n < t.nodes.length) (fun _ => False) (fun ⟨y, x⟩ ⟨h1, h2, h2', h3⟩ => by
    simp only at h1 h2 h2' h3
    subst h1
    have hw : IntKind.i64.wrap ((x.length : Int) + 1) = ((x.length + 1 : Nat) : Int) := by rw [wrap64_of _ (by omega) (by omega)]; rfl
    unfold b3_ref17_Made
    simp only
    by_cases c : x.length < d.nodes.length ∧ x.length < 8 ∧ 0 < ks.length
    · left
      obtain ⟨c1, c2, c3⟩ := c
      rw [bif_t (by simp only [Bool.and_eq_true, decide_eq_true_eq]; omega), getI_nat, getN_some c1, hw]
      simp only [Option.bind_some]
      rw [nzI_of (by omega)]
      simp only [Option.bind_some]
      have hb := hd.1 _ (List.getElem_mem c1)
      rw [wrap_byte hb]
      obtain ⟨r1, r2⟩ := tmod_rng hb.1 (k := (ks.length : Int)) (by omega)
      rw [getI_of r1, getN_some (by omega)]
      simp only [Option.bind_some]
      rw [catL_of (by simp; omega)]
      refine ⟨_, rfl, ⟨by simp, by simp; omega, by simp; omega, fun n hn => ?_⟩, by simp; omega⟩
      rcases List.mem_append.1 hn with hn | hn
      · exact h3 n hn
      · rw [List.mem_singleton.1 hn]; exact hks _ (List.getElem_mem _)
    · right; left
      rw [bif_f (by
        simp only [Bool.and_eq_false_iff, decide_eq_false_iff_not]
        by_cases d1 : x.length < d.nodes.length
        · by_cases d2 : x.length < 8
          · right; right; omega
          · right; left; omega
        · left; omega)]
      exact ⟨_, rfl, by simp only; omega, h3⟩) F (0, []) ⟨rfl, by simp, by simp, fun n hn => by cases hn⟩ (by simp; omega) with ⟨⟨y, x⟩, e2, h⟩ | ⟨_, _, h⟩
  rotate_left
  · exact h.elim
  obtain ⟨hxl, hxn⟩ := h
  simp only at hxl hxn
  rw [e2]
  simp only [Option.bind_some, Out.on]
  -- the edges
  rcases whileG_inv (body := b5_ref17_Made F t d x) (fun s => (∃ i : Nat, s.1 = (i : Int) ∧ i ≤ 10 ∧ i ≤ d.edges.length ∧ s.2.length ≤ i) ∧ ∀ e ∈ s.2, (0 ≤ e.kind ∧ e.kind < t.edges.length) ∧ (0 ≤ e.src ∧ e.src < x.length) ∧ (0 ≤ e.tgt ∧ e.tgt < x.length)) (fun s => 10 - s.1.toNat)
    (fun s => s.2.length ≤ min d.edges.length 10 ∧ ∀ e ∈ s.2, (0 ≤ e.kind ∧ e.kind < t.edges.length) ∧ (0 ≤ e.src ∧ e.src < x.length) ∧ (0 ≤ e.tgt ∧ e.tgt < x.length)) (fun _ => False) (fun ⟨y, es⟩ ⟨⟨i, h1, h2, h2', h2''⟩, h3⟩ => by
    simp only at h1 h2 h2' h2'' h3
    subst h1
    have hw : IntKind.i64.wrap ((i : Int) + 1) = ((i + 1 : Nat) : Int) := by rw [wrap64_of _ (by omega) (by omega)]; rfl
    unfold b5_ref17_Made
    simp only
    by_cases c : i < d.edges.length ∧ i < 10 ∧ 0 < t.edges.length
    · left
      obtain ⟨c1, c2, c3⟩ := c
      rw [bif_t (by simp only [Bool.and_eq_true, decide_eq_true_eq]; omega), getI_nat, getN_some c1, hw]
      simp only [Option.bind_some]
      rw [nzI_of (by omega)]
      simp only [Option.bind_some]
      have hb := hd.2 _ (List.getElem_mem c1)
      rw [wrap_byte hb.1, wrap_byte hb.2.1, wrap_byte hb.2.2]
      obtain ⟨r1, r2⟩ := tmod_rng hb.1.1 (k := (t.edges.length : Int)) (by omega)
      rw [getI_of r1, getN_some (by omega), nth_eq t.edges _ (by omega)]
      simp only [Option.bind_some]
      obtain ⟨_, s1, s2, _⟩ := ht.ends (Int.tmod d.edges[i].a0 (t.edges.length : Int)).toNat (by omega)
      obtain ⟨l1, m1, m2⟩ := among_some k1 ⟨x, es⟩ hxn (by simp only; omega) (by omega) _ s1.1 F hF
      obtain ⟨l2, m3, m4⟩ := among_some k1 ⟨x, es⟩ hxn (by simp only; omega) (by omega) _ s2.1 F hF
      rw [m1]
      simp only [Option.bind_some]
      rw [m3]
      simp only [Option.bind_some]
      by_cases cc : 0 < l1.length ∧ 0 < l2.length
      · rw [bif_t (by simp only [Bool.and_eq_true, decide_eq_true_eq]; omega), nzI_of (by omega)]
        simp only [Option.bind_some]
        obtain ⟨q1, q2⟩ := tmod_rng hb.2.1.1 (k := (l1.length : Int)) (by omega)
        obtain ⟨q3, q4⟩ := tmod_rng hb.2.2.1 (k := (l2.length : Int)) (by omega)
        rw [getI_of q1, getN_some (by omega)]
        simp only [Option.bind_some]
        rw [nzI_of (by omega)]
        simp only [Option.bind_some]
        rw [getI_of q3, getN_some (by omega)]
        simp only [Option.bind_some]
        rw [catL_of (by simp; omega)]
        refine ⟨_, rfl, ⟨⟨i + 1, rfl, by omega, by omega, by simp; omega⟩, fun e he => ?_⟩, by simp only; omega⟩
        rcases List.mem_append.1 he with he | he
        · exact h3 e he
        · rw [List.mem_singleton.1 he]
          exact ⟨⟨r1, r2⟩, m2 _ (List.getElem_mem _), m4 _ (List.getElem_mem _)⟩
      · rw [bif_f (by
          simp only [Bool.and_eq_false_iff, decide_eq_false_iff_not]
          by_cases d1 : 0 < l1.length
          · right; omega
          · left; omega)]
        exact ⟨_, rfl, ⟨⟨i + 1, rfl, by omega, by omega, by simp only; omega⟩, h3⟩, by simp only; omega⟩
    · right; left
      rw [bif_f (by
        simp only [Bool.and_eq_false_iff, decide_eq_false_iff_not]
        by_cases d1 : i < d.edges.length
        · by_cases d2 : i < 10
          · right; right; omega
          · right; left; omega
        · left; omega)]
      exact ⟨_, rfl, by simp only; omega, h3⟩) F (0, []) ⟨⟨0, rfl, by omega, by omega, by simp⟩, fun n hn => by cases hn⟩ (by simp; omega) with ⟨⟨y, es⟩, e3, h⟩ | ⟨_, _, h⟩
  rotate_left
  · exact h.elim
  rw [e3]
  exact ⟨⟨x, es⟩, rfl, hxn, h.2, hxl, h.1⟩
theorem madeG_valid {t : Types} {g : Graph} {a b : Nat} (ht : MadeT t) (hg : MadeG t g a b) (ha : a ≤ 40) (hb : b ≤ 80) : gvalidF g = 0 ∧ withinF t g = true := by
  have h6 := ht.n6
  have h5 := ht.e5
  have na := hg.na
  have eb := hg.eb
  refine ⟨?_, ?_⟩
  · unfold gvalidF
    rw [if_neg (by omega), if_neg, if_neg]
    · intro h
      obtain ⟨e, he, hf⟩ := List.any_eq_true.1 h
      obtain ⟨q1, q2, q3⟩ := hg.edges e he
      simp [fitsF, kindF] at hf
      omega
    · intro h
      obtain ⟨n, hn, hf⟩ := List.any_eq_true.1 h
      have := hg.nodes n hn
      simp [kindF] at hf
      omega
  · unfold withinF
    simp only [Bool.and_eq_true, Bool.not_eq_true', List.any_eq_false, decide_eq_true_eq]
    exact ⟨fun n hn => by have := hg.nodes n hn; omega, fun e he => by have := (hg.edges e he).1; omega⟩
theorem made_svalid {t : Types} {p g : Graph} {a b c d : Nat} (ht : MadeT t) (hp : MadeG t p a b) (hg : MadeG t g c d) (ha : a ≤ 40) (hb : b ≤ 80) (hc : c ≤ 40) (hd : d ≤ 80) : svalidF t p g = 0 := by
  obtain ⟨p1, p2⟩ := madeG_valid ht hp ha hb
  obtain ⟨g1, g2⟩ := madeG_valid ht hg hc hd
  unfold svalidF
  rw [ht.valid, p1, g1, p2, g2]
  rfl
/-! ### The union -/
theorem numbers_some (a : Int) (n : Nat) (ha : 0 ≤ a) (ha2 : a ≤ 1000) (hn : n ≤ 1000) : ∃ l, s_ref05_Numbers a (n : Int) = some l := by
  unfold s_ref05_Numbers forR
  rw [if_pos (by omega)]
  rcases forN_inv (body := b1_ref05_Numbers a) (fun j l => l.length = j) (fun _ => False) (fun _ => False) ((n : Int).toNat - 0) 0 [] rfl (fun j l h1 h2 h3 => by
    unfold b1_ref05_Numbers
    rw [catL_of (by simp; omega)]
    exact .inl ⟨_, rfl, by simp [h3]⟩) with ⟨l, e, h | h⟩ | ⟨_, _, h⟩
  · rw [e]; exact ⟨l, rfl⟩
  · exact h.elim
  · exact h.elim
theorem union_some {g m : Graph} (hg : gvalidF g = 0) (hm : gvalidF m = 0) (hn : g.nodes.length + m.nodes.length ≤ 40) (he : g.edges.length + m.edges.length ≤ 80) :
    ∃ f h, s_ref05_Union g m = some (⟨g.nodes ++ m.nodes, g.edges ++ m.edges.map fun e => ⟨e.kind, e.src + g.nodes.length, e.tgt + g.nodes.length⟩⟩, f, h, 0) := by
  obtain ⟨_, _, _, g4⟩ := gvalid_ok hm
  unfold s_ref05_Union
  rw [gvalid_some, hg]
  simp only [Option.bind_some, Int.natCast_zero, decide_true, Bool.not_true, cond_false]
  rw [gvalid_some, hm]
  simp only [Option.bind_some, Int.natCast_zero, decide_true, Bool.not_true, cond_false]
  rw [wrap64_of _ (by omega) (by omega), wrap64_of _ (by omega) (by omega), bif_f (by simp; omega)]
  unfold s_ref05_Copied
  rw [catL_of (by simp; omega)]
  simp only [Option.bind_some, List.nil_append]
  rw [catL_of (by simp; omega)]
  simp only [Option.bind_some, List.nil_append]
  rw [catL_of (by omega)]
  simp only [Option.bind_some]
  obtain ⟨e1, e2⟩ := forN_fold (body := b1_ref05_Union g m) (fun j (x : List E3) => x = g.edges ++ (m.edges.take j).map fun e => ⟨e.kind, e.src + g.nodes.length, e.tgt + g.nodes.length⟩) (fun k x => x ++ [⟨(nth m.edges k).kind, (nth m.edges k).src + g.nodes.length, (nth m.edges k).tgt + g.nodes.length⟩]) m.edges.length 0 g.edges (by simp) (fun k x _ hk hx => by
    have hk' : k < m.edges.length := by omega
    have hv := (g4 _ (nth_mem m.edges k hk')).2
    refine ⟨?_, ?_⟩
    · unfold b1_ref05_Union
      rw [getN_some hk', nth_eq m.edges k hk']
      simp only [Option.bind_some]
      rw [wrap64_of _ (by omega) (by omega), wrap64_of _ (by omega) (by omega), catL_of (by rw [hx]; simp; omega)]
      rfl
    · rw [hx, take_nth m.edges k hk']
      simp)
  rw [e1]
  simp only [Option.bind_some, Out.on]
  rw [e2, Nat.zero_add, List.take_of_length_le (Nat.le_refl _)]
  obtain ⟨r1, f1⟩ := numbers_some 0 g.nodes.length (by omega) (by omega) (by omega)
  obtain ⟨r2, f2⟩ := numbers_some 0 g.edges.length (by omega) (by omega) (by omega)
  obtain ⟨r3, f3⟩ := numbers_some (g.nodes.length : Int) m.nodes.length (by omega) (by omega) (by omega)
  obtain ⟨r4, f4⟩ := numbers_some (g.edges.length : Int) m.edges.length (by omega) (by omega) (by omega)
  rw [f1]
  simp only [Option.bind_some]
  rw [f2]
  simp only [Option.bind_some]
  rw [f3]
  simp only [Option.bind_some]
  rw [f4]
  exact ⟨_, _, rfl⟩
/-! ### More matches in a larger graph -/
theorem flatMap_sub {α β : Type} (f g : α → List β) : ∀ (l : List α), (∀ a ∈ l, (f a).Sublist (g a)) → (l.flatMap f).Sublist (l.flatMap g)
  | [], _ => .slnil
  | a :: l, h => by
    rw [List.flatMap_cons, List.flatMap_cons]
    exact (h a (List.mem_cons_self ..)).append (flatMap_sub f g l fun b hb => h b (List.mem_cons_of_mem _ hb))
theorem range_more (a b : Nat) (h : a ≤ b) : ∃ l, List.range b = List.range a ++ l := by
  obtain ⟨c, rfl⟩ : ∃ c, b = a + c := ⟨b - a, by omega⟩
  exact ⟨_, List.range_add⟩
structure Larger (q r : Quest) : Prop where
  p : r.p = q.p
  is : r.is = q.is
  part : r.part = q.part
  inj : r.inj = q.inj
  nodes : ∃ l, r.g.nodes = q.g.nodes ++ l
  edges : ∃ l, r.g.edges = q.g.edges ++ l
theorem nth_left {α : Type} [Inhabited α] (l m : List α) (i : Nat) (h : i < l.length) : nth (l ++ m) i = nth l i := by
  simp only [nth, List.getD_eq_getElem?_getD]
  rw [List.getElem?_append_left h]
theorem larger_E {q r : Quest} (h : Larger q r) (ns : List Int) : ∀ (f : Nat) (es : List Int), (UE q ns f es).Sublist (UE r ns f es)
  | 0, _ => List.Sublist.refl _
  | f + 1, es => by
    obtain ⟨l, hl⟩ := h.edges
    obtain ⟨m, hm⟩ := range_more q.g.edges.length r.g.edges.length (by rw [hl]; simp)
    unfold UE
    rw [hm, List.flatMap_append]
    refine (flatMap_sub _ _ _ fun k hk => ?_).trans (List.sublist_append_left _ _)
    have hk' : k < q.g.edges.length := by simpa using hk
    have e : skipE r ns es k = skipE q ns es k := by
      unfold skipE fitsQ
      rw [h.p, h.part, h.inj, hl, nth_left _ _ k hk']
    rw [e]
    split
    · exact .slnil
    · exact larger_E h ns f _
theorem larger_N {q r : Quest} (h : Larger q r) : ∀ (f : Nat) (ns : List Int), (UN q f ns).Sublist (UN r f ns)
  | 0, ns => by
    unfold UN
    rw [h.p]
    exact larger_E h ns _ _
  | f + 1, ns => by
    obtain ⟨l, hl⟩ := h.nodes
    obtain ⟨m, hm⟩ := range_more q.g.nodes.length r.g.nodes.length (by rw [hl]; simp)
    unfold UN
    rw [hm, List.flatMap_append]
    refine (flatMap_sub _ _ _ fun k hk => ?_).trans (List.sublist_append_left _ _)
    have hk' : k < q.g.nodes.length := by simpa using hk
    have e : skipN r ns k = skipN q ns k := by
      unfold skipN
      simp only
      rw [h.p, h.part, h.inj, h.is, hl, nth_left _ _ k hk']
    rw [e]
    split
    · exact .slnil
    · exact larger_N h f _
theorem contains_some (l : List Morph) (x : Morph) (h : x ∈ l) (hs : ∀ y ∈ l, ∃ b, s_ref06_Same y x = some b) : s_slices_ContainsFunc_Morphism l (fun a0 => s_law17_SearchLarger_c1 a0 x) = some true := by
  unfold s_slices_ContainsFunc_Morphism s_slices_IndexFunc_Morphism
  rcases forN_inv (body := b1_slices_IndexFunc_Morphism l fun a0 => s_law17_SearchLarger_c1 a0 x) (fun j _ => ∀ k, k < j → s_ref06_Same (nth l k) x = some false) (fun _ => False) (fun r => 0 ≤ r) l.length 0 () (fun k hk => by omega) (fun j u h1 h2 h3 => by
    have hj : j < l.length := by omega
    obtain ⟨b, hb⟩ := hs _ (nth_mem l j hj)
    unfold b1_slices_IndexFunc_Morphism s_law17_SearchLarger_c1
    rw [getN_some hj, nth_eq l j hj]
    simp only [Option.bind_some]
    rw [hb]
    simp only [Option.bind_some]
    cases b
    · refine .inl ⟨(), rfl, fun k hk => ?_⟩
      by_cases e : k = j
      · rw [e]; exact hb
      · exact h3 k (by omega)
    · exact .inr (.inr ⟨_, rfl, by omega⟩)) with ⟨_, e, h' | h'⟩ | ⟨r, e, h'⟩
  · obtain ⟨k, hk, hkx⟩ := mem_nth h
    have := h' k (by omega)
    rw [hkx, sameMorph_refl] at this
    cases this
  · exact h'.elim
  · rw [e]
    simp only [Option.bind_some, Out.on]
    simp [h']
theorem same_total (a b : Morph) : ∃ c, s_ref06_Same a b = some c := by
  have hI : ∀ x y : List Int, ∃ c, s_ref02_SameInts x y = some c := fun x y => by
    unfold s_ref02_SameInts
    by_cases hl : x.length = y.length
    · rw [bif_f (by simp [hl])]
      rcases forN_inv (body := b1_ref02_SameInts x y) (fun _ _ => True) (fun _ => False) (fun _ => True) x.length 0 () trivial (fun j u h1 h2 _ => by
        unfold b1_ref02_SameInts
        rw [getN_some (by omega), getN_some (by omega)]
        simp only [Option.bind_some]
        cases (!decide (x[j] = y[j]))
        · exact .inl ⟨_, rfl, trivial⟩
        · exact .inr (.inr ⟨_, rfl, trivial⟩)) with ⟨_, e, _⟩ | ⟨r, e, _⟩
      · rw [e]; exact ⟨_, rfl⟩
      · rw [e]; exact ⟨_, rfl⟩
    · rw [bif_t (by simp [hl])]; exact ⟨_, rfl⟩
  obtain ⟨c, h1⟩ := hI a.nodes b.nodes
  obtain ⟨d, h2⟩ := hI a.edges b.edges
  unfold s_ref06_Same
  rw [h1]
  simp only [Option.bind_some]
  rw [h2]
  cases c <;> exact ⟨_, rfl⟩
/-! ### The law -/
theorem all_made {t : Types} {p g : Graph} (ht : wfTypes t) (h : svalidF t p g = 0) (hp : wfGraph p) (hg : wfGraph g) (inj : Bool) : s_search_All t p g inj = some (allQ (questOf t none p g inj 5001)) := by
  unfold s_search_All
  rw [valid_s ht hp hg, h]
  simp only [Option.bind_some, Int.natCast_zero, decide_true, Bool.not_true, cond_false]
  rw [all_s ht h none inj (fun m e => by cases e)]
  rfl
theorem lawLarger {d : Gscarfjointlaw17_Drafts} {o : Gscarfjointref05_Draft} (h1 : okA2 d.nodes) (h2 : okA2 d.edges) (h3 : okDraft d.p) (h4 : okDraft d.g) (h5 : okDraft o) (inj : Bool) (F : Nat) (hF : 100 < F) : s_law17_SearchLarger F d o inj = some true := by
  unfold s_law17_SearchLarger s_law17_Drafts_parts
  by_cases c : 6 < d.nodes.length ∨ 5 < d.edges.length ∨ 3 < d.p.nodes.length ∨ 3 < d.p.edges.length ∨ 8 < d.g.nodes.length ∨ 10 < d.g.edges.length
  · rw [bif_t (by simp only [Bool.or_eq_true, decide_eq_true_eq]; omega)]
    simp only [Option.bind_some]
    rw [awake_some]
    rfl
  rw [bif_f (by simp only [Bool.or_eq_false_iff, decide_eq_false_iff_not]; omega)]
  obtain ⟨t, e1, ht⟩ := madeT_some d.nodes d.edges (by omega) (by omega) h1 h2 F (by omega)
  obtain ⟨p, e2, hp⟩ := madeG_some ht d.p h3 true F hF
  obtain ⟨g, e3, hg⟩ := madeG_some ht d.g h4 false F hF
  rw [e1]
  simp only [Option.bind_some]
  rw [e2]
  simp only [Option.bind_some]
  rw [e3]
  simp only [Option.bind_some]
  rw [awake_some]
  simp only [Option.bind_some]
  by_cases c2 : 3 < o.nodes.length ∨ 3 < o.edges.length
  · rw [bif_t (by simp only [Bool.or_eq_true, decide_eq_true_eq]; right; right; omega)]
  rw [bif_f (by simp only [Bool.or_eq_false_iff, decide_eq_false_iff_not, Bool.not_true, Bool.not_false]; exact ⟨trivial, trivial, by omega, by omega⟩)]
  obtain ⟨m, e4, hm⟩ := madeG_some ht o h5 false F hF
  rw [e4]
  simp only [Option.bind_some]
  have pn := hp.na
  have pe := hp.eb
  have gn := hg.na
  have ge := hg.eb
  have mn := hm.na
  have me := hm.eb
  obtain ⟨v1, _⟩ := madeG_valid ht hg (by omega) (by omega)
  obtain ⟨v2, _⟩ := madeG_valid ht hm (by omega) (by omega)
  obtain ⟨f, h, e5⟩ := union_some v1 v2 (by omega) (by omega)
  have hu : MadeG t ⟨g.nodes ++ m.nodes, g.edges ++ m.edges.map fun e => ⟨e.kind, e.src + g.nodes.length, e.tgt + g.nodes.length⟩⟩ 40 80 := by
    refine ⟨fun n hn => ?_, fun e he => ?_, by simp only [List.length_append]; omega, by simp only [List.length_append, List.length_map]; omega⟩
    · rcases List.mem_append.1 hn with hn | hn
      · exact hg.nodes n hn
      · exact hm.nodes n hn
    · simp only [List.length_append]
      rcases List.mem_append.1 he with he | he
      · have := hg.edges e he; omega
      · obtain ⟨e', he', rfl⟩ := List.mem_map.1 he
        have := hm.edges e' he'
        simp only
        omega
  rw [e5]
  simp only [Option.bind_some]
  generalize hgg : (⟨g.nodes ++ m.nodes, g.edges ++ m.edges.map fun e => ⟨e.kind, e.src + g.nodes.length, e.tgt + g.nodes.length⟩⟩ : Graph) = u at hu
  have un := hu.na
  have ue := hu.eb
  have w1 : wfGraph p := ⟨by omega, by omega⟩
  have w2 : wfGraph g := ⟨by omega, by omega⟩
  have w3 : wfGraph u := ⟨by omega, by omega⟩
  have s1 := made_svalid ht hp hg (by omega) (by omega) (by omega) (by omega)
  have s2 := made_svalid ht hp hu (by omega) (by omega) (by omega) (by omega)
  rw [all_made ht.wf s1 w1 w2 inj, all_made ht.wf s2 w1 w3 inj]
  simp only [Option.bind_some]
  have hL : Larger (questOf t none p g inj 5001) (questOf t none p u inj 5001) := ⟨rfl, rfl, rfl, rfl, ⟨m.nodes, by rw [← hgg]; rfl⟩, ⟨_, by rw [← hgg]; rfl⟩⟩
  have hsub := larger_N hL p.nodes.length []
  obtain ⟨_, k1, _⟩ := okq_of s1 none inj 5001 (by omega) (fun m e => by cases e)
  obtain ⟨_, k2, _⟩ := okq_of s2 none inj 5001 (by omega) (fun m e => by cases e)
  have f1 : foundQ (questOf t none p g inj 5001) = (UN (questOf t none p g inj 5001) p.nodes.length []).take 5001 := foundQ_UN _ k1.1
  have f2 : foundQ (questOf t none p u inj 5001) = (UN (questOf t none p u inj 5001) p.nodes.length []).take 5001 := foundQ_UN _ k2.1
  unfold allQ
  rw [f1, f2]
  generalize UN (questOf t none p g inj 5001) p.nodes.length [] = A at hsub
  generalize UN (questOf t none p u inj 5001) p.nodes.length [] = B at hsub
  have hle := hsub.length_le
  by_cases c3 : 5000 < (B.take 5001).length
  · rw [if_pos c3]
    by_cases c4 : 5000 < (A.take 5001).length
    · rw [if_pos c4]; rfl
    · rw [if_neg c4]; rfl
  · rw [if_neg c3]
    rw [List.length_take] at c3
    have hA : A.take 5001 = A := List.take_of_length_le (by omega)
    have hB : B.take 5001 = B := List.take_of_length_le (by omega)
    rw [hA, hB, if_neg (by omega)]
    simp only [decide_true, Bool.not_true, Bool.or_self, cond_false]
    rw [forN_hit (fun _ => none) _ _ fun k _ hk _ => by
      have hk' : k < A.length := by omega
      unfold b1_law17_SearchLarger
      rw [getN_some hk']
      simp only [Option.bind_some]
      rw [contains_some B _ (hsub.subset (List.getElem_mem hk')) (fun y _ => same_total y _)]
      simp [ctO]]
    rw [hitF_none.2 fun _ _ _ => rfl]
    rfl
end Go.Proofs.Ytdacgjleiloooaa
