/-
  A law's frame: plain arguments opened to values by content, and read again behind the call. Nothing here is about one program.
-/
import Derived.Test.YtippinddoldhkaaGreatB2
import Derived.ProofKit
import Derived.OpenShut
import Derived.ShutString
import Derived.ChangeOld
import Derived.ChangeSame
import Derived.Below
import Derived.Deep.Slices
import Derived.Deep.Fields
import Derived.SizedLaws
set_option linter.unusedSimpArgs false
set_option linter.unusedVariables false
namespace Go.Ew
open Go Go.RowKit Go.ChangeShapes Go.WideShapes

/-! ### Plain types: numbers, truth values, strings, slices and structs of them -/
def plainDB (P : Program) : Nat → TypeId → Bool
  | 0, _ => false
  | d + 1, t => match P.underlying t with
    | some .bool => true
    | some (.int _) => true
    | some .string => true
    | some (.slice e) => decide (0 < P.cellsOf e) && plainDB P d e
    | some (.struct fs) => fs.toList.all fun f => plainDB P d f.type
    | some (.array _ e) => plainDB P d e
    | _ => false

section
variable {H : Type} {enc : TypeId × Value → H} {P : Program} {W W' : World} {sp : Nat → Bool}

theorem blk_add (a : Addr) (n : Nat) : (a.add n).block = a.block := by unfold Addr.add; split <;> rfl
theorem mapM_of_get {α β : Type} {f : α → Option β} : ∀ (l : List α) (r : List β), r.length = l.length → (∀ (i : Nat) (a : α), l[i]? = some a → f a = r[i]?) → l.mapM f = some r
  | [], r, h, _ => by
    have : r = [] := List.eq_nil_of_length_eq_zero (by simpa using h)
    subst this; rfl
  | a :: l, [], h, _ => by simp at h
  | a :: l, b :: r, h, hg => by
    have h0 := hg 0 a rfl
    simp only [List.getElem?_cons_zero] at h0
    rw [List.mapM_cons, h0]
    have := mapM_of_get l r (by simpa using h) fun i c hc => by
      have := hg (i + 1) c (by simpa using hc)
      simpa using this
    simp [this]
theorem mapM_range {β : Type} {f : Nat → Option β} {n : Nat} {r : List β} (hl : r.length = n) (h : ∀ i, i < n → f i = r[i]?) : (List.range n).mapM f = some r :=
  mapM_of_get _ _ (by simp [hl]) fun i a hi => by
    have hlt : i < n := by simpa using (List.getElem?_eq_some_iff.1 hi).1
    rw [List.getElem?_range hlt] at hi
    cases hi
    exact h i hlt
theorem cells_again (hb : Below W.heap.size W W') {a : Addr} {n : Nat} {cs : List Value} (h : W.cells? 0 a n = some cs) (hn : 0 < n) : W'.cells? 0 a n = some cs := by
  have hlt := World.cells?_block h hn
  have e : W'.cells? 0 a n = W.cells? 0 a n := by
    unfold World.cells?
    have : (fun i => W'.cell? (a.add i)) = fun i => W.cell? (a.add i) := funext fun i => Below.cell hb (by rw [blk_add]; exact hlt)
    rw [this]
  rw [e, h]

/-- What was read of plain arguments is read again where the old memory is as it was. -/
theorem trod_again (hb : Below W.heap.size W W') : ∀ (d fuel : Nat) (t : TypeId) (cs : List Value) (x : DataW H × List MemPlace), plainDB P d t = true → DataW.trod enc P W 0 (fun _ => true) true fuel t cs = some x → (∀ p ∈ x.2, sp p.block = true) →
    DataW.trod enc P W' 0 sp true fuel t cs = some x
  | 0, _, _, _, _, hp, _, _ => by cases hp
  | d + 1, 0, _, _, _, _, h, _ => by simp [DataW.trod] at h
  | d + 1, fuel + 1, t, cs, x, hp, h, hsp => by
    unfold plainDB at hp
    cases hu : P.underlying t with
    | none => rw [hu] at hp; cases hp
    | some u =>
      rw [hu] at hp
      cases u with
      | bool =>
        obtain ⟨b, rfl, rfl⟩ := DataW.trod_bool hu h
        simp [DataW.trod, hu]
      | int k =>
        obtain ⟨n, rfl, rfl, hw⟩ := DataW.trod_int hu h
        simp [DataW.trod, hu, hw]
      | string =>
        obtain ⟨s, rfl, rfl, hs⟩ := DataW.trod_string hu h
        simp [DataW.trod, hu, hs]
      | slice e =>
        simp only [Bool.and_eq_true, decide_eq_true_eq] at hp
        rcases DataW.trod_slice hu h with ⟨rfl, rfl⟩ | ⟨a, len, cap, elems, rest, n, hn, rfl, rfl, _, hl, hm, hlen, hel, hsp1, _⟩
        · simp [DataW.trod, hu]
        · simp only [Nat.add_right_cancel_iff] at hn
          subst hn
          obtain ⟨hr1, hr2⟩ := hsp1 rfl
          have hin : ∀ y ∈ elems ++ rest, ∀ p ∈ y.2, sp p.block = true := fun y hy p hp' => hsp p (by
            simp only [List.mem_append, List.mem_flatMap]
            exact .inr ⟨y, by simpa using hy, hp'⟩)
          have step : ∀ (i : Nat) (o : Option (DataW H × List MemPlace)) (y : DataW H × List MemPlace), o = some y → y ∈ elems ++ rest → (W.cells? 0 (a.add (i * P.cellsOf e)) (P.cellsOf e)).bind (DataW.trod enc P W 0 (fun _ => true) true fuel e) = o →
              (W'.cells? 0 (a.add (i * P.cellsOf e)) (P.cellsOf e)).bind (DataW.trod enc P W' 0 sp true fuel e) = o := fun i o y ho hy hi => by
            rw [ho] at hi ⊢
            obtain ⟨cs', k1, k2⟩ := Option.bind_eq_some_iff.1 hi
            rw [cells_again hb k1 hp.1]
            exact trod_again hb d fuel e cs' y hp.2 k2 (hin y hy)
          have e1 := mapM_range hlen fun i hi => step i _ _ (List.getElem?_eq_getElem (by omega)) (List.mem_append_left _ (List.getElem_mem (by omega))) (hel i hi)
          have e2 := mapM_range hr1 fun j hj => step (len + j) _ _ (List.getElem?_eq_getElem (by omega)) (List.mem_append_right _ (List.getElem_mem (by omega))) (hr2 j hj)
          have e3 : (if sp a.block = true then (List.range (cap - len)).mapM fun j => (W'.cells? 0 (a.add ((len + j) * P.cellsOf e)) (P.cellsOf e)).bind (DataW.trod enc P W' 0 sp true fuel e) else some []) = some rest := by
            by_cases hs : sp a.block = true
            · rw [if_pos hs]; exact e2
            · rw [if_neg hs]
              cases rest with
              | nil => rfl
              | cons y rest =>
                exfalso
                apply hs
                have : MemPlace.cell a.block (a.off + 0) ∈ MemPlace.row a ((elems.length + (y :: rest).length) * P.cellsOf e) := by
                  unfold MemPlace.row
                  refine List.mem_map.2 ⟨0, ?_, rfl⟩
                  rw [List.mem_range]
                  exact Nat.mul_pos (by simp only [List.length_cons]; omega) hp.1
                exact hsp _ (List.mem_append_left _ this)
          simp only [DataW.trod, hu]
          rw [if_pos ⟨Nat.zero_le _, hl, hm⟩, e1]
          simp only [Option.bind_some]
          rw [e3]
          rfl
      | struct fs =>
        obtain ⟨xs, n, hn, rfl, hl, hxl, hg⟩ := DataW.trod_struct hu h
        simp only [Nat.add_right_cancel_iff] at hn
        subst hn
        have e1 : fs.toList.mapM (fun f => DataW.trod enc P W' 0 sp true fuel f.type ((cs.drop f.offset).take (P.cellsOf f.type))) = some xs := mapM_of_get _ _ (by simpa using hxl) fun i f hf => by
          have hf' : fs[i]? = some f := by simpa using hf
          have hi : i < xs.length := by rw [hxl]; exact (Array.getElem?_eq_some_iff.1 hf').1
          rw [List.getElem?_eq_getElem hi]
          refine trod_again hb d fuel f.type _ _ (List.all_eq_true.1 hp f (List.mem_of_getElem? hf)) ?_ fun p hp' => hsp p (List.mem_flatMap.2 ⟨_, List.getElem_mem hi, hp'⟩)
          rw [hg i f hf', List.getElem?_eq_getElem hi]
        simp only [DataW.trod, hu]
        rw [if_pos hl, e1]
        rfl
      | array k e =>
        obtain ⟨xs, n, hn, rfl, hl, hxl, hg⟩ := DataW.trod_array hu h
        simp only [Nat.add_right_cancel_iff] at hn
        subst hn
        have e1 : (List.range k).mapM (fun i => DataW.trod enc P W' 0 sp true fuel e ((cs.drop (i * P.cellsOf e)).take (P.cellsOf e))) = some xs := mapM_range hxl fun i hi => by
          have hi' : i < xs.length := by rw [hxl]; exact hi
          rw [List.getElem?_eq_getElem hi']
          refine trod_again hb d fuel e _ _ hp ?_ fun p hp' => hsp p (List.mem_flatMap.2 ⟨_, List.getElem_mem hi', hp'⟩)
          rw [hg i hi, List.getElem?_eq_getElem hi']
        simp only [DataW.trod, hu]
        rw [if_pos hl, e1]
        rfl
      | _ => cases hp
theorem trodAll_again (hb : Below W.heap.size W W') (d : Nat) : ∀ (ts : List TypeId) (vs : List Value) (ds : List (DataW H)) (ps : List MemPlace), ts.all (plainDB P d) = true → DataW.TrodAll enc P W 0 (fun _ => true) true ts vs ds ps → (∀ p ∈ ps, sp p.block = true) → DataW.TrodAll enc P W' 0 sp true ts vs ds ps
  | [], vs, ds, ps, _, h, _ => by obtain ⟨rfl, rfl, rfl⟩ := trodAll_nil h; rfl
  | t :: ts, vs, ds, ps, hp, h, hsp => by
    obtain ⟨v, vs', d0, ds', p, q, rfl, rfl, rfl, ⟨fuel, h1⟩, h2⟩ := trodAll_cons h
    simp only [List.all_cons, Bool.and_eq_true] at hp
    exact ⟨p, q, ⟨fuel, trod_again hb d fuel t _ _ hp.1 h1 fun x hx => hsp x (List.mem_append_left _ hx)⟩, trodAll_again hb d ts vs' ds' q hp.2 h2 fun x hx => hsp x (List.mem_append_right _ hx), rfl⟩
end

/-! ### Opening -/
/-- A measure of data that counts what it holds. -/
structure BulkM (m : (H : Type) → DataW H → Nat) : Prop where
  lit : ∀ (H : Type) (l : Lit), 1 ≤ m H (.lit l)
  str : ∀ (H : Type) (l : List UInt8), l.length + 1 ≤ m H (.lit (.string l))
  nil : ∀ (H : Type), 1 ≤ m H .nil
  slice : ∀ (H : Type) (es rest : List (DataW H)), (es.map (m H)).sum + 1 ≤ m H (.slice es rest)
  agg : ∀ (H : Type) (es : List (DataW H)), (es.map (m H)).sum + 1 ≤ m H (.agg es)
/-- No string, no slice of a datum weighs more than the reach. -/
def LightW (P : Program) (t : TypeId) {H : Type} (d : DataW H) : Prop := ∀ n ∈ d.weights P t, n ≤ reachBytes
/-- A datum of type t is an 'a', by content the cells 'f a', of size 'z a'. -/
def Opens (P : Program) (t : TypeId) {α : Type} (f : α → List AV) (wf : α → Prop) (z : α → Nat) : Prop :=
  ∀ (H : Type) (enc : TypeId × Value → H) (W : World) (fuel : Nat) (cs : List Value) (x : DataW H × List MemPlace), DataW.trod enc P W 0 (fun _ => true) true fuel t cs = some x → LightW P t x.1 →
    ∃ a, wf a ∧ RvL (fun _ => 0) Mem.empty W (f a) cs ∧ (∀ v ∈ cs, v.oneCell' = true) ∧ ∀ m, BulkM m → z a ≤ m H x.1

section
variable {P : Program} {W : World}
theorem rvL_one {x : AV} {v : Value} (h : RvM (fun _ => 0) Mem.empty W x v) : RvL (fun _ => 0) Mem.empty W [x] [v] := by
  refine ⟨rfl, fun j y u hy hu => ?_⟩
  match j with
  | 0 => simp at hy hu; subst hy; subst hu; exact h
  | j + 1 => simp at hy
theorem opens_int {t : TypeId} {k : IntKind} (ht : P.underlying t = some (.int k)) : Opens P t (fun n : Int => [.lit (.int k n)]) (fun n => (Lit.int k n).wf = true) (fun _ => 1) := by
  intro H enc W fuel cs x h _
  obtain ⟨n, rfl, rfl, hw⟩ := DataW.trod_int ht h
  exact ⟨n, hw, rvL_one (.lit _), by simp [Value.oneCell'], fun m hm => hm.lit H _⟩
theorem exists_list {α : Type} {p : Nat → α → Prop} : ∀ n, (∀ i, i < n → ∃ a, p i a) → ∃ l : List α, l.length = n ∧ ∀ (i : Nat) (a : α), l[i]? = some a → p i a
  | 0, _ => ⟨[], rfl, fun i a h => by simp at h⟩
  | n + 1, h => by
    obtain ⟨l, hl, hp⟩ := exists_list n fun i hi => h i (by omega)
    obtain ⟨a, ha⟩ := h n (by omega)
    refine ⟨l ++ [a], by simp [hl], fun i b hb => ?_⟩
    by_cases hi : i < n
    · rw [List.getElem?_append_left (by omega)] at hb
      exact hp i b hb
    · rw [List.getElem?_append_right (by omega)] at hb
      have : i - l.length = 0 := by
        have := (List.getElem?_eq_some_iff.1 hb).1
        simp at this; omega
      rw [this] at hb
      simp at hb
      subst hb
      have : i = n := by omega
      subst this
      exact ha
theorem getElem?_flatMap {α : Type} {f : α → List AV} {sz : Nat} (hf : ∀ a, (f a).length = sz) (l : List α) (i r : Nat) (hi : i < l.length) (hr : r < sz) : (l.flatMap f)[i * sz + r]? = (f l[i])[r]? := by
  rw [← List.getElem?_drop, drop_flatMap hf l i hi, List.getElem?_append_left (by rw [hf]; exact hr)]
theorem sum_le {α β : Type} {f : α → Nat} {g : β → Nat} : ∀ (l : List α) (r : List β), l.length = r.length → (∀ (i : Nat) (a : α) (b : β), l[i]? = some a → r[i]? = some b → f a ≤ g b) → (l.map f).sum ≤ (r.map g).sum
  | [], [], _, _ => Nat.le_refl _
  | [], _ :: _, h, _ => by simp at h
  | _ :: _, [], h, _ => by simp at h
  | a :: l, b :: r, h, hp => by
    have h1 := hp 0 a b rfl rfl
    have h2 := sum_le l r (by simpa using h) fun i c d hc hd => hp (i + 1) c d (by simpa using hc) (by simpa using hd)
    simp only [List.map_cons, List.sum_cons]
    omega
theorem weightsAll_mem {H : Type} {e : TypeId} : ∀ {ds : List (DataW H)} {d : DataW H}, d ∈ ds → ∀ n ∈ d.weights P e, n ∈ DataW.weightsAll P e ds
  | d0 :: ds, d, hd, n, hn => by
    simp only [DataW.weightsAll, List.mem_append]
    rcases List.mem_cons.1 hd with rfl | hd
    · exact .inl hn
    · exact .inr (weightsAll_mem hd n hn)
theorem opens_slice {t e : TypeId} {α : Type} {f : α → List AV} {wf : α → Prop} {z : α → Nat} {sz B : Nat} (ht : P.underlying t = some (.slice e)) (hB : P.bytesOf e = B) (hsz : P.cellsOf e = sz) (hpos : 0 < sz) (hf : ∀ a, (f a).length = sz) (he : Opens P e f wf z) :
    Opens P t (fun l : List α => [.imm l.length (l.flatMap f)]) (fun l => l.length * B ≤ reachBytes ∧ ∀ a ∈ l, wf a) (fun l => (l.map z).sum + 1) := by
  intro H enc W fuel cs x h hw
  rcases Go.Deep.open_slice ht h with ⟨rfl, rfl⟩ | ⟨ad, len, cap, m, n, D, Pl, rfl, _, hl, hm, hmm, rfl, hi⟩
  · exact ⟨[], ⟨by simp, by simp⟩, rvL_one (.imm0 none 0 (Nat.zero_le _)), by simp [Value.oneCell'], fun m hm => by simpa using hm.nil H⟩
  · simp only [if_true] at hmm
    subst hmm
    obtain ⟨l, hll, hp⟩ := exists_list (p := fun i a => wf a ∧ (∀ m, BulkM m → z a ≤ m H (D i)) ∧ ∃ cs', W.cells? 0 (ad.add (i * sz)) sz = some cs' ∧ RvL (fun _ => 0) Mem.empty W (f a) cs' ∧ ∀ v ∈ cs', v.oneCell' = true) len fun i hil => by
      obtain ⟨cs', h1, h2⟩ := hi i (by omega)
      rw [hsz] at h1
      obtain ⟨a, h3, h4, h5, h6⟩ := he H enc W n cs' _ h2 fun k hk => hw k (by
        simp only [DataW.weights, ht, List.mem_cons, List.mem_append]
        exact .inr (.inl (weightsAll_mem (List.mem_map.2 ⟨i, by simpa using hil, rfl⟩) k hk)))
      exact ⟨a, h3, h6, cs', h1, h4, h5⟩
    have hlenB : l.length * B ≤ reachBytes := by
      have h1 := hw ((len + (m - len)) * P.bytesOf e) (by simp [DataW.weights, ht])
      rw [hB] at h1
      rw [hll]
      exact Nat.le_trans (Nat.mul_le_mul_right B (Nat.le_add_right len (m - len))) h1
    refine ⟨l, ⟨hlenB, fun a ha => ?_⟩, rvL_one ?_, by simp [Value.oneCell'], fun mm hmm => ?_⟩
    · obtain ⟨i, hia⟩ := List.getElem?_of_mem ha
      exact (hp i a hia).1
    · by_cases h0 : len = 0
      · have : l = [] := List.eq_nil_of_length_eq_zero (by omega)
        subst this
        rw [h0]
        exact .imm0 _ _ hm
      · have hlen : (l.flatMap f).length = l.length * sz := length_flatMap hf l
        have hcell : ∀ (i r : Nat) (hi : i < l.length), r < sz → ∃ (y : AV) (u : Value), (f l[i])[r]? = some y ∧ W.cell? (ad.add (i * sz + r)) = some u ∧ u.oneCell' = true ∧ RvM (fun _ => 0) Mem.empty W y u := fun i r hi hr => by
          obtain ⟨_, _, cs', h1, h2, h3⟩ := hp i l[i] (List.getElem?_eq_getElem hi)
          obtain ⟨_, h4, h5⟩ := World.cells?_some h1
          have hrl : r < (f l[i]).length := by rw [hf]; exact hr
          refine ⟨(f l[i])[r], cs'[r]'(by omega), List.getElem?_eq_getElem hrl, ?_, h3 _ (List.getElem_mem _), h2.2 r _ _ (List.getElem?_eq_getElem hrl) (List.getElem?_eq_getElem (by omega))⟩
          have := h5 r hr
          rw [Go.Deep.add_add, List.getElem?_eq_getElem (by omega)] at this
          exact this
        have split_ : ∀ j, j < l.length * sz → j / sz < l.length ∧ j % sz < sz ∧ j / sz * sz + j % sz = j := fun j hj =>
          ⟨(Nat.div_lt_iff_lt_mul hpos).2 hj, Nat.mod_lt _ hpos, by rw [Nat.mul_comm]; exact Nat.div_add_mod j sz⟩
        have hblk : ad.block < W.heap.size := by
          obtain ⟨_, _, cs', h1, _⟩ := hp 0 (l[0]'(by omega)) (List.getElem?_eq_getElem (by omega))
          have := World.cells?_block h1 hpos
          rw [blk_add] at this
          exact this
        rw [← hll]
        refine .imm _ _ ad _ (fun j => (W.cell? (ad.add j)).getD Go.undef) (fun j hj => ?_) (fun j y hy => ?_) (by rintro ⟨id, hid, _⟩; cases hid) hblk (by omega) hm
        · obtain ⟨k1, k2, k3⟩ := split_ j (by omega)
          obtain ⟨y, u, _, h2, h3, _⟩ := hcell (j / sz) (j % sz) k1 k2
          rw [k3] at h2
          simp [h2, h3]
        · have hj : j < l.length * sz := by rw [← hlen]; exact (List.getElem?_eq_some_iff.1 hy).1
          obtain ⟨k1, k2, k3⟩ := split_ j hj
          obtain ⟨z, u, h1, h2, _, h4⟩ := hcell (j / sz) (j % sz) k1 k2
          have := getElem?_flatMap hf l (j / sz) (j % sz) k1 k2
          rw [k3] at this h2
          rw [this, h1] at hy
          cases hy
          simp only [h2, Option.getD_some]
          exact h4
    · have h1 := hmm.slice H ((List.range len).map D) ((List.range (m - len)).map fun j => D (len + j))
      have h2 := sum_le (f := z) (g := mm H) l ((List.range len).map D) (by simp [hll]) fun i a b ha hb => by
        have hlt : i < len := by have := (List.getElem?_eq_some_iff.1 ha).1; omega
        rw [List.getElem?_map, List.getElem?_range hlt] at hb
        simp only [Option.map_some, Option.some.injEq] at hb
        subst hb
        exact (hp i a ha).2.1 mm hmm
      exact Nat.le_trans (Nat.add_le_add_right h2 1) h1
/-- A struct's fields from 'off' on. -/
def OpensFs (P : Program) (fs : List Field) (off : Nat) {α : Type} (f : α → List AV) (wf : α → Prop) (z : α → Nat) : Prop :=
  ∀ (H : Type) (enc : TypeId × Value → H) (W : World) (n : Nat) (cs : List Value) (ys : List (DataW H × List MemPlace)), ys.length = fs.length →
    (∀ (i : Nat) (q : Field), fs[i]? = some q → DataW.trod enc P W 0 (fun _ => true) true n q.type ((cs.drop q.offset).take (P.cellsOf q.type)) = ys[i]?) → (∀ n ∈ DataW.weightsEach P (fs.map (·.type)) (ys.map (·.1)), n ≤ reachBytes) → cs.length = off + (fs.map fun q => P.cellsOf q.type).sum →
    ∃ a, wf a ∧ RvL (fun _ => 0) Mem.empty W (f a) (cs.drop off) ∧ (∀ v ∈ cs.drop off, v.oneCell' = true) ∧ ∀ m, BulkM m → z a ≤ (ys.map fun y => m H y.1).sum
theorem opensFs_nil (off : Nat) : OpensFs P [] off (fun _ : Unit => []) (fun _ => True) (fun _ => 0) := by
  intro H enc W n cs ys _ _ _ hl
  have : cs.drop off = [] := List.drop_eq_nil_of_le (by simp at hl; omega)
  exact ⟨(), trivial, by rw [this]; exact rvL_nil, by simp [this], fun _ _ => Nat.zero_le _⟩
theorem opensFs_cons {q : Field} {fs : List Field} {off sz : Nat} {α β : Type} {f : α → List AV} {wf : α → Prop} {z : α → Nat} {g : β → List AV} {wg : β → Prop} {zg : β → Nat} (ho : q.offset = off) (hs : P.cellsOf q.type = sz) (h : Opens P q.type f wf z) (k : OpensFs P fs (off + sz) g wg zg) :
    OpensFs P (q :: fs) off (fun a : α × β => f a.1 ++ g a.2) (fun a => wf a.1 ∧ wg a.2) (fun a => z a.1 + zg a.2) := by
  intro H enc W n cs ys hyl ht hw hl
  match ys, hyl with
  | y :: ys, hyl =>
    simp only [List.map_cons, DataW.weightsEach, List.mem_append] at hw
    have hy := ht 0 q rfl
    rw [ho, hs] at hy
    obtain ⟨a, h1, h2, h3, h4⟩ := h H enc W n _ y (by simpa using hy) (fun k hk => hw k (.inl hk))
    obtain ⟨b, k1, k2, k3, k4⟩ := k H enc W n cs ys (by simpa using hyl) (fun i r hr => by simpa using ht (i + 1) r (by simpa using hr)) (fun k hk => hw k (.inr hk)) (by simp [hs] at hl; omega)
    have e : cs.drop off = (cs.drop off).take sz ++ cs.drop (off + sz) := by rw [← List.drop_drop, List.take_append_drop]
    refine ⟨(a, b), ⟨h1, k1⟩, by rw [e]; exact rvL_append h2 k2, fun v hv => ?_, fun m hm => ?_⟩
    · rw [e] at hv
      rcases List.mem_append.1 hv with hv | hv
      · exact h3 v hv
      · exact k3 v hv
    · have := h4 m hm
      have := k4 m hm
      simp only [List.map_cons, List.sum_cons]
      omega
theorem opens_struct {t : TypeId} {fs : Array Field} {α : Type} {f : α → List AV} {wf : α → Prop} {z : α → Nat} (ht : P.underlying t = some (.struct fs)) (hs : P.cellsOf t = (fs.toList.map fun q => P.cellsOf q.type).sum) (h : OpensFs P fs.toList 0 f wf z) :
    Opens P t f wf (fun a => z a + 1) := by
  intro H enc W fuel cs x hx hw
  obtain ⟨xs, n, rfl, rfl, hlen, hxl, hg⟩ := DataW.trod_struct ht hx
  obtain ⟨a, h1, h2, h3, h4⟩ := h H enc W n cs xs (by simpa using hxl) (fun i q hq => hg i q (by simpa using hq)) (fun k hk => hw k (by simpa [DataW.weights, ht] using hk)) (by rw [hlen, hs]; omega)
  refine ⟨a, h1, by simpa using h2, by simpa using h3, fun m hm => ?_⟩
  have k1 := h4 m hm
  have k2 := hm.agg H (xs.map (·.1))
  rw [List.map_map] at k2
  have e : (xs.map (m H ∘ fun x => x.1)) = xs.map fun y => m H y.1 := rfl
  rw [e] at k2
  exact Nat.le_trans (Nat.add_le_add_right k1 1) k2
theorem Opens.map {t : TypeId} {α β : Type} {f : α → List AV} {wf : α → Prop} {z : α → Nat} {g : β → List AV} {wg : β → Prop} {zg : β → Nat} (h : Opens P t f wf z) (hm : ∀ a, wf a → ∃ b, wg b ∧ g b = f a ∧ zg b ≤ z a) : Opens P t g wg zg := by
  intro H enc W fuel cs x hx hw
  obtain ⟨a, h1, h2, h3, h4⟩ := h H enc W fuel cs x hx hw
  obtain ⟨b, k1, k2, k3⟩ := hm a h1
  exact ⟨b, k1, by rw [k2]; exact h2, h3, fun m hm => Nat.le_trans k3 (h4 m hm)⟩

/-! ### Arguments -/
/-- A type of one cell: a slice, a number, a string, a truth value. -/
def oneT (P : Program) (t : TypeId) : Bool := match P.underlying t with
  | some .bool => true
  | some (.int _) => true
  | some .string => true
  | some (.slice _) => true
  | _ => false
theorem cells_oneT {t : TypeId} (ht : oneT P t = true) {r : Reach} {b : Nat} {v : Value} (h : Value.okWide P W r b t v) : v.cells.toList = [v] := by
  unfold oneT at ht
  cases hu : P.underlying t with
  | none => rw [hu] at ht; cases ht
  | some u =>
    rw [hu] at ht
    simp only [Value.okWide, hu, Cell.okWide, Cell.ok] at h
    cases u <;> simp only at ht <;> first | (cases ht; done) | skip
    all_goals
      cases v <;> first | rfl | (simp at h; done)
theorem Opens.arg {t : TypeId} {α : Type} {f : α → AV} {wf : α → Prop} {z : α → Nat} (h : Opens P t (fun a => [f a]) wf z) (ht : oneT P t = true) {r : Reach} {b : Nat} {v : Value} (hv : Value.okWide P W r b t v) {H : Type} {enc : TypeId × Value → H} {d : DataW H} {p : List MemPlace} (hd : DataW.Trod enc P W 0 (fun _ => true) true t v d p) (hw : LightW P t d) :
    ∃ a, wf a ∧ RvM (fun _ => 0) Mem.empty W (f a) v ∧ ∀ m, BulkM m → z a ≤ m H d := by
  obtain ⟨fuel, hf⟩ := hd
  rw [cells_oneT ht hv] at hf
  obtain ⟨a, h1, h2, _, h4⟩ := h H enc W fuel _ _ hf hw
  exact ⟨a, h1, h2.2 0 _ v rfl rfl, h4⟩
theorem rvL_cons {x : AV} {v : Value} {xs : List AV} {vs : List Value} (h : RvM (fun _ => 0) Mem.empty W x v) (k : RvL (fun _ => 0) Mem.empty W xs vs) : RvL (fun _ => 0) Mem.empty W (x :: xs) (v :: vs) := by
  have := rvL_append (rvL_one h) k
  exact this
end

/-! ### The row's last step -/
section
variable {H : Type} {enc : TypeId × Value → H} {P : Program}
theorem post_of_below {f : Func} {s : ChangeSpec} {apart fresh handsOn again : Bool} {W W' : World} {args : Array Value} {v : Value} {ds gs : List (DataW H)} {before pa pv : List MemPlace}
    (hW : DataW.Whole enc P f.params.toList s.vars apart W args.toList ds gs before)
    (hres : ∀ (b : Nat) (sp : Nat → Bool) (hd : Bool), DataW.TrodAll enc P W' b sp hd f.resultTypes.toList (v.resultList f.resultTypes.size) (s.fn H (ds ++ gs)).results [])
    (hargs : ∀ sp : Nat → Bool, (∀ p ∈ before, sp p.block = true) → DataW.TrodAll enc P W' 0 sp true f.params.toList args.toList (s.fn H (ds ++ gs)).args pa)
    (hvars : ∀ sp : Nat → Bool, (∀ p ∈ before, sp p.block = true) → DataW.TrodVars enc P W' sp s.vars (s.fn H (ds ++ gs)).vars pv)
    (hps : before = pa ++ pv) (hb : Below W.heap.size W W')
    (hok : ∀ (j : Nat) (t : TypeId) (r : Value), f.resultTypes[j]? = some t → (v.resultList f.resultTypes.size)[j]? = some r → Value.okWide P W' .any 0 t r) :
    s.post enc P f apart fresh handsOn again W args v W' := by
  have hlt : ∀ p ∈ before, p.block < W.heap.size := fun p hp => hW.lt p hp
  have hold : ∀ p ∈ before, (fun b => decide (b < W.heap.size)) p.block = true := fun p hp => by simpa using hlt p hp
  refine ⟨ds, gs, before, [], pa, pv, hW, hres _ _ _, hargs _ hold, hvars _ hold, World.keptBut_mono (fun p hp => ⟨hp, ?_⟩) (hb.frame (· ∈ before)), fun _ => ?_⟩
  · rw [hps, List.mem_append] at hp
    exact Or.inr hp
  · obtain ⟨_, _, _, _, _, hz, hn⟩ := hW
    refine ⟨hok, _, _, ([] ++ pa) ++ pv, ⟨[] ++ pa, pv, trodAll_append (hargs _ (fun _ _ => rfl)) (hres _ _ _), hvars _ (fun _ _ => rfl), rfl, ?_, ?_⟩, ?_⟩
    · intro b off hp
      have hin : MemPlace.cell b off ∈ before := by rw [hps]; simpa using hp
      rw [hb.frozen (hlt _ hin)]
      exact hz b off hin
    · intro ha
      have := hn ha
      rw [hps] at this
      simpa using this
    · intro p hp _
      rw [hps]
      simpa using hp
/-- A LAW's row: plain arguments, no variables, the result 'true', the arguments read again. -/
theorem post_law {f : Func} {s : ChangeSpec} {fresh handsOn again : Bool} {W W' : World} {args : Array Value} {v : Value} {ds gs : List (DataW H)} {before : List MemPlace} {tb : TypeId} (d : Nat)
    (hW : DataW.Whole enc P f.params.toList s.vars false W args.toList ds gs before) (hv : s.vars = []) (hp : f.params.toList.all (plainDB P d) = true) (hr : f.resultTypes = #[tb]) (htb : P.underlying tb = some .bool)
    (hfn : s.fn H ds = { results := [.lit (.bool true)], args := ds }) (he : v = .bool true) (hb : Below W.heap.size W W') : s.post enc P f false fresh handsOn again W args v W' := by
  have hW0 := hW
  obtain ⟨p, q, hA, hV, rfl, _, _⟩ := hW
  rw [hv] at hV
  obtain ⟨rfl, rfl⟩ := trodVars_none hV
  rw [List.append_nil] at hW0
  subst he
  refine post_of_below (pa := p) (pv := []) hW0 ?_ ?_ ?_ (by simp) hb ?_
  · intro b sp hd
    rw [List.append_nil, hfn, hr]
    exact trodAll_cons_mk (shut_bool htb _) trodAll_mk0
  · intro sp hsp
    rw [List.append_nil, hfn]
    exact trodAll_again hb d _ _ _ _ hp hA hsp
  · intro sp _
    rw [List.append_nil, hfn, hv]
    rfl
  · exact ok_one hr rfl (okWide_bool_mk htb _)
end
end Go.Ew
namespace Go.Ew
open Go Go.RowKit Go.ChangeShapes Go.WideShapes
theorem fm_map {α β : Type} (f : α → β) (l : List α) : l.flatMap (fun a => [f a]) = l.map f := by
  induction l with
  | nil => rfl
  | cons a l ih => rw [List.flatMap_cons, ih]; rfl
section
variable {P : Program} {W : World}
theorem Opens.argS {t : TypeId} {fs : Array Field} {α : Type} {f : α → List AV} {wf : α → Prop} {z : α → Nat} (h : Opens P t f wf z) (ht : P.underlying t = some (.struct fs)) {r : Reach} {b : Nat} {v : Value} (hv : Value.okWide P W r b t v) {H : Type} {enc : TypeId × Value → H} {d : DataW H} {p : List MemPlace} (hd : DataW.Trod enc P W 0 (fun _ => true) true t v d p) (hw : LightW P t d) :
    ∃ a, wf a ∧ RvM (fun _ => 0) Mem.empty W (.agg (f a)) v ∧ ∀ m, BulkM m → z a ≤ m H d := by
  obtain ⟨fuel, hf⟩ := hd
  unfold Value.okWide at hv
  rw [ht] at hv
  obtain ⟨cs, rfl, _, _⟩ := hv
  obtain ⟨a, h1, h2, h3, h4⟩ := h H enc W fuel _ _ hf hw
  refine ⟨a, h1, ?_, h4⟩
  have := Rv.agg (φ := fun _ => 0) (n := Mem.empty.next) (L := Live (fun _ => 0) Mem.empty) (w := W) (f a) cs.toList h2.1 h2.2 h3
  simpa using this
end
end Go.Ew
