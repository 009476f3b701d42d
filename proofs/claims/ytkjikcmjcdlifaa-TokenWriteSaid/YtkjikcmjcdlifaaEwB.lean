/-
  The relation between values by content and the model's: laws. Nothing here is about one program.
-/
import Derived.Test.YtkjikcmjcdlifaaEwA
namespace Go.Ew
open Go Go.RowKit

section
variable {φ φ' φ'' : Nat → Nat} {σ σ' σ'' : Mem} {w w' w'' : World}

theorem block_add (a : Addr) (n : Nat) : (a.add n).block = a.block := by unfold Addr.add; split <;> rfl
theorem add_add (a : Addr) (i j : Nat) : (a.add i).add j = a.add (i + j) := by
  unfold Addr.add
  by_cases hi : i = 0 <;> by_cases hj : j = 0 <;> simp [hi, hj, Nat.add_assoc]

theorem Step.refl (φ : Nat → Nat) (σ : Mem) (w : World) : Step φ σ w φ σ w :=
  ⟨Nat.le_refl _, fun _ _ => rfl, fun _ h => .inl h, Nat.le_refl _, fun _ _ _ => rfl, fun _ cur _ fz h => ⟨cur, fz, h, rfl⟩, rfl, rfl, rfl⟩

theorem Step.trans (h : Step φ σ w φ' σ' w') (k : Step φ' σ' w' φ'' σ'' w'') : Step φ σ w φ'' σ'' w'' where
  next := Nat.le_trans h.next k.next
  phi := fun id hid => (k.phi id (Nat.lt_of_lt_of_le hid h.next)).trans (h.phi id hid)
  fresh := fun b hb => by
    rcases k.fresh b hb with h1 | h1
    · exact h.fresh b h1
    · exact .inr (Nat.le_trans h.size h1)
  size := Nat.le_trans h.size k.size
  same := fun b hb hl => by
    have hl' : ¬ Live φ' σ' b := fun hx => by
      rcases h.fresh b hx with h1 | h1
      · exact hl h1
      · omega
    exact (k.same b (Nat.lt_of_lt_of_le hb h.size) hl').trans (h.same b hb hl)
  shape := fun b cur e fz hb => by
    obtain ⟨cur', fz', h1, h2⟩ := h.shape b cur e fz hb
    obtain ⟨cur'', fz'', h3, h4⟩ := k.shape b cur' e fz' h1
    exact ⟨cur'', fz'', h3, h4.trans h2⟩
  os := k.os.trans h.os
  tape := k.tape.trans h.tape
  output := k.output.trans h.output

theorem Rv.step (s : Step φ σ w φ' σ' w') {x : AV} {v : Value} (h : RvM φ σ w x v) : RvM φ' σ' w' x v := by
  have cellk : ∀ (ad : Addr) (j : Nat), ¬ Live φ σ ad.block → ad.block < w.heap.size → w'.cell? (ad.add j) = w.cell? (ad.add j) := fun ad j hl hb =>
    World.cell?_of_block (by rw [block_add]; exact s.same ad.block hb hl)
  have livek : ∀ b, ¬ Live φ σ b → b < w.heap.size → ¬ Live φ' σ' b := fun b hl hb hx => by
    rcases s.fresh b hx with h1 | h1
    · exact hl h1
    · omega
  induction h with
  | lit v => exact .lit v
  | nils => exact .nils
  | imm0 A c hc => exact .imm0 A c hc
  | imm m cs ad c vs h1 _ h3 h4 h5 h6 ih => exact .imm m cs ad c vs (fun j hj => ⟨(cellk ad j h3 h4).trans (h1 j hj).1, (h1 j hj).2⟩) ih (livek _ h3 h4) (Nat.lt_of_lt_of_le h4 s.size) h5 h6
  | arr id off m sz c h1 h2 h3 h4 =>
    obtain ⟨cur, e, fz, h5, h6⟩ := h4
    obtain ⟨cur', fz', h7, h8⟩ := s.shape _ _ _ _ h5
    rw [← s.phi id h1]
    rw [← s.phi id h1] at h7
    exact .arr id off m sz c (Nat.lt_of_lt_of_le h1 s.next) h2 h3 ⟨cur', e, fz', h7, by omega⟩
  | ptr id off h1 => rw [← s.phi id h1]; exact .ptr id off (Nat.lt_of_lt_of_le h1 s.next)
  | iptr cs ad vs h1 _ h3 h4 ih => exact .iptr cs ad vs (fun j hj => ⟨(cellk ad j h3 h4).trans (h1 j hj).1, (h1 j hj).2⟩) ih (livek _ h3 h4) (Nat.lt_of_lt_of_le h4 s.size)
  | fn f xs vs h1 _ ih => exact .fn f xs vs h1 ih
  | agg xs vs h1 _ h3 ih => exact .agg xs vs h1 ih h3
  | tup xs vs h1 _ ih => exact .tup xs vs h1 ih

theorem RvL.step (s : Step φ σ w φ' σ' w') {xs : List AV} {vs : List Value} (h : RvL φ σ w xs vs) : RvL φ' σ' w' xs vs := ⟨h.1, fun j x v hx hv => (h.2 j x v hx hv).step s⟩
theorem RelF.step (s : Step φ σ w φ' σ' w') {fr : Fr} {t : Array Value} (h : RelF φ σ w fr t) : RelF φ' σ' w' fr t := fun k => (h k).step s

/-- A world in which what was there is as it was: the class of a region that draws. -/
def Cls (w w' : World) : Prop := Below w.heap.size w w'

theorem Cls.refl (w : World) : Cls w w := Below.refl _ _
theorem Cls.drew (w : World) : Cls w { w with drawn := w.drawn + 1 } := (Below.refl _ _).drew
theorem Cls.cell {w w' : World} (h : Cls w w') {a : Addr} (ha : a.block < w.heap.size) : w'.cell? a = w.cell? a := Below.cell h ha
theorem Live.lt (h : RelM φ σ w) {b : Nat} (hb : Live φ σ b) : b < w.heap.size := by
  obtain ⟨id, hid, rfl⟩ := hb
  obtain ⟨cs, hcs⟩ := Option.isSome_iff_exists.1 hid
  obtain ⟨cur, h1, _⟩ := h.cell id cs hcs
  exact (Array.getElem?_eq_some_iff.1 h1).1
theorem Cls.step (h : Cls w w') : Step φ σ w φ σ w' where
  next := Nat.le_refl _
  phi := fun _ _ => rfl
  fresh := fun _ h => .inl h
  size := h.size
  same := fun b hb _ => h.block b hb
  shape := fun b cur e fz hb => ⟨cur, fz, by rw [h.block b (Array.getElem?_eq_some_iff.1 hb).1]; exact hb, rfl⟩
  os := h.os
  tape := h.tape
  output := h.output

/-- The same objects, in a later world in which each still holds its cells. -/
theorem RelM.step (hr : RelM φ σ w) (s : Step φ σ w φ' σ w') (hc : ∀ id cs, σ.get id = some cs → w'.heap[φ' id]? = w.heap[φ id]?) : RelM φ' σ w' where
  live := hr.live
  cell := fun id cs h => by
    obtain ⟨cur, h1, h2, h3⟩ := hr.cell id cs h
    refine ⟨cur, (hc id cs h).trans h1, h2, fun j x hx => ?_⟩
    obtain ⟨v, h4, h5, h6⟩ := h3 j x hx
    exact ⟨v, h4, h5, h6.step s⟩
  inj := fun i j hi hj he => by
    obtain ⟨c1, h1⟩ := Option.isSome_iff_exists.1 hi
    obtain ⟨c2, h2⟩ := Option.isSome_iff_exists.1 hj
    rw [s.phi i (hr.live i c1 h1), s.phi j (hr.live j c2 h2)] at he
    exact hr.inj i j hi hj he
theorem RelM.cls (hr : RelM φ σ w) (h : Cls w w') : RelM φ σ w' :=
  hr.step (Cls.step h) fun id cs hid => h.block _ (Live.lt hr ⟨id, by simp [hid], rfl⟩)

/-! ### Operands -/
theorem rv_cell {n : Nat} {L : Nat → Prop} (v : Value) : Rv φ n L w (cellA v) v := by
  unfold cellA
  split
  · split
    · rename_i h; obtain ⟨rfl, rfl⟩ := h; exact .nils
    · exact .lit _
  · rename_i f a c
    split
    · rename_i h
      have ha : a = #[] := by simpa using h.1
      have hc : c = #[] := by simpa using h.2
      subst ha; subst hc
      exact .fn _ [] [] rfl (fun j x v h => by simp at h)
    · exact .lit _
  · exact .lit _

theorem rv_cells {n : Nat} {L : Nat → Prop} (vs : List Value) : ∀ (j : Nat) (x : AV) (v : Value), (vs.map cellA)[j]? = some x → vs[j]? = some v → Rv φ n L w x v := by
  intro j x v hx hv
  rw [List.getElem?_map, hv] at hx
  simp only [Option.map_some, Option.some.injEq] at hx
  subst hx
  exact rv_cell v

theorem rv_const {n : Nat} {L : Nat → Prop} (v : Value) : Rv φ n L w (constA v) v := by
  unfold constA
  split
  · rename_i vs
    split
    · rename_i h
      have := Rv.agg (φ := φ) (n := n) (L := L) (w := w) (vs.toList.map cellA) vs.toList (by simp) (rv_cells _) (by simpa only [List.all_eq_true] using h)
      simpa using this
    · exact .lit _
  · rename_i vs
    split
    · rename_i h
      have h0 : vs = #[] := by simpa using h
      subst h0
      exact .tup [] [] rfl (fun j x v h => by simp at h)
    · exact .lit _
  · exact rv_cell v

theorem rv_eval {fr : Fr} {a : Act} (h : RelF φ σ w fr a.tmps) (x : Operand) : RvM φ σ w (evalA fr x) (a.eval x) := by
  cases x with
  | tmp t => exact h t
  | const v => exact rv_const v
  | global g => exact .lit _
  | func f => exact .fn f [] [] rfl (fun j x v h => by simp at h)

theorem rv_evals {fr : Fr} {a : Act} (h : RelF φ σ w fr a.tmps) (xs : List Operand) : RvL φ σ w (xs.map (evalA fr)) (xs.map a.eval) := by
  refine ⟨by simp, fun j x v hx hv => ?_⟩
  rw [List.getElem?_map] at hx hv
  cases ho : xs[j]? with
  | none => simp [ho] at hx
  | some o =>
    simp only [ho, Option.map_some, Option.some.injEq] at hx hv
    subst hx; subst hv
    exact rv_eval h o

theorem RelF.put {fr : Fr} {a : Act} {x : AV} {v : Value} {dst : Option Tmp} (h : RelF φ σ w fr a.tmps) (hx : RvM φ σ w x v) (hd : dstOk a.tmps.size dst = true) : RelF φ σ w (putA fr dst x) (a.put dst v).tmps := by
  intro k
  cases dst with
  | none => exact h k
  | some d =>
    have hd' : d < a.tmps.size := by simpa [dstOk] using hd
    simp only [putA, Act.put, upd]
    by_cases hk : k = d
    · subst hk
      simpa [hd'] using hx
    · have hk' : ¬ d = k := fun e => hk e.symm
      simp only [hk, if_false]
      have := h k
      rw [Array.getD_eq_getD_getElem?] at this ⊢
      rwa [Array.getElem?_setIfInBounds_ne hk']

theorem size_put (a : Act) (dst : Option Tmp) (v : Value) : (a.put dst v).tmps.size = a.tmps.size := by cases dst <;> simp [Act.put]

/-! ### The cells of a value -/
theorem rv_cellsA {x : AV} {cs : List AV} {v : Value} (hc : cellsA x = some cs) (h : RvM φ σ w x v) : RvL φ σ w cs v.cells.toList ∧ ∀ u ∈ v.cells.toList, u.oneCell' = true := by
  have one : ∀ (x : AV) (v : Value), RvM φ σ w x v → v.oneCell' = true → v.cells = #[v] → RvL φ σ w [x] v.cells.toList ∧ ∀ u ∈ v.cells.toList, u.oneCell' = true := by
    intro x v h h1 h2
    rw [h2]
    refine ⟨⟨rfl, fun j y u hy hu => ?_⟩, fun u hu => by simp at hu; subst hu; exact h1⟩
    cases j with
    | zero => simp at hy hu; subst hy; subst hu; exact h
    | succ j => simp at hy
  cases h with
  | lit v =>
    simp only [cellsA] at hc
    split at hc
    · rename_i h1
      cases hc
      exact one _ _ (.lit v) h1 (by cases v <;> first | rfl | (simp [Value.oneCell'] at h1))
    · cases hc
  | nils => cases hc; exact one _ _ .nils rfl rfl
  | imm0 A c hc' => cases hc; exact one _ _ (.imm0 A c hc') rfl rfl
  | imm m cs' ad c vs h1 h2 h3 h4 h5 h6 => cases hc; exact one _ _ (.imm m cs' ad c vs h1 h2 h3 h4 h5 h6) rfl rfl
  | arr id off m sz c h1 h2 h3 h4 => cases hc; exact one _ _ (.arr id off m sz c h1 h2 h3 h4) rfl rfl
  | ptr id off h1 => cases hc; exact one _ _ (.ptr id off h1) rfl rfl
  | iptr cs' ad vs h1 h2 h3 h4 => cases hc; exact one _ _ (.iptr cs' ad vs h1 h2 h3 h4) rfl rfl
  | fn f xs vs h1 h2 => cases hc; exact one _ _ (.fn f xs vs h1 h2) rfl rfl
  | agg xs vs h1 h2 h3 => cases hc; exact ⟨⟨by simpa [Value.cells] using h1, by simpa [Value.cells] using h2⟩, by simpa [Value.cells] using h3⟩
  | tup xs vs h1 h2 => cases hc

/-! ### New objects, and objects written -/
/-- A new block, a new object. -/
theorem relM_alloc (hr : RelM φ σ w) (cs : List AV) (cur : Array Value) (e : TypeId) (hl : cs.length ≤ cur.size) (hc : ∀ (j : Nat) (x : AV), cs[j]? = some x → ∃ v, cur[j]? = some v ∧ v.oneCell' = true ∧ RvM φ σ w x v)
    (hw : w'.heap = w.heap.push (.cells cur e (0, 0))) (ho : w'.os = w.os) (ht : w'.tape = w.tape) (hu : w'.output = w.output) :
    ∃ φ', φ' σ.next = w.heap.size ∧ RelM φ' (σ.alloc e cs) w' ∧ Step φ σ w φ' (σ.alloc e cs) w' := by
  refine ⟨fun i => if i = σ.next then w.heap.size else φ i, by simp, ?_⟩
  have old : ∀ i, i < w.heap.size → w'.heap[i]? = w.heap[i]? := fun i hi => by rw [hw, Array.getElem?_push, if_neg (by omega)]
  have new : w'.heap[w.heap.size]? = some (.cells cur e (0, 0)) := by rw [hw]; simp
  have s : Step φ σ w (fun i => if i = σ.next then w.heap.size else φ i) (σ.alloc e cs) w' := by
    refine ⟨Nat.le_succ _, fun id hid => by simp [show id ≠ σ.next by omega], fun b hb => ?_, by rw [hw]; simp, fun b hb _ => old b hb, fun b c e' fz hb => ⟨c, fz, ?_, rfl⟩, ho, ht, hu⟩
    · obtain ⟨id, h1, h2⟩ := hb
      by_cases hid : id = σ.next
      · subst hid; simp at h2; exact .inr (by omega)
      · simp only [hid, if_false] at h2
        simp only [Mem.alloc, hid, if_false] at h1
        exact .inl ⟨id, h1, h2⟩
    · rw [old b (Array.getElem?_eq_some_iff.1 hb).1]; exact hb
  refine ⟨⟨fun id c hid => ?_, fun id c hid => ?_, fun i j hi hj he => ?_⟩, s⟩
  · by_cases h : id = σ.next
    · subst h; exact Nat.lt_succ_self _
    · simp only [Mem.alloc, h, if_false] at hid
      exact Nat.lt_succ_of_lt (hr.live id c hid)
  · by_cases h : id = σ.next
    · subst h
      simp only [Mem.alloc, if_true, Option.some.injEq] at hid
      subst hid
      refine ⟨cur, by simpa [Mem.alloc] using new, hl, fun j x hx => ?_⟩
      obtain ⟨v, h1, h2, h3⟩ := hc j x hx
      exact ⟨v, h1, h2, h3.step s⟩
    · simp only [Mem.alloc, h, if_false] at hid
      obtain ⟨cur', h1, h2, h3⟩ := hr.cell id c hid
      refine ⟨cur', ?_, h2, fun j x hx => ?_⟩
      · simp only [Mem.alloc, h, if_false]
        rw [old _ (Array.getElem?_eq_some_iff.1 h1).1]; exact h1
      · obtain ⟨v, h4, h5, h6⟩ := h3 j x hx
        exact ⟨v, h4, h5, h6.step s⟩
  · have lt : ∀ k, (σ.get k).isSome = true → φ k < w.heap.size := fun k hk => Live.lt hr ⟨k, hk, rfl⟩
    simp only [Mem.alloc] at hi hj
    by_cases h1 : i = σ.next <;> by_cases h2 : j = σ.next
    · omega
    · simp only [h1, h2, if_true, if_false] at hj he
      have := lt j hj; omega
    · simp only [h1, h2, if_true, if_false] at hi he
      have := lt i hi; omega
    · simp only [h1, h2, if_false] at hi hj he
      exact hr.inj i j hi hj he

/-- An object of the call's own is written: its block holds other cells, as many. -/
theorem relM_write (hr : RelM φ σ w) (id : Nat) (cs cs' : List AV) (hid : σ.get id = some cs) (cur cur' : Array Value) (e : TypeId) (he : σ.ty id = e) (hb : w.heap[φ id]? = some (.cells cur e (0, 0))) (hs : cur'.size = cur.size)
    (hw : ∀ i, w'.heap[i]? = if i = φ id then some (.cells cur' e (0, 0)) else w.heap[i]?) (hsz : w'.heap.size = w.heap.size) (hl : cs'.length ≤ cur'.size)
    (hc : ∀ (j : Nat) (x : AV), cs'[j]? = some x → ∃ v, cur'[j]? = some v ∧ v.oneCell' = true ∧ RvM φ σ w x v)
    (ho : w'.os = w.os) (ht : w'.tape = w.tape) (hu : w'.output = w.output) :
    RelM φ (σ.set id cs') w' ∧ Step φ σ w φ (σ.set id cs') w' := by
  have some_ : ∀ k, ((σ.set id cs').get k).isSome = true → (σ.get k).isSome = true := fun k hk => by
    by_cases h : k = id
    · subst h; simp [hid]
    · simpa [Mem.set, h] using hk
  have s : Step φ σ w φ (σ.set id cs') w' := by
    refine ⟨Nat.le_refl _, fun _ _ => rfl, fun b hb => ?_, by omega, fun b hb hl => ?_, fun b c e' fz hbb => ?_, ho, ht, hu⟩
    · obtain ⟨k, h1, h2⟩ := hb; exact .inl ⟨k, some_ k h1, h2⟩
    · rw [hw, if_neg (fun h => hl ⟨id, by simp [hid], h.symm⟩)]
    · by_cases h : b = φ id
      · subst h
        rw [hb] at hbb
        cases hbb
        exact ⟨cur', (0, 0), by rw [hw, if_pos rfl], hs⟩
      · exact ⟨c, fz, by rw [hw, if_neg h]; exact hbb, rfl⟩
  refine ⟨⟨fun k c hk => ?_, fun k c hk => ?_, fun i j hi hj he => hr.inj i j (some_ i hi) (some_ j hj) he⟩, s⟩
  · obtain ⟨c', hc'⟩ := Option.isSome_iff_exists.1 (some_ k (by simp [hk]))
    exact hr.live k c' hc'
  · by_cases h : k = id
    · subst h
      simp only [Mem.set, if_true, Option.some.injEq] at hk
      subst hk
      refine ⟨cur', by rw [hw, if_pos rfl]; simp only [Mem.set, he], hl, fun j x hx => ?_⟩
      obtain ⟨v, h1, h2, h3⟩ := hc j x hx
      exact ⟨v, h1, h2, h3.step s⟩
    · simp only [Mem.set, h, if_false] at hk
      obtain ⟨c1, h1, h2, h3⟩ := hr.cell k c hk
      refine ⟨c1, ?_, h2, fun j x hx => ?_⟩
      · rw [hw, if_neg (fun hh => h (hr.inj k id (by simp [hk]) (by simp [hid]) hh))]; exact h1
      · obtain ⟨v, h4, h5, h6⟩ := h3 j x hx
        exact ⟨v, h4, h5, h6.step s⟩

/-- An object is no longer the call's to write. -/
theorem relM_kill (hr : RelM φ σ w) (id : Nat) : RelM φ (σ.kill id) w ∧ Step φ σ w φ (σ.kill id) w := by
  have some_ : ∀ k cs, (σ.kill id).get k = some cs → σ.get k = some cs := fun k cs hk => by
    by_cases h : k = id
    · subst h; simp [Mem.kill] at hk
    · simpa [Mem.kill, h] using hk
  have s : Step φ σ w φ (σ.kill id) w := by
    refine ⟨Nat.le_refl _, fun _ _ => rfl, fun b hb => ?_, Nat.le_refl _, fun b hb hl => rfl, fun b c e' fz hbb => ⟨c, fz, hbb, rfl⟩, rfl, rfl, rfl⟩
    obtain ⟨k, h1, h2⟩ := hb
    obtain ⟨c, hc⟩ := Option.isSome_iff_exists.1 h1
    exact .inl ⟨k, by simp [some_ k c hc], h2⟩
  refine ⟨⟨fun k c hk => hr.live k c (some_ k c hk), fun k c hk => ?_, fun i j hi hj he => ?_⟩, s⟩
  · obtain ⟨c1, h1, h2, h3⟩ := hr.cell k c (some_ k c hk)
    exact ⟨c1, h1, h2, fun j x hx => by obtain ⟨v, h4, h5, h6⟩ := h3 j x hx; exact ⟨v, h4, h5, h6.step s⟩⟩
  · obtain ⟨c1, h1⟩ := Option.isSome_iff_exists.1 hi
    obtain ⟨c2, h2⟩ := Option.isSome_iff_exists.1 hj
    exact hr.inj i j (by simp [some_ i c1 h1]) (by simp [some_ j c2 h2]) he

/-- An object goes on under a new number, in its own block. -/
theorem relM_rename (hr : RelM φ σ w) (id : Nat) (cs : List AV) (hid : σ.get id = some cs) (e : TypeId) (he : σ.ty id = e) :
    ∃ φ', φ' σ.next = φ id ∧ RelM φ' ((σ.kill id).alloc e cs) w ∧ Step φ σ w φ' ((σ.kill id).alloc e cs) w := by
  have hne : ∀ k, k < σ.next → k ≠ σ.next := fun k hk => by omega
  refine ⟨fun i => if i = σ.next then φ id else φ i, by simp, ?_⟩
  have some_ : ∀ k c, ((σ.kill id).alloc e cs).get k = some c → k ≠ σ.next → k ≠ id ∧ σ.get k = some c := fun k c hk h => by
    simp only [Mem.alloc, Mem.kill, h, if_false] at hk
    by_cases h2 : k = id
    · simp [h2] at hk
    · exact ⟨h2, by simpa [h2] using hk⟩
  have s : Step φ σ w (fun i => if i = σ.next then φ id else φ i) ((σ.kill id).alloc e cs) w := by
    refine ⟨Nat.le_succ _, fun k hk => by simp [hne k hk], fun b hb => ?_, Nat.le_refl _, fun b hb hl => rfl, fun b c e' fz hbb => ⟨c, fz, hbb, rfl⟩, rfl, rfl, rfl⟩
    obtain ⟨k, h1, h2⟩ := hb
    obtain ⟨c, hc⟩ := Option.isSome_iff_exists.1 h1
    by_cases h : k = σ.next
    · subst h; simp at h2; exact .inl ⟨id, by simp [hid], h2⟩
    · simp only [h, if_false] at h2
      exact .inl ⟨k, by simp [(some_ k c hc h).2], h2⟩
  refine ⟨⟨fun k c hk => ?_, fun k c hk => ?_, fun i j hi hj he => ?_⟩, s⟩
  · by_cases h : k = σ.next
    · subst h; exact Nat.lt_succ_self _
    · exact Nat.lt_succ_of_lt (hr.live k c (some_ k c hk h).2)
  · by_cases h : k = σ.next
    · subst h
      simp only [Mem.alloc, Mem.kill, if_true, Option.some.injEq] at hk
      subst hk
      obtain ⟨c1, h1, h2, h3⟩ := hr.cell id cs hid
      exact ⟨c1, by simpa [Mem.alloc, Mem.kill, he] using h1, h2, fun j x hx => by obtain ⟨v, h4, h5, h6⟩ := h3 j x hx; exact ⟨v, h4, h5, h6.step s⟩⟩
    · obtain ⟨c1, h1, h2, h3⟩ := hr.cell k c (some_ k c hk h).2
      exact ⟨c1, by simpa [Mem.alloc, Mem.kill, h] using h1, h2, fun j x hx => by obtain ⟨v, h4, h5, h6⟩ := h3 j x hx; exact ⟨v, h4, h5, h6.step s⟩⟩
  · obtain ⟨c1, h1⟩ := Option.isSome_iff_exists.1 hi
    obtain ⟨c2, h2⟩ := Option.isSome_iff_exists.1 hj
    by_cases h3 : i = σ.next <;> by_cases h4 : j = σ.next
    · omega
    · simp only [h3, h4, if_true, if_false] at he
      exact absurd (hr.inj j id (by simp [(some_ j c2 h2 h4).2]) (by simp [hid]) he.symm) (some_ j c2 h2 h4).1
    · simp only [h3, h4, if_true, if_false] at he
      exact absurd (hr.inj i id (by simp [(some_ i c1 h1 h3).2]) (by simp [hid]) he) (some_ i c1 h1 h3).1
    · simp only [h3, h4, if_false] at he
      exact hr.inj i j (by simp [(some_ i c1 h1 h3).2]) (by simp [(some_ j c2 h2 h4).2]) he
end
end Go.Ew
