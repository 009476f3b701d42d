/-
  Operations that only read: what 'evOp' says of them is what the model does, in every world of the class. Nothing here is about one program.
-/
import Derived.Test.YtkjikcmjcdlifaaEwB
namespace Go.Ew
open Go Go.RowKit

/-- In every world of the class the run yields v and leaves that world. -/
def Qy (P : Program) (s : Sem Value) (w : World) (v : Value) : Prop := ∀ w', Cls w w' → s.run P w' = .ok v w'

section
variable {P : Program} {φ : Nat → Nat} {σ : Mem} {w : World}

/-! ### Types -/
theorem sliceTy_spec {t e : TypeId} {sz by_ : Nat} (h : sliceTy P t = some (e, sz, by_)) : P.underlying t = some (.slice e) ∧ ∃ i, P.info? e = some i ∧ i.size = sz ∧ i.bytes = by_ := by
  unfold sliceTy at h
  split at h
  · rename_i e' he
    cases hi : P.info? e' with
    | none => simp [hi] at h
    | some i => simp only [hi, Option.map_some, Option.some.injEq, Prod.mk.injEq] at h; obtain ⟨rfl, h2, h3⟩ := h; exact ⟨he, i, hi, h2, h3⟩
  · cases h
theorem strTy_spec {t : TypeId} (h : strTy P t = true) : P.underlying t = some .string := by
  unfold strTy at h; split at h
  · assumption
  · cases h
theorem boolTy_spec {t : TypeId} (h : boolTy P t = true) : P.underlying t = some .bool := by
  unfold boolTy at h; split at h
  · assumption
  · cases h
theorem intTy_spec {t : TypeId} {k : IntKind} (h : intTy P t = some k) : P.underlying t = some (.int k) := by
  unfold intTy at h; split at h
  · rename_i k' hk; cases h; exact hk
  · cases h
theorem sizeTy_spec {t : TypeId} {n : Nat} (h : sizeTy P t = some n) : ∃ i, P.info? t = some i ∧ i.size = n := by
  unfold sizeTy at h
  cases hi : P.info? t with
  | none => simp [hi] at h
  | some i => simp [hi] at h; exact ⟨i, rfl, h⟩
theorem run_sizeOf' {t : TypeId} {n : Nat} (h : sizeTy P t = some n) (w : World) : (sizeOf t).run P w = .ok n w := by
  obtain ⟨i, hi, rfl⟩ := sizeTy_spec h
  simp [sizeOf, typeInfo, hi]
theorem run_sizeOf_info {t : TypeId} {i : TypeInfo} (hi : P.info? t = some i) (w : World) : (sizeOf t).run P w = .ok i.size w := by simp [sizeOf, typeInfo, hi]
theorem run_isAgg' {t : TypeId} {b : Bool} (h : aggTy P t = some b) (w : World) : (isAgg t).run P w = .ok b w := by
  unfold aggTy at h
  cases hu : P.underlying t with
  | none => simp [hu] at h
  | some d =>
    simp only [hu, Option.map_some, Option.some.injEq] at h
    subst h
    cases d <;> simp [isAgg, run_underlying hu]
theorem fieldTy_spec {t : TypeId} {i off n : Nat} {u : TypeId} (h : fieldTy P t i = some (off, n, u)) :
    ∃ fs f j, P.underlying t = some (.struct fs) ∧ fs[i]? = some f ∧ P.info? f.type = some j ∧ j.size = n ∧ n ≠ 0 ∧ f.offset = off ∧ f.type = u := by
  unfold fieldTy at h
  split at h
  · rename_i fs hfs
    cases hf : fs[i]? with
    | none => simp [hf] at h
    | some f =>
      cases hj : P.info? f.type with
      | none => simp [hf, hj] at h
      | some j =>
        simp only [hf, hj, Option.bind_some] at h
        split at h
        · cases h
        · simp only [Option.some.injEq, Prod.mk.injEq] at h
          exact ⟨fs, f, j, hfs, hf, hj, h.2.1, by rw [← h.2.1]; assumption, h.1, h.2.2⟩
  · cases h

/-! ### Cells behind a pointer -/
theorem rv_atPtr {x : AV} {cs : List AV} {v : Value} (hr : RelM φ σ w) (h : atPtr σ x = some cs) (hx : RvM φ σ w x v) :
    ∃ (a : Addr) (vs : Nat → Value), v = .pointer (some a) ∧ a.block < w.heap.size ∧ (∀ j, j < cs.length → w.cell? (a.add j) = some (vs j) ∧ (vs j).oneCell' = true) ∧ ∀ (j : Nat) (y : AV), cs[j]? = some y → RvM φ σ w y (vs j) := by
  cases hx with
  | ptr id off h1 =>
    simp only [atPtr] at h
    cases hg : σ.get id with
    | none => simp [hg] at h
    | some c =>
      simp only [hg, Option.bind_some] at h
      split at h
      · rename_i hoff
        cases h
        obtain ⟨cur, h2, h3, h4⟩ := hr.cell id c hg
        refine ⟨⟨φ id, off, none⟩, fun j => cur.getD (off + j) Go.undef, rfl, (Array.getElem?_eq_some_iff.1 h2).1, fun j hj => ?_, fun j y hy => ?_⟩
        · have hj' : off + j < c.length := by simp at hj; omega
          obtain ⟨v, h5, h6, _⟩ := h4 (off + j) _ (List.getElem?_eq_getElem hj')
          rw [Addr.add_lit, cell_of_row w (φ id) (off + j) cur _ (0, 0) h2]
          simp only [Array.getD_eq_getD_getElem?, h5, Option.getD_some]
          exact ⟨trivial, h6⟩
        · rw [List.getElem?_drop] at hy
          obtain ⟨v, h5, _, h7⟩ := h4 (off + j) _ hy
          simp only [Array.getD_eq_getD_getElem?, h5, Option.getD_some]
          exact h7
      · cases h
  | iptr cs' ad vs h1 h2 h3 h4 => cases h; exact ⟨ad, vs, rfl, h4, h1, h2⟩
  | _ => simp [atPtr] at h

theorem rv_read {t : TypeId} {cs : List AV} {z : AV} {a : Addr} {vs : Nat → Value} (h : readA P t cs = some z) (hb : a.block < w.heap.size) (h1 : ∀ j, j < cs.length → w.cell? (a.add j) = some (vs j) ∧ (vs j).oneCell' = true)
    (h2 : ∀ (j : Nat) (y : AV), cs[j]? = some y → RvM φ σ w y (vs j)) : ∃ r, RvM φ σ w z r ∧ Qy P (loadVar t a) w r := by
  unfold readA at h
  split at h
  · rename_i n ha hn
    split at h
    · rename_i hle
      cases h
      refine ⟨.agg ((List.range n).map vs).toArray, .agg _ _ (by simp; omega) (fun j x v hx hv => ?_) (fun v hv => ?_), fun w' hw' => ?_⟩
      · rw [List.getElem?_map] at hv
        have hj : j < n := by
          rcases Nat.lt_or_ge j n with h | h
          · exact h
          · rw [List.getElem?_eq_none (by simpa using h)] at hv; simp at hv
        rw [List.getElem?_range hj] at hv
        simp only [Option.map_some, Option.some.injEq] at hv
        subst hv
        rw [List.getElem?_take_of_lt hj] at hx
        exact h2 j x hx
      · simp only [List.mem_map, List.mem_range] at hv
        obtain ⟨j, hj, rfl⟩ := hv
        exact (h1 j (by omega)).2
      · have hl := run_loadCells (P := P) w' a n vs (fun j hj => by rw [Cls.cell hw' (by rw [block_add]; exact hb)]; exact (h1 j (by omega)).1)
        simp [loadVar, run_isAgg' ha, run_sizeOf' hn, hl]
    · cases h
  · rename_i ha
    cases cs with
    | nil => cases h
    | cons c cs =>
      cases h
      refine ⟨vs 0, h2 0 z rfl, fun w' hw' => ?_⟩
      have h0 := (h1 0 (by simp)).1
      rw [Addr.add_zero'] at h0
      simp [loadVar, run_isAgg' ha, run_load, Cls.cell hw' hb, h0]
  · cases h

theorem rv_load {t : TypeId} {x z : AV} {v : Value} (hr : RelM φ σ w) (h : (atPtr σ x).bind (readA P t) = some z) (hx : RvM φ σ w x v) : ∃ r, RvM φ σ w z r ∧ Qy P (Instr.loadAt t v) w r := by
  cases hp : atPtr σ x with
  | none => simp [hp] at h
  | some cs =>
    simp only [hp, Option.bind_some] at h
    obtain ⟨a, vs, rfl, hb, h1, h2⟩ := rv_atPtr hr hp hx
    obtain ⟨r, h3, h4⟩ := rv_read h hb h1 h2
    exact ⟨r, h3, fun w' hw' => by simp [Instr.loadAt, Instr.sureAddr, h4 w' hw']⟩

/-- Cells from a later place on. -/
theorem rv_shift {cs : List AV} {a : Addr} {vs : Nat → Value} (n : Nat) (h1 : ∀ j, j < cs.length → w.cell? (a.add j) = some (vs j) ∧ (vs j).oneCell' = true) (h2 : ∀ (j : Nat) (y : AV), cs[j]? = some y → RvM φ σ w y (vs j)) :
    (∀ j, j < (cs.drop n).length → w.cell? ((a.add n).add j) = some (vs (n + j)) ∧ (vs (n + j)).oneCell' = true) ∧ ∀ (j : Nat) (y : AV), (cs.drop n)[j]? = some y → RvM φ σ w y (vs (n + j)) :=
  ⟨fun j hj => by rw [add_add]; exact h1 (n + j) (by simp at hj; omega), fun j y hy => h2 (n + j) y (by rw [← List.getElem?_drop]; exact hy)⟩

theorem rv_fieldAddr {t : TypeId} {x z : AV} {i : Nat} {v : Value} (h : fieldAddrA P t x i = some z) (hx : RvM φ σ w x v) : ∃ r, RvM φ σ w z r ∧ Qy P (Instr.fieldAt t v i) w r := by
  unfold fieldAddrA at h
  split at h
  · rename_i off n u hf
    obtain ⟨fs, f, j, hu, hfi, hj, hn, h0, rfl, _⟩ := fieldTy_spec hf
    have run : ∀ a : Addr, Qy P (Instr.fieldAt t (.pointer (some a)) i) w (.pointer (some (a.add f.offset))) := fun a w' _ => by
      simp [Instr.fieldAt, run_underlying hu, hfi, Instr.sureAddr, fieldPlace, run_sizeOf_info hj, hn, h0]
    cases hx with
    | ptr id off h1 => cases h; exact ⟨_, .ptr id _ h1, by have := run ⟨φ id, off, none⟩; rwa [Addr.add_lit] at this⟩
    | iptr cs ad vs h1 h2 h3 h4 =>
      cases h
      obtain ⟨k1, k2⟩ := rv_shift (φ := φ) (σ := σ) f.offset h1 h2
      exact ⟨_, .iptr _ _ _ k1 k2 (by rw [block_add]; exact h3) (by rw [block_add]; exact h4), run ad⟩
    | _ => simp at h
  · cases h

theorem rv_part {t : TypeId} {xs : List AV} {vs : List Value} {off : Nat} {z : AV} (h : readA P t (xs.drop off) = some z) (h1 : xs.length = vs.length) (h2 : ∀ (j : Nat) (x : AV) (v : Value), xs[j]? = some x → vs[j]? = some v → RvM φ σ w x v) (h3 : ∀ v ∈ vs, v.oneCell' = true) :
    ∃ r, RvM φ σ w z r ∧ Qy P (part t vs.toArray off) w r := by
  unfold readA at h
  split at h
  · rename_i m ha hm
    split at h
    · rename_i hle
      cases h
      have hl : (xs.drop off).length = xs.length - off := by simp
      refine ⟨.agg ((vs.drop off).take m).toArray, .agg _ _ (by simp; omega) (fun j x v hx hv => ?_) (fun v hv => h3 v (List.mem_of_mem_drop (List.mem_of_mem_take hv))), fun w' _ => ?_⟩
      · have hjm : j < m := by
          rcases Nat.lt_or_ge j m with h | h
          · exact h
          · rw [List.getElem?_eq_none (by simp; omega)] at hx; cases hx
        rw [List.getElem?_take_of_lt hjm, List.getElem?_drop] at hx hv
        exact h2 _ x v hx hv
      · simp [part, run_isAgg' ha, run_sizeOf' hm]
    · cases h
  · rename_i ha
    cases hd : xs.drop off with
    | nil => simp [hd] at h
    | cons c rest =>
      simp only [hd, List.head?_cons, Option.some.injEq] at h
      subst h
      have hc : xs[off]? = some c := by rw [← Nat.add_zero off, ← List.getElem?_drop, hd]; rfl
      have hlt : off < vs.length := by rw [← h1]; exact (List.getElem?_eq_some_iff.1 hc).1
      refine ⟨vs[off], h2 off c _ hc (List.getElem?_eq_getElem hlt), fun w' _ => ?_⟩
      simp [part, run_isAgg' ha, hlt]
  · cases h

theorem rv_field {t : TypeId} {x z : AV} {i : Nat} {v : Value} (h : fieldA P t x i = some z) (hx : RvM φ σ w x v) : ∃ r, RvM φ σ w z r ∧ Qy P (Instr.field t v i) w r := by
  unfold fieldA at h
  split at h
  · rename_i off n u cs hf
    obtain ⟨fs, f, j, hu, hfi, hj, hn, h0, rfl, rfl⟩ := fieldTy_spec hf
    cases hx with
    | agg _ vs h1 h2 h3 =>
      obtain ⟨r, hr, hq⟩ := rv_part h h1 h2 h3
      exact ⟨r, hr, fun w' hw' => by simp [Instr.field, run_underlying hu, hfi, asAgg, hq w' hw']⟩
  · cases h

theorem arrayTy_spec {t e : TypeId} {n sz : Nat} (h : arrayTy P t = some (n, e, sz)) : P.underlying t = some (.array n e) ∧ ∃ i, P.info? e = some i ∧ i.size = sz := by
  unfold arrayTy at h
  split at h
  · rename_i n' e' he
    cases hi : P.info? e' with
    | none => simp [hi] at h
    | some i => simp only [hi, Option.map_some, Option.some.injEq, Prod.mk.injEq] at h; obtain ⟨rfl, rfl, h3⟩ := h; exact ⟨he, i, hi, h3⟩
  · cases h

theorem rv_int {x : AV} {n : Int} {v : Value} (h : intOfA x = some n) (hx : RvM φ σ w x v) : ∃ k, v = .int k n := by
  unfold intOfA at h
  split at h
  · rename_i k m; cases h; cases hx; exact ⟨k, rfl⟩
  · cases h

theorem rv_indexAddr {t : TypeId} {x i z : AV} {u v : Value} (h : indexAddrA P t x i = some z) (hx : RvM φ σ w x u) (hi : RvM φ σ w i v) : ∃ r, RvM φ σ w z r ∧ Qy P (Instr.indexAt t u v) w r := by
  unfold indexAddrA at h
  split at h
  · cases h
  rename_i n hn
  obtain ⟨k, rfl⟩ := rv_int hn hi
  split at h
  · rename_i e sz by_ hs
    obtain ⟨hu, j, hj, hsz, _⟩ := sliceTy_spec hs
    have run : ∀ (a : Addr) (len cap : Nat), 0 ≤ n → n < len → Qy P (Instr.indexAt t (.slice (some a) len cap) (.int k n)) w (.pointer (some (a.add (n.toNat * sz)))) := fun a len cap h0 h1 w' _ => by
      simp [Instr.indexAt, asIntOf, run_underlying hu, h0, h1, run_sizeOf_info hj, hsz]
    cases hx with
    | imm m cs ad c vs h1 h2 h3 h4 h5 h6 =>
      simp only at h
      split at h
      · rename_i hb
        cases h
        obtain ⟨k1, k2⟩ := rv_shift (φ := φ) (σ := σ) (n.toNat * sz) h1 h2
        exact ⟨_, .iptr _ _ _ k1 k2 (by rw [block_add]; exact h3) (by rw [block_add]; exact h4), run ad m c hb.1 hb.2⟩
      · cases h
    | imm0 A c hc =>
      simp only at h
      split at h
      · omega
      · cases h
    | arr id off m sz' c h1 h2 h3 h4 =>
      simp only at h
      split at h
      · rename_i hb
        cases h
        exact ⟨_, .ptr id _ h1, by have := run ⟨φ id, off, none⟩ m c hb.2.1 hb.2.2; rwa [Addr.add_lit] at this⟩
      · cases h
    | _ => simp at h
  · split at h
    · rename_i m e sz ha
      obtain ⟨hu, j, hj, hsz⟩ := arrayTy_spec ha
      have run : ∀ a : Addr, 0 ≤ n → n < m → Qy P (Instr.indexAt t (.pointer (some a)) (.int k n)) w (.pointer (some (a.add (n.toNat * sz)))) := fun a h0 h1 w' _ => by
        simp [Instr.indexAt, asIntOf, run_underlying hu, Instr.sureAddr, h0, h1, run_sizeOf_info hj, hsz]
      cases hx with
      | ptr id off h1 =>
        simp only at h
        split at h
        · rename_i hb
          cases h
          exact ⟨_, .ptr id _ h1, by have := run ⟨φ id, off, none⟩ hb.1 hb.2; rwa [Addr.add_lit] at this⟩
        · cases h
      | iptr cs ad vs h1 h2 h3 h4 =>
        simp only at h
        split at h
        · rename_i hb
          cases h
          obtain ⟨k1, k2⟩ := rv_shift (φ := φ) (σ := σ) (n.toNat * sz) h1 h2
          exact ⟨_, .iptr _ _ _ k1 k2 (by rw [block_add]; exact h3) (by rw [block_add]; exact h4), run ad hb.1 hb.2⟩
        · cases h
      | _ => simp at h
    · cases h

theorem rv_index {t : TypeId} {x i z : AV} {u v : Value} (h : indexA P t x i = some z) (hx : RvM φ σ w x u) (hi : RvM φ σ w i v) : ∃ r, RvM φ σ w z r ∧ Qy P (Instr.index t u v) w r := by
  unfold indexA at h
  split at h
  · rename_i s n hn
    obtain ⟨k, rfl⟩ := rv_int hn hi
    cases hx
    split at h
    · rename_i hb
      obtain ⟨hs, h0, h1⟩ := hb
      have hu := strTy_spec hs
      cases h
      refine ⟨_, .lit _, fun w' _ => ?_⟩
      have hlt : n.toNat < s.data.toList.length := by omega
      have hlt' : n.toNat < s.size := by simpa using hlt
      have hg : s[n.toNat]? = some (s.data.toList.getD n.toNat 0) := by
        rw [getElem?_pos s n.toNat hlt']
        simp only [List.getD, List.getElem?_eq_getElem hlt, Option.getD_some]
        rfl
      simp [Instr.index, asIntOf, run_underlying hu, h0, hg]
    · cases h
  · rename_i cs n hn
    obtain ⟨k, rfl⟩ := rv_int hn hi
    split at h
    · rename_i m e sz ha
      obtain ⟨hu, j, hj, hsz⟩ := arrayTy_spec ha
      split at h
      · rename_i hb
        cases hx with
        | agg _ vs h1 h2 h3 =>
          obtain ⟨r, hr, hq⟩ := rv_part h h1 h2 h3
          exact ⟨r, hr, fun w' hw' => by simp [Instr.index, asIntOf, run_underlying hu, hb.1, hb.2, run_sizeOf_info hj, hsz, hq w' hw']⟩
      · cases h
    · cases h
  · cases h

theorem run_sliceBound' {k : IntKind} {i : Int} {y : Nat} {code : BoundsCode} (h0 : 0 ≤ i) (h1 : i ≤ y) (w : World) : (Instr.sliceBound (.int k i) y code).run P w = .ok i.toNat w := by
  simp [Instr.sliceBound, asIntOf, h0, h1]

/-- The bounds of a slice expression without a third. -/
theorem run_bounds {lo hi : Option AV} {lo' hi' : Option Value} {l h : Int} {len cap : Nat} (sl : Bool) (hlo : boundA 0 lo = some l) (hhi : boundA len hi = some h) (rlo : ∀ x, lo = some x → ∃ v, lo' = some v ∧ RvM φ σ w x v) (rhi : ∀ x, hi = some x → ∃ v, hi' = some v ∧ RvM φ σ w x v)
    (nlo : lo = none → lo' = none) (nhi : hi = none → hi' = none) (h0 : 0 ≤ l) (h1 : l ≤ h) (h2 : h ≤ cap) (w' : World) :
    (Instr.sliceBounds sl len cap lo' hi' none).run P w' = .ok (l.toNat, h.toNat, cap) w' := by
  have eh : (hi' = none ∧ h = len) ∨ ∃ k, hi' = some (.int k h) := by
    cases hi with
    | none => simp only [boundA, Option.some.injEq] at hhi; exact .inl ⟨nhi rfl, hhi.symm⟩
    | some x =>
      obtain ⟨v, hv, hr⟩ := rhi x rfl
      obtain ⟨k, rfl⟩ := rv_int (by simpa [boundA] using hhi) hr
      exact .inr ⟨k, hv⟩
  have el : (lo' = none ∧ l = 0) ∨ ∃ k, lo' = some (.int k l) := by
    cases lo with
    | none => simp only [boundA, Option.some.injEq] at hlo; exact .inl ⟨nlo rfl, hlo.symm⟩
    | some x =>
      obtain ⟨v, hv, hr⟩ := rlo x rfl
      obtain ⟨k, rfl⟩ := rv_int (by simpa [boundA] using hlo) hr
      exact .inr ⟨k, hv⟩
  have h3 : l ≤ (h.toNat : Int) := by omega
  have h4 : 0 ≤ h := by omega
  have r1 : ∀ k code (w : World), (Instr.sliceBound (.int k h) cap code).run P w = .ok h.toNat w := fun k code w => run_sliceBound' h4 h2 w
  have r2 : ∀ k code (w : World), (Instr.sliceBound (.int k l) h.toNat code).run P w = .ok l.toNat w := fun k code w => run_sliceBound' h0 h3 w
  have r3 : ∀ k code (w : World), h = len → (Instr.sliceBound (.int k l) len code).run P w = .ok l.toNat w := fun k code w e => run_sliceBound' h0 (by omega) w
  rcases eh with ⟨rfl, e⟩ | ⟨k, rfl⟩ <;> rcases el with ⟨rfl, e'⟩ | ⟨k', rfl⟩
  · simp [Instr.sliceBounds, e, e']
  · simp [Instr.sliceBounds, r3 _ _ _ e, e]
  · simp [Instr.sliceBounds, r1, e']
  · simp [Instr.sliceBounds, r1, r2]

theorem rv_slice {t : TypeId} {x z : AV} {lo hi : Option AV} {lo' hi' : Option Value} {u : Value} (h : sliceA P t x lo hi = some z) (hx : RvM φ σ w x u)
    (rlo : ∀ x, lo = some x → ∃ v, lo' = some v ∧ RvM φ σ w x v) (rhi : ∀ x, hi = some x → ∃ v, hi' = some v ∧ RvM φ σ w x v) (nlo : lo = none → lo' = none) (nhi : hi = none → hi' = none) :
    ∃ r, RvM φ σ w z r ∧ Qy P (Instr.sliceAt t u lo' hi' none) w r := by
  have sl : ∀ (e : TypeId) (sz : Nat) (i : TypeInfo) (a : Option Addr) (len cap : Nat) (l h : Int), P.underlying t = some (.slice e) → P.info? e = some i → i.size = sz → boundA 0 lo = some l → boundA len hi = some h → 0 ≤ l → l ≤ h → h ≤ cap →
      Qy P (Instr.sliceAt t (.slice a len cap) lo' hi' none) w (.slice (if cap = l.toNat then a else a.map (·.add (l.toNat * sz))) (h.toNat - l.toNat) (cap - l.toNat)) := by
    intro e sz i a len cap l h hu hi' hsz hlo hhi h0 h1 h2 w' _
    have hb := run_bounds (P := P) (φ := φ) (σ := σ) (w := w) true hlo hhi rlo rhi nlo nhi h0 h1 h2 w'
    simp [Instr.sliceAt, run_underlying hu, Instr.slice, hb, run_sizeOf_info hi', hsz]
  unfold sliceA at h
  split at h
  · rename_i s
    split at h
    · rename_i l hh hlo hhi
      split at h
      · rename_i hb
        obtain ⟨hs, h0, h1, h2⟩ := hb
        have hu := strTy_spec hs
        cases h
        cases hx
        have hsz : s.data.toList.length = s.size := by simp
        refine ⟨_, .lit _, fun w' _ => ?_⟩
        have hb := run_bounds (P := P) (φ := φ) (σ := σ) (w := w) (len := s.size) (cap := s.size) false hlo (by rw [← hsz]; exact hhi) rlo rhi nlo nhi h0 h1 (by rw [← hsz]; exact h2) w'
        have he : s.extract l.toNat hh.toNat = ⟨⟨(s.data.toList.drop l.toNat).take (hh.toNat - l.toNat)⟩⟩ := by
          apply ByteArray.ext
          rw [ByteArray.data_extract]
          apply Array.ext'
          simp
        simp only [Instr.sliceAt, Sem.run_bind, run_underlying hu, Result.andThen_ok, Instr.slice, Option.isSome_none, Bool.false_eq_true, if_false, hb, Sem.run_pure, he]
      · cases h
    · cases h
  · split at h
    · rename_i q l hh hs hlo hhi
      obtain ⟨e, sz, by_⟩ := q
      split at h
      · rename_i hb
        obtain ⟨rfl, rfl⟩ := hb
        cases h
        cases hx
        obtain ⟨hu, i, hi', hsz, _⟩ := sliceTy_spec hs
        refine ⟨_, .nils, ?_⟩
        have := sl e sz i none 0 0 0 0 hu hi' hsz hlo hhi (by omega) (by omega) (by omega)
        simpa using this
      · cases h
    · cases h
  · rename_i n cs
    split at h
    · rename_i e sz by_ l hh hs hlo hhi
      split at h
      · rename_i hb
        obtain ⟨h0, h1, h2⟩ := hb
        cases h
        obtain ⟨hu, i, hi', hsz, _⟩ := sliceTy_spec hs
        cases hx with
        | imm0 A c hc =>
          have el : l = 0 := by omega
          have eh : hh = 0 := by omega
          subst el; subst eh
          refine ⟨_, ?_, sl e sz i A 0 c 0 0 hu hi' hsz hlo hhi (by omega) (by omega) (by omega)⟩
          simp only [List.drop_nil, List.take_nil, Int.toNat_zero, Nat.sub_self]
          exact .imm0 _ _ (by omega)
        | imm _ _ ad c vs h3 h4 h5 h6 h7 h8 =>
          refine ⟨_, ?_, sl e sz i (some ad) n c l hh hu hi' hsz hlo hhi h0 h1 (by omega)⟩
          by_cases hc : c = l.toNat
          · have e0 : hh.toNat - l.toNat = 0 := by omega
            rw [if_pos hc, e0]
            simp only [Nat.zero_mul, List.take_zero]
            exact .imm0 _ _ (by omega)
          · rw [if_neg hc]
            obtain ⟨k1, k2⟩ := rv_shift (φ := φ) (σ := σ) (l.toNat * sz) h3 h4
            refine .imm _ _ _ _ (fun j => vs (l.toNat * sz + j)) (fun j hj => k1 j (by simp at hj ⊢; omega)) (fun j x hx => k2 j x ?_) (by rw [block_add]; exact h5) (by rw [block_add]; exact h6) (by omega) (by omega)
            rw [List.getElem?_take] at hx
            split at hx
            · exact hx
            · cases hx
      · cases h
    · cases h
  · rename_i id off n sz'
    split at h
    · rename_i e sz by_ l hh hs hlo hhi
      split at h
      · rename_i hb
        obtain ⟨rfl, h0, h1, h2⟩ := hb
        obtain ⟨hu, i, hi', hsz, _⟩ := sliceTy_spec hs
        cases hx with
        | arr _ _ _ _ c h3 h4 h5 h6 =>
          have run := sl e sz' i (some ⟨φ id, off, none⟩) n c l hh hu hi' hsz hlo hhi h0 h1 (by omega)
          obtain ⟨cur, e', fz, h7, h8⟩ := h6
          split at h
          · rename_i hl
            subst hl
            cases h
            refine ⟨_, ?_, run⟩
            simp only [Int.toNat_zero, Nat.zero_mul, Nat.sub_zero, Option.map_some, Addr.add_zero', ite_self]
            exact .arr id off _ sz' c h3 (by omega) h5 ⟨cur, e', fz, h7, h8⟩
          · split at h
            · rename_i hl hlt
              cases h
              refine ⟨_, ?_, run⟩
              rw [if_neg (by omega)]
              simp only [Option.map_some, Addr.add_lit]
              refine .arr id _ _ sz' _ h3 (by omega) (by omega) ⟨cur, e', fz, h7, ?_⟩
              have : l.toNat * sz' + (c - l.toNat) * sz' = c * sz' := by rw [← Nat.add_mul]; congr 1; omega
              omega
            · rename_i hl hge
              cases h
              refine ⟨_, ?_, run⟩
              have e0 : hh.toNat - l.toNat = 0 := by omega
              rw [e0]
              exact .imm0 _ _ (by omega)
      · cases h
    · cases h
  · cases h

/-! ### Arithmetic and comparisons -/
theorem run_intBin {op : BinOp} {k : IntKind} {a b : Int} {z : AV} (t : TypeId) (h : intBin op k a b = some z) : ∃ r, z = .lit r ∧ ∀ w : World, (binOp op t (.int k a) (.int k b)).run P w = .ok r w := by
  unfold intBin at h
  cases op <;> simp only at h <;> first
    | (cases h; exact ⟨_, rfl, fun w => by simp [binOp, Op.intArith, Op.intCmp]⟩)
    | (split at h
       · cases h
       · rename_i hb; cases h; exact ⟨_, rfl, fun w => by simp [binOp, Op.intDiv, hb]⟩)
    | cases h

theorem run_strBin {op : BinOp} {a b : ByteArray} {z : AV} (t : TypeId) (h : strBin op a.data.toList b.data.toList = some z) : ∃ r, z = .lit r ∧ ∀ w : World, (binOp op t (.string a) (.string b)).run P w = .ok r w := by
  unfold strBin at h
  cases op <;> simp only at h
  case add =>
    split at h
    · rename_i hl
      cases h
      refine ⟨_, rfl, fun w => ?_⟩
      have hl' : ¬ (9223372036854775807 < (a.size : Int) + (b.size : Int)) := by simp at hl; omega
      have e : a ++ b = ⟨⟨a.data.toList ++ b.data.toList⟩⟩ := by
        apply ByteArray.ext
        rw [ByteArray.data_append]
        apply Array.ext'
        simp
      simp [binOp, Op.stringOp, hl', e]
    · cases h
  all_goals first
    | (cases h; exact ⟨_, rfl, fun w => by simp [binOp, Op.stringOp, ByteArray.toList_eq, bne]⟩)
    | cases h

theorem rv_eqCell {d : Nat} {t : TypeId} {x y : AV} {b : Bool} {u v : Value} (h : eqCell x y = some b) (fx : cellFits P t x = true) (fy : cellFits P t y = true) (hx : RvM φ σ w x u) (hy : RvM φ σ w y v) (w' : World) : (Op.equalIn (d + 1) t u v).run P w' = .ok b w' := by
  unfold eqCell at h
  split at h
  · rename_i k a k' b'
    split at h
    · rename_i hk
      subst hk
      cases h; cases hx; cases hy
      simp only [cellFits] at fx
      obtain ⟨q, hq⟩ := Option.isSome_iff_exists.1 fx
      simp [Op.equalIn, run_underlying (intTy_spec hq)]
    · cases h
  · cases h; cases hx; cases hy
    simp only [cellFits] at fx
    exact run_equalIn_bool' w' d t _ _ (boolTy_spec fx)
  · cases h; cases hx; cases hy
    simp only [cellFits] at fx
    rw [run_equalIn_string w' d t _ _ (strTy_spec fx), ByteArray.toList_eq, ByteArray.toList_eq]
  · cases h

theorem rv_eqFields {d : Nat} (xs ys : Array Value) : ∀ (fs : List Field) (i : Nat) (as bs : List AV) (b : Bool), (∀ (j : Nat) (f : Field), fs[j]? = some f → f.offset = i + j ∧ (f.name != "_") = true ∧ aggTy P f.type = some false) → as.length = fs.length → bs.length = fs.length →
    (∀ (j : Nat) (f : Field) (x : AV), fs[j]? = some f → as[j]? = some x → cellFits P f.type x = true) → (∀ (j : Nat) (f : Field) (x : AV), fs[j]? = some f → bs[j]? = some x → cellFits P f.type x = true) →
    (∀ (j : Nat) (x : AV), as[j]? = some x → ∃ u, xs[i + j]? = some u ∧ RvM φ σ w x u) → (∀ (j : Nat) (x : AV), bs[j]? = some x → ∃ u, ys[i + j]? = some u ∧ RvM φ σ w x u) →
    eqCells as bs = some b → ∀ w' : World, (Op.eqFields (d + 1) xs ys fs).run P w' = .ok b w'
  | [], _, as, bs, b, _, ha, hb, _, _, _, _, h, w' => by
    have ha' : as = [] := List.eq_nil_of_length_eq_zero (by simpa using ha)
    have hb' : bs = [] := List.eq_nil_of_length_eq_zero (by simpa using hb)
    subst ha'; subst hb'
    simp only [eqCells, Option.some.injEq] at h
    subst h
    rfl
  | f :: fs, i, [], bs, b, _, ha, hb, _, _, _, _, h, w' => by simp at ha
  | f :: fs, i, a :: as, [], b, _, ha, hb, _, _, _, _, h, w' => by simp at hb
  | f :: fs, i, a :: as, c :: bs, b, hf, ha, hb, fa, fb, ra, rb, h, w' => by
    obtain ⟨h0, h1, h2⟩ := hf 0 f rfl
    obtain ⟨u, hu, ru⟩ := ra 0 a rfl
    obtain ⟨v, hv, rv⟩ := rb 0 c rfl
    simp only [eqCells] at h
    cases he : eqCell a c with
    | none => simp [he] at h
    | some b1 =>
      cases hes : eqCells as bs with
      | none => simp [he, hes] at h
      | some b2 =>
        simp only [he, hes, Option.bind_some, Option.map_some, Option.some.injEq] at h
        subst h
        have e1 := rv_eqCell (P := P) (d := d) he (fa 0 f a rfl rfl) (fb 0 f c rfl rfl) ru rv w'
        have ih := rv_eqFields (d := d) xs ys fs (i + 1) as bs b2 (fun j g hg => by have := hf (j + 1) g (by simpa using hg); refine ⟨by omega, this.2⟩) (by simpa using ha) (by simpa using hb)
          (fun j g x hg hx => fa (j + 1) g x (by simpa using hg) (by simpa using hx)) (fun j g x hg hx => fb (j + 1) g x (by simpa using hg) (by simpa using hx))
          (fun j x hx => by have := ra (j + 1) x (by simpa using hx); rwa [show i + (j + 1) = i + 1 + j by omega] at this) (fun j x hx => by have := rb (j + 1) x (by simpa using hx); rwa [show i + (j + 1) = i + 1 + j by omega] at this) hes w'
        simp only [Nat.add_zero] at hu hv h0
        have hn : (f.name ≠ "_") := by simpa using h1
        simp only [Op.eqFields, hn, ne_eq, not_false_eq_true, if_true, Sem.run_bind, part, run_isAgg' h2, Result.andThen_ok, Bool.false_eq_true, if_false, h0, hu, hv, Sem.run_pure, e1]
        cases b1
        · simp
        · simp [ih]

theorem all_zip {α β : Type} {p : α × β → Bool} : ∀ {as : List α} {bs : List β}, (as.zip bs).all p = true → ∀ (j : Nat) (a : α) (b : β), as[j]? = some a → bs[j]? = some b → p (a, b) = true
  | [], bs, _, j, a, b, ha, _ => by simp at ha
  | a' :: as, [], _, j, a, b, _, hb => by simp at hb
  | a' :: as, b' :: bs, h, 0, a, b, ha, hb => by simp at ha hb h; subst ha; subst hb; exact h.1
  | a' :: as, b' :: bs, h, j + 1, a, b, ha, hb => by
    simp only [List.zip_cons_cons, List.all_cons, Bool.and_eq_true] at h
    exact all_zip h.2 j a b (by simpa using ha) (by simpa using hb)

theorem plainTy_spec {t : TypeId} {ts : List TypeId} (h : plainTy P t = some ts) : ∃ fs, P.underlying t = some (.struct fs) ∧ ts = fs.toList.map (·.type) ∧ P.stoodInHeld t = false ∧ P.eqGuardType P.depth t = false ∧
    ∀ (j : Nat) (f : Field), fs.toList[j]? = some f → f.offset = j ∧ (f.name != "_") = true ∧ aggTy P f.type = some false := by
  unfold plainTy at h
  split at h
  · rename_i fs hfs
    split at h
    · rename_i hc
      cases h
      simp only [Bool.and_eq_true, Bool.not_eq_true', List.all_eq_true] at hc
      refine ⟨fs, hfs, rfl, hc.1.2, hc.2, fun j f hf => ?_⟩
      have hm : (f, j) ∈ fs.toList.zipIdx := by
        rw [List.mem_iff_getElem?]
        exact ⟨j, by simp [List.getElem?_zipIdx, hf]⟩
      have := hc.1.1 (f, j) hm
      simp only [beq_iff_eq] at this
      refine ⟨this.1.1.1, this.1.1.2, ?_⟩
      obtain ⟨_, h4⟩ := this
      unfold aggTy
      cases hu : P.underlying f.type with
      | none => simp [hu] at h4
      | some d => cases d <;> simp [hu] at h4 ⊢
    · cases h
  · cases h

theorem rv_eqStruct {t : TypeId} {ts : List TypeId} {xs ys : List AV} {us vs : List Value} {b : Bool} (hp : plainTy P t = some ts) (hl : xs.length = ts.length) (hl' : ys.length = ts.length)
    (fx : (ts.zip xs).all (fun (u, x) => cellFits P u x) = true) (fy : (ts.zip ys).all (fun (u, x) => cellFits P u x) = true) (he : eqCells xs ys = some b)
    (h1 : xs.length = us.length) (h2 : ∀ (j : Nat) (x : AV) (v : Value), xs[j]? = some x → us[j]? = some v → RvM φ σ w x v) (h3 : ys.length = vs.length) (h4 : ∀ (j : Nat) (x : AV) (v : Value), ys[j]? = some x → vs[j]? = some v → RvM φ σ w x v) (w' : World) :
    (Op.equalIn 10000 t (.agg us.toArray) (.agg vs.toArray)).run P w' = .ok b w' ∧ ∀ op x y, (eqGuard op t x y (.agg us.toArray) (.agg vs.toArray)).run P w' = .ok () w' := by
  obtain ⟨fs, hu, rfl, hs, hg, hf⟩ := plainTy_spec hp
  have hfo : P.fieldsOf t = fs := by simp [Program.fieldsOf, hu]
  refine ⟨?_, fun op x y => run_eqGuard_agg w' op t x y _ _ hg⟩
  rw [run_equalIn_struct w' 9999 t _ _ (by rw [hfo]; exact hu) hs, hfo]
  have get : ∀ (zs : List AV) (qs : List Value), zs.length = qs.length → (∀ (j : Nat) (x : AV) (v : Value), zs[j]? = some x → qs[j]? = some v → RvM φ σ w x v) → ∀ (j : Nat) (x : AV), zs[j]? = some x → ∃ u, qs.toArray[0 + j]? = some u ∧ RvM φ σ w x u := by
    intro zs qs hlen hr j x hx
    have hj : j < qs.length := by rw [← hlen]; exact (List.getElem?_eq_some_iff.1 hx).1
    exact ⟨qs[j], by simp [hj], hr j x _ hx (List.getElem?_eq_getElem hj)⟩
  have fits : ∀ (zs : List AV), ((fs.toList.map (·.type)).zip zs).all (fun (u, x) => cellFits P u x) = true → ∀ (j : Nat) (f : Field) (x : AV), fs.toList[j]? = some f → zs[j]? = some x → cellFits P f.type x = true := by
    intro zs hz j f x hjf hx
    exact all_zip hz j f.type x (by rw [List.getElem?_map, hjf]; rfl) hx
  exact rv_eqFields (P := P) (φ := φ) (σ := σ) (w := w) (d := 9998) us.toArray vs.toArray fs.toList 0 xs ys b (fun j f hj => by have := hf j f hj; exact ⟨by omega, this.2⟩) (by simpa using hl) (by simpa using hl') (fits xs fx) (fits ys fy) (get xs us h1 h2) (get ys vs h3 h4) he w'

theorem run_eqSlice {d : Nat} {t e : TypeId} (hs : P.underlying t = some (.slice e)) (n c m k : Nat) (w : World) :
    (∀ b, (Op.equalIn (d + 1) t (.slice none n c) (.slice b m k)).run P w = .ok b.isNone w) ∧ ∀ a, (Op.equalIn (d + 1) t (.slice (some a) n c) (.slice none m k)).run P w = .ok false w :=
  ⟨fun b => by simp [Op.equalIn, run_underlying hs], fun a => by simp [Op.equalIn, run_underlying hs]⟩

theorem rv_nilEq {t e : TypeId} {x y : AV} {b : Bool} {u v : Value} (hs : P.underlying t = some (.slice e)) (h : nilEq x y = some b) (hx : RvM φ σ w x u) (hy : RvM φ σ w y v) (w' : World) :
    (Op.equal t u v).run P w' = .ok b w' ∧ (∃ a n c, u = .slice a n c) ∧ (∃ a n c, v = .slice a n c) := by
  have r1 : ∀ b n c m k, (Op.equal t (.slice none n c) (.slice b m k)).run P w' = .ok b.isNone w' := fun b n c m k => (run_eqSlice (d := 9999) hs n c m k w').1 b
  have r2 : ∀ a n c m k, (Op.equal t (.slice (some a) n c) (.slice none m k)).run P w' = .ok false w' := fun a n c m k => (run_eqSlice (d := 9999) hs n c m k w').2 a
  unfold nilEq at h
  split at h
  · cases h; cases hx; cases hy
    exact ⟨r1 _ _ _ _ _, ⟨_, _, _, rfl⟩, ⟨_, _, _, rfl⟩⟩
  · split at h
    · cases h
      cases hy
      cases hx with
      | imm0 => omega
      | imm _ cs ad c vs => exact ⟨r2 _ _ _ _ _, ⟨_, _, _, rfl⟩, ⟨_, _, _, rfl⟩⟩
    · cases h
  · split at h
    · cases h
      cases hx
      cases hy with
      | imm0 => omega
      | imm _ cs ad c vs => exact ⟨r1 _ _ _ _ _, ⟨_, _, _, rfl⟩, ⟨_, _, _, rfl⟩⟩
    · cases h
  · cases h; cases hx; cases hy
    exact ⟨r2 _ _ _ _ _, ⟨_, _, _, rfl⟩, ⟨_, _, _, rfl⟩⟩
  · cases h; cases hx; cases hy
    exact ⟨r1 _ _ _ _ _, ⟨_, _, _, rfl⟩, ⟨_, _, _, rfl⟩⟩
  · cases h; cases hx; cases hy
    exact ⟨r2 _ _ _ _ _, ⟨_, _, _, rfl⟩, ⟨_, _, _, rfl⟩⟩
  · cases h; cases hx; cases hy
    exact ⟨r1 _ _ _ _ _, ⟨_, _, _, rfl⟩, ⟨_, _, _, rfl⟩⟩
  · cases h

theorem rv_bin {op : BinOp} {t : TypeId} {x y z : AV} {u v : Value} (xo yo : Operand) (h : binA P op t x y = some z) (hx : RvM φ σ w x u) (hy : RvM φ σ w y v) :
    ∃ r, RvM φ σ w z r ∧ Qy P (do eqGuard op t xo yo u v; binOp op t u v) w r := by
  unfold binA at h
  split at h
  · rename_i k a k' b
    split at h
    · rename_i hk
      subst hk
      cases hx; cases hy
      obtain ⟨r, rfl, hr⟩ := run_intBin (P := P) t h
      exact ⟨r, .lit r, fun w' _ => by simp [eqGuard_at_int, hr w']⟩
    · cases h
  · cases hx; cases hy
    obtain ⟨r, rfl, hr⟩ := run_strBin (P := P) t h
    exact ⟨r, .lit r, fun w' _ => by simp [eqGuard_at_string, hr w']⟩
  · split at h
    · rename_i hb
      have hu := boolTy_spec hb
      cases hx; cases hy
      cases op <;> simp only at h <;> first
        | (cases h; exact ⟨_, .lit _, fun w' _ => by simp [eqGuard_at_bool, binOp, Op.equal, Op.maxDepth, run_equalIn_bool' w' 9999 t _ _ hu, bne]⟩)
        | cases h
    · cases h
  · rename_i xs ys
    split at h
    · rename_i ts hp
      split at h
      · rename_i hc
        obtain ⟨h1, h2, h3, h4⟩ := hc
        cases hx with
        | agg _ us k1 k2 k3 =>
          cases hy with
          | agg _ vs k4 k5 k6 =>
            cases he : eqCells xs ys with
            | none => cases op <;> simp [he] at h
            | some b =>
              have run := fun w' => rv_eqStruct (P := P) (φ := φ) (σ := σ) (w := w) hp h1 h2 h3 h4 he k1 k2 k4 k5 w'
              cases op <;> simp only [he, Option.map_some] at h <;> first
                | (cases h; refine ⟨_, .lit _, fun w' _ => ?_⟩; obtain ⟨q1, q2⟩ := run w'; simp [q2, run_eql_struct, run_neq_struct, q1])
                | cases h
      · cases h
    · cases h
  · split at h
    · rename_i q hq
      obtain ⟨e, sz, by_⟩ := q
      obtain ⟨hu, _⟩ := sliceTy_spec hq
      cases hn : nilEq x y with
      | none => cases op <;> simp [hn] at h
      | some b =>
        have run := fun w' => rv_nilEq (P := P) hu hn hx hy w'
        obtain ⟨_, ⟨a1, n1, c1, rfl⟩, ⟨a2, n2, c2, rfl⟩⟩ := run w
        cases op <;> simp only [hn, Option.map_some] at h <;> first
          | (cases h; refine ⟨_, .lit _, fun w' _ => ?_⟩; simp [eqGuard_at_slice, binOp, (run w').1])
          | cases h
    · cases h

theorem rv_un {op : UnOp} {x z : AV} {u : Value} (h : unA op x = some z) (hx : RvM φ σ w x u) : ∃ r, RvM φ σ w z r ∧ Qy P (Op.unary op u) w r := by
  unfold unA at h
  split at h
  · cases hx
    cases op <;> simp only at h <;> first | (cases h; exact ⟨_, .lit _, fun w' _ => by simp [Op.unary, Op.intArith]⟩) | cases h
  · cases hx
    cases op <;> simp only at h <;> first | (cases h; exact ⟨_, .lit _, fun w' _ => by simp [Op.unary]⟩) | cases h
  · cases h

theorem rv_conv {s d : TypeId} {x z : AV} {u : Value} (h : convA P s d x = some z) (hx : RvM φ σ w x u) : ∃ r, RvM φ σ w z r ∧ Qy P (convert s d u) w r := by
  unfold convA at h
  split at h
  · split at h
    · rename_i ds k hs hd
      have hd' := intTy_spec hd
      cases h; cases hx
      refine ⟨_, .lit _, fun w' _ => ?_⟩
      simp [convert, run_underlying hs, run_underlying hd', Conv.intToInt]
    · cases h
  · split at h
    · rename_i hc
      cases h; cases hx
      refine ⟨_, .lit _, fun w' _ => ?_⟩
      simp [convert, run_underlying (strTy_spec hc.1), run_underlying (strTy_spec hc.2)]
    · cases h
  · cases h

theorem rv_len {t : TypeId} {x z : AV} {u : Value} (ts : Array TypeId) (ty : TypeId) (ht : ts[0]? = some t) (h : lenA P t x = some z) (hx : RvM φ σ w x u) : ∃ r, RvM φ σ w z r ∧ Qy P (Builtin.len_ ts ty #[u]) w r := by
  have sl : ∀ (q : TypeId × Nat × Nat) (a : Option Addr) (n c : Nat), sliceTy P t = some q → Qy P (Builtin.len_ ts ty #[.slice a n c]) w (.int .i64 n) := fun q a n c hq w' _ => by
    obtain ⟨e, sz, by_⟩ := q
    obtain ⟨hu, _⟩ := sliceTy_spec hq
    simp [Builtin.len_, ht, run_underlying hu, goInt]
  unfold lenA at h
  split at h
  · split at h
    · rename_i s hs
      cases h; cases hx
      exact ⟨_, .lit _, fun w' _ => by simp [Builtin.len_, ht, run_underlying (strTy_spec hs), goInt]⟩
    · cases h
  · cases hq : sliceTy P t with
    | none => simp [hq] at h
    | some q => simp only [hq, Option.map_some, Option.some.injEq] at h; subst h; cases hx; exact ⟨_, .lit _, sl q none 0 0 hq⟩
  · cases hq : sliceTy P t with
    | none => simp [hq] at h
    | some q =>
      simp only [hq, Option.map_some, Option.some.injEq] at h
      subst h
      cases hx with
      | imm0 A c hc => exact ⟨_, .lit _, sl q A 0 c hq⟩
      | imm _ cs ad c vs => exact ⟨_, .lit _, sl q (some ad) _ c hq⟩
  · cases hq : sliceTy P t with
    | none => simp [hq] at h
    | some q => simp only [hq, Option.map_some, Option.some.injEq] at h; subst h; cases hx; exact ⟨_, .lit _, sl q _ _ _ hq⟩
  · cases h
end
end Go.Ew
