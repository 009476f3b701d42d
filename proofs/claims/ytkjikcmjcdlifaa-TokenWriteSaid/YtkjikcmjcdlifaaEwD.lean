/-
  Operations that make or write memory: what 'evOp' says of them is what the model does. Nothing here is about one program.
-/
import Derived.Test.YtkjikcmjcdlifaaEwC
namespace Go.Ew
open Go Go.RowKit

section
variable {P : Program} {φ : Nat → Nat} {σ : Mem} {w : World}

/-! ### Lists of cells -/
theorem rvL_nil : RvL φ σ w [] [] := ⟨rfl, fun j x v h => by simp at h⟩
theorem rvL_append {xs ys : List AV} {us vs : List Value} (h : RvL φ σ w xs us) (k : RvL φ σ w ys vs) : RvL φ σ w (xs ++ ys) (us ++ vs) := by
  refine ⟨by simp [h.1, k.1], fun j x v hx hv => ?_⟩
  by_cases hj : j < xs.length
  · rw [List.getElem?_append_left hj] at hx
    rw [List.getElem?_append_left (by rw [← h.1]; exact hj)] at hv
    exact h.2 j x v hx hv
  · rw [List.getElem?_append_right (by omega)] at hx
    rw [List.getElem?_append_right (by rw [← h.1]; omega), ← h.1] at hv
    exact k.2 _ x v hx hv
theorem rvL_take {xs : List AV} {us : List Value} (h : RvL φ σ w xs us) (n : Nat) : RvL φ σ w (xs.take n) (us.take n) := by
  refine ⟨by simp [h.1], fun j x v hx hv => ?_⟩
  rw [List.getElem?_take] at hx hv
  split at hx
  · rename_i hj
    rw [if_pos hj] at hv
    exact h.2 j x v hx hv
  · cases hx
theorem rvL_drop {xs : List AV} {us : List Value} (h : RvL φ σ w xs us) (n : Nat) : RvL φ σ w (xs.drop n) (us.drop n) := by
  refine ⟨by simp [h.1], fun j x v hx hv => ?_⟩
  rw [List.getElem?_drop] at hx hv
  exact h.2 _ x v hx hv
theorem rvL_splice {xs new : List AV} {us vs : List Value} (h : RvL φ σ w xs us) (k : RvL φ σ w new vs) (off : Nat) : RvL φ σ w (spliceA xs off new) (us.take off ++ vs ++ us.drop (off + vs.length)) := by
  unfold spliceA
  rw [k.1]
  exact rvL_append (rvL_append (rvL_take h off) k) (rvL_drop h _)
theorem rvL_map (vs : List Value) : RvL φ σ w (vs.map cellA) vs := ⟨by simp, rv_cells vs⟩

/-- What a block begins with, as the relation asks it. -/
theorem pre_of_rvL {cs : List AV} {vs : List Value} {cur : Array Value} (h : RvL φ σ w cs vs) (h1 : ∀ v ∈ vs, v.oneCell' = true) (hp : ∀ (j : Nat) (v : Value), vs[j]? = some v → cur[j]? = some v) :
    ∀ (j : Nat) (x : AV), cs[j]? = some x → ∃ v, cur[j]? = some v ∧ v.oneCell' = true ∧ RvM φ σ w x v := by
  intro j x hx
  have hj : j < vs.length := by rw [← h.1]; exact (List.getElem?_eq_some_iff.1 hx).1
  exact ⟨vs[j], hp j _ (List.getElem?_eq_getElem hj), h1 _ (List.getElem_mem hj), h.2 j x _ hx (List.getElem?_eq_getElem hj)⟩

/-- The cells of an object, out of its block. -/
theorem obj_cells (hr : RelM φ σ w) {id : Nat} {cs : List AV} (h : σ.get id = some cs) :
    ∃ (cur : Array Value), w.heap[φ id]? = some (.cells cur (σ.ty id) (0, 0)) ∧ cs.length ≤ cur.size ∧ RvL φ σ w cs (cur.toList.take cs.length) ∧ ∀ v ∈ cur.toList.take cs.length, v.oneCell' = true := by
  obtain ⟨cur, h1, h2, h3⟩ := hr.cell id cs h
  refine ⟨cur, h1, h2, ⟨by simp; omega, fun j x v hx hv => ?_⟩, fun v hv => ?_⟩
  · obtain ⟨u, h4, _, h6⟩ := h3 j x hx
    have hj : j < cs.length := (List.getElem?_eq_some_iff.1 hx).1
    rw [List.getElem?_take_of_lt hj, Array.getElem?_toList, h4] at hv
    cases hv
    exact h6
  · obtain ⟨j, hj, rfl⟩ := List.getElem_of_mem hv
    have hjc : j < cs.length := by simp at hj; omega
    obtain ⟨u, h4, h5, _⟩ := h3 j _ (List.getElem?_eq_getElem hjc)
    have : cur[j]? = some (cur.toList.take cs.length)[j] := by
      rw [List.getElem_take, Array.getElem_toList]
      exact Array.getElem?_eq_getElem (by omega)
    rw [h4] at this
    cases this
    exact h5

/-! ### Building -/
theorem foldl_set (off : Nat) : ∀ (l : List Value) (k : Nat) (cells : Array Value), off + k + l.length ≤ cells.size →
    (l.zipIdx k).foldl (fun cs (p : Value × Nat) => cs.setIfInBounds (off + p.2) p.1) cells = (cells.toList.take (off + k) ++ l ++ cells.toList.drop (off + k + l.length)).toArray
  | [], k, cells, h => by simp
  | v :: l, k, cells, h => by
    simp only [List.length_cons] at h
    rw [List.zipIdx_cons, List.foldl_cons, foldl_set off l (k + 1) _ (by simp; omega)]
    apply Array.ext'
    simp only [Array.toList_setIfInBounds, List.length_cons]
    apply List.ext_getElem?
    intro j
    have hlt : off + k < cells.size := by omega
    have m1 : min (off + (k + 1)) cells.size = off + (k + 1) := by omega
    have m2 : min (off + k) cells.size = off + k := by omega
    rcases Nat.lt_trichotomy j (off + k) with hj | hj | hj
    · simp [List.getElem?_append, hj, show j < off + (k + 1) by omega, show ¬ off + k = j by omega, m1, m2]
    · subst hj
      simp [List.getElem?_append, show off + k < off + (k + 1) by omega, m1, m2]
    · obtain ⟨d, rfl⟩ : ∃ d, j = off + k + 1 + d := ⟨j - (off + k + 1), by omega⟩
      simp only [List.append_assoc]
      rw [List.getElem?_append_right (by simp only [List.length_take, List.length_set, Array.length_toList, m1]; omega), List.getElem?_append_right (l₁ := cells.toList.take (off + k)) (by simp only [List.length_take, Array.length_toList, m2]; omega)]
      simp only [List.length_take, List.length_set, Array.length_toList, m1, m2]
      rw [show off + k + 1 + d - (off + (k + 1)) = d by omega, show off + k + 1 + d - (off + k) = d + 1 by omega, List.cons_append, List.getElem?_cons_succ]
      by_cases hd : d < l.length
      · rw [List.getElem?_append_left hd, List.getElem?_append_left hd]
      · rw [List.getElem?_append_right (by omega), List.getElem?_append_right (by omega), List.getElem?_drop, List.getElem?_drop, List.getElem?_set]
        rw [if_neg (by omega)]
        congr 1
        omega

/-- A splice within the first L cells. -/
theorem splice_take (A v : List Value) (off L : Nat) (h1 : off + v.length ≤ L) (h2 : L ≤ A.length) :
    (A.take off ++ v ++ A.drop (off + v.length)).take L = (A.take L).take off ++ v ++ (A.take L).drop (off + v.length) := by
  have m1 : min off A.length = off := by omega
  have m2 : min L A.length = L := by omega
  have m3 : min off L = off := by omega
  apply List.ext_getElem?
  intro j
  by_cases hL : j < L
  · rw [List.getElem?_take_of_lt hL]
    rcases Nat.lt_or_ge j off with hj | hj
    · simp [List.getElem?_append, m1, m2, m3, hj]
    · rcases Nat.lt_or_ge j (off + v.length) with hk | hk
      · simp [List.getElem?_append, m1, m2, m3, show ¬ j < off by omega, show j - off < v.length by omega]
      · simp [List.getElem?_append, m1, m2, m3, show ¬ j < off by omega, show ¬ j - off < v.length by omega, show off + v.length + (j - off - v.length) = j by omega, hL]
  · rw [List.getElem?_eq_none (by simp; omega), List.getElem?_eq_none (by simp; omega)]

/-- Parts, by content and the model's. -/
def RvP (φ : Nat → Nat) (σ : Mem) (w : World) : List (Nat × AV) → List (Nat × Value) → Prop
  | [], [] => True
  | (i, x) :: ps, (j, v) :: qs => i = j ∧ RvM φ σ w x v ∧ RvP φ σ w ps qs
  | _, _ => False

theorem rvP_parts {fr : Fr} {a : Act} (h : RelF φ σ w fr a.tmps) : ∀ ps : List (Nat × Operand), RvP φ σ w (ps.map fun (i, x) => (i, evalA fr x)) (ps.map fun (i, x) => (i, a.eval x))
  | [] => trivial
  | (_, x) :: ps => ⟨rfl, rv_eval h x, rvP_parts h ps⟩

theorem rv_fill {plA pl : Nat → Option (Nat × Nat)} (hpl : ∀ i q, plA i = some q → pl i = some q) : ∀ (ps : List (Nat × AV)) (qs : List (Nat × Value)) (cs out : List AV) (cells : Array Value), RvP φ σ w ps qs → RvL φ σ w cs cells.toList → (∀ v ∈ cells.toList, v.oneCell' = true) →
    fillA plA cs ps = some out → ∃ res, Instr.fill pl cells qs = some res ∧ RvL φ σ w out res.toList ∧ (∀ v ∈ res.toList, v.oneCell' = true) ∧ res.size = cells.size
  | [], [], cs, out, cells, _, hc, h1, h => by
    simp only [fillA, Option.some.injEq] at h
    subst h
    exact ⟨cells, rfl, hc, h1, rfl⟩
  | [], _ :: _, cs, out, cells, hp, hc, h1, h => hp.elim
  | _ :: _, [], cs, out, cells, hp, hc, h1, h => hp.elim
  | (_, x) :: ps, (_, v) :: qs, cs, out, cells, hp, hc, h1, h => by
    obtain ⟨rfl, hx, hp⟩ := hp
    simp only [fillA] at h
    split at h
    · rename_i off size new hpi hn
      split at h
      · rename_i hb
        obtain ⟨hl, hle⟩ := hb
        obtain ⟨k1, k2⟩ := rv_cellsA hn hx
        have hsz : v.cells.size = size := by have := k1.1; simp at this; omega
        have hcs : cs.length = cells.size := by simpa using hc.1
        have e : v.cells.zipIdx.foldl (fun cs (p : Value × Nat) => cs.setIfInBounds (off + p.2) p.1) cells = (cells.toList.take off ++ v.cells.toList ++ cells.toList.drop (off + v.cells.toList.length)).toArray := by
          rw [← Array.foldl_toList, Array.toList_zipIdx]
          exact foldl_set off v.cells.toList 0 cells (by simp; omega)
        have hs := rvL_splice hc k1 off
        obtain ⟨res, r1, r2, r3, r4⟩ := rv_fill hpl ps qs (spliceA cs off new) out (cells.toList.take off ++ v.cells.toList ++ cells.toList.drop (off + v.cells.toList.length)).toArray hp (by simpa using hs) (fun u hu => by
          simp only [List.mem_append] at hu
          rcases hu with (hu | hu) | hu
          · exact h1 u (List.mem_of_mem_take hu)
          · exact k2 u hu
          · exact h1 u (List.mem_of_mem_drop hu)) h
        refine ⟨res, ?_, r2, r3, ?_⟩
        · have hbad : (v.cells.size ≠ size || off + v.cells.size > cells.size) = false := by
            simp only [ne_eq, Bool.or_eq_false_iff, decide_eq_false_iff_not, Decidable.not_not]; omega
          simp only [Instr.fill, hpl _ _ hpi, hbad, Bool.false_eq_true, if_false]
          rw [e]
          exact r1
        · rw [r4]
          simp
          omega
      · cases h
    · cases h

theorem zeroTy_spec {t : TypeId} {z : List AV} (h : zeroTy P t = some z) : ∃ i v, P.info? t = some i ∧ i.zero = some v ∧ z = v.cells.toList.map cellA ∧ ∀ u ∈ v.cells.toList, u.oneCell' = true := by
  unfold zeroTy at h
  cases hi : P.info? t with
  | none => simp [hi] at h
  | some i =>
    cases hz : i.zero with
    | none => simp [hi, hz] at h
    | some v =>
      simp only [hi, hz, Option.bind_some] at h
      split at h
      · rename_i ha
        cases h
        exact ⟨i, v, rfl, hz, rfl, by simpa only [List.all_eq_true] using ha⟩
      · cases h

theorem rv_build {t : TypeId} {parts : List (Nat × AV)} {z : AV} {qs : Array (Nat × Value)} (h : buildA P t parts = some z) (hp : RvP φ σ w parts qs.toList) : ∃ r, RvM φ σ w z r ∧ Qy P (Instr.build t qs) w r := by
  unfold buildA at h
  split at h
  · rename_i zc pl hz hpl
    obtain ⟨i, v, hi, hv, rfl, h1⟩ := zeroTy_spec hz
    cases hf : fillA (fun i => pl[i]?) (v.cells.toList.map cellA) parts with
    | none => simp [hf] at h
    | some out =>
      simp only [hf, Option.map_some, Option.some.injEq] at h
      subst h
      unfold placesTy at hpl
      split at hpl
      · rename_i fs hu
        obtain ⟨res, r1, r2, r3, _⟩ := rv_fill (φ := φ) (σ := σ) (w := w) (plA := fun i => pl[i]?) (pl := (pl.toArray[·]?)) (fun i q hq => by simpa using hq) parts qs.toList _ out v.cells hp (rvL_map _) h1 hf
        refine ⟨.agg res, by simpa using Rv.agg (φ := φ) (n := σ.next) (L := Live φ σ) (w := w) out res.toList r2.1 r2.2 r3, fun w' _ => run_build w' t qs res ?_⟩
        unfold Program.built
        simp only [hi, hu, hv]
        have hpl' : (fs.toList.mapM fun f => (P.info? f.type).map fun i => (f.offset, i.size)) = some pl := hpl
        rw [hpl']
        exact r1
      · rename_i n e hu
        cases hie : P.info? e with
        | none => simp [hie] at hpl
        | some ie =>
          simp only [hie, Option.map_some, Option.some.injEq] at hpl
          subst hpl
          obtain ⟨res, r1, r2, r3, _⟩ := rv_fill (φ := φ) (σ := σ) (w := w) (plA := fun i => ((List.range n).map fun k => (k * ie.size, ie.size))[i]?) (pl := fun i => some (i * ie.size, ie.size)) (fun i q hq => by
            simp only [List.getElem?_map] at hq
            by_cases hin : i < n
            · rw [List.getElem?_range hin] at hq; simpa using hq
            · rw [List.getElem?_eq_none (by simpa using hin)] at hq; simp at hq) parts qs.toList _ out v.cells hp (rvL_map _) h1 hf
          refine ⟨.agg res, by simpa using Rv.agg (φ := φ) (n := σ.next) (L := Live φ σ) (w := w) out res.toList r2.1 r2.2 r3, fun w' _ => run_build w' t qs res ?_⟩
          unfold Program.built
          simp only [hi, hu, hv, hie]
          exact r1
      · cases hpl
  · cases h

/-! ### New memory -/
/-- What an operation that makes or writes memory comes to. -/
def Does (P : Program) (s : Sem Value) (φ : Nat → Nat) (σ : Mem) (w : World) (x : AV) (σ' : Mem) : Prop := ∃ v w' φ', s.run P w = .ok v w' ∧ RelM φ' σ' w' ∧ RvM φ' σ' w' x v ∧ Step φ σ w φ' σ' w'

theorem does_new {s : Sem Value} {cs : List AV} {cur : Array Value} {e : TypeId} {w' : World} (hr : RelM φ σ w) (vs : List Value) (hc : RvL φ σ w cs vs) (h1 : ∀ v ∈ vs, v.oneCell' = true) (hp : ∀ (j : Nat) (v : Value), vs[j]? = some v → cur[j]? = some v) (hl : vs.length ≤ cur.size)
    (hrun : s.run P w = .ok (.pointer (some ⟨w.heap.size, 0, none⟩)) w') (hw : w'.heap = w.heap.push (.cells cur e (0, 0))) (ho : w'.os = w.os) (ht : w'.tape = w.tape) (hu : w'.output = w.output) :
    Does P s φ σ w (.ptr σ.next 0) (σ.alloc e cs) := by
  obtain ⟨φ', h2, h3, h4⟩ := relM_alloc hr cs cur e (by rw [hc.1]; exact hl) (pre_of_rvL hc h1 hp) hw ho ht hu
  refine ⟨_, w', φ', hrun, h3, ?_, h4⟩
  rw [← h2]
  exact .ptr _ _ (Nat.lt_succ_self _)

theorem does_slice {s : Sem Value} {cs : List AV} {cur : Array Value} {e : TypeId} {w' : World} {n sz cap : Nat} (hr : RelM φ σ w) (vs : List Value) (hc : RvL φ σ w cs vs) (h1 : ∀ v ∈ vs, v.oneCell' = true) (hp : ∀ (j : Nat) (v : Value), vs[j]? = some v → cur[j]? = some v) (hl : vs.length ≤ cur.size)
    (hn : n ≤ cap) (hm : cap ≤ maxLen) (hs : cap * sz ≤ cur.size)
    (hrun : s.run P w = .ok (.slice (some ⟨w.heap.size, 0, none⟩) n cap) w') (hw : w'.heap = w.heap.push (.cells cur e (0, 0))) (ho : w'.os = w.os) (ht : w'.tape = w.tape) (hu : w'.output = w.output) :
    Does P s φ σ w (.arr σ.next 0 n sz) (σ.alloc e cs) := by
  obtain ⟨φ', h2, h3, h4⟩ := relM_alloc hr cs cur e (by rw [hc.1]; exact hl) (pre_of_rvL hc h1 hp) hw ho ht hu
  refine ⟨_, w', φ', hrun, h3, ?_, h4⟩
  rw [← h2]
  refine .arr _ _ _ _ _ (Nat.lt_succ_self _) hn hm ⟨cur, e, (0, 0), ?_, by omega⟩
  rw [h2, hw]
  simp

theorem does_alloc {t : TypeId} {z : List AV} (hr : RelM φ σ w) (hz : zeroTy P t = some z) : Does P (Instr.alloc t true (.tuple #[])) φ σ w (.ptr σ.next 0) (σ.alloc t z) := by
  obtain ⟨i, v, hi, hv, rfl, h1⟩ := zeroTy_spec hz
  refine does_new hr v.cells.toList (rvL_map _) h1 (cur := v.cells) (e := t) (w' := w.alloc (.cells v.cells t)) (fun j u hu => by simpa using hu) (by simp) ?_ rfl rfl rfl rfl
  simp [Instr.alloc, zeroValue, typeInfo, hi, hv, newVar, newRow]

theorem does_box {t : TypeId} {x : AV} {cs : List AV} {v : Value} (hr : RelM φ σ w) (hc : cellsA x = some cs) (hx : RvM φ σ w x v) : Does P (Instr.box t v) φ σ w (.ptr σ.next 0) (σ.alloc t cs) := by
  obtain ⟨k1, k2⟩ := rv_cellsA hc hx
  refine does_new hr v.cells.toList k1 k2 (cur := v.cells) (e := t) (w' := w.alloc (.cells v.cells t)) (fun j u hu => by simpa using hu) (by simp) ?_ rfl rfl rfl rfl
  simp [Instr.box, newVar, newRow]

/-! ### Zero cells -/
theorem length_zerosA (z : List AV) : ∀ n, (zerosA z n).length = n * z.length
  | 0 => by simp [zerosA]
  | n + 1 => by simp [zerosA, length_zerosA z n, Nat.add_mul]; omega
theorem getElem?_zerosA (z : List AV) (hz : 0 < z.length) : ∀ (n j : Nat), j < n * z.length → (zerosA z n)[j]? = z[j % z.length]?
  | 0, j, h => by simp at h
  | n + 1, j, h => by
    simp only [zerosA]
    by_cases hj : j < z.length
    · rw [List.getElem?_append_left hj, Nat.mod_eq_of_lt hj]
    · rw [List.getElem?_append_right (by omega), getElem?_zerosA z hz n (j - z.length) (by rw [Nat.add_mul] at h; omega)]
      congr 1
      exact (Nat.mod_eq_sub_mod (by omega)).symm

theorem rvL_zeros (zs : Array Value) (hz : 0 < zs.size) (n m : Nat) (hm : m = n * zs.size) : RvL φ σ w (zerosA (zs.toList.map cellA) n) ((List.range m).map fun j => zs[j % zs.size]!) := by
  subst hm
  refine ⟨by simp [length_zerosA], fun j x v hx hv => ?_⟩
  have hj : j < n * zs.size := by
    have := (List.getElem?_eq_some_iff.1 hx).1
    simpa [length_zerosA] using this
  rw [getElem?_zerosA _ (by simpa using hz) n j (by simpa using hj)] at hx
  rw [List.getElem?_map, List.getElem?_range hj] at hv
  simp only [Option.map_some, Option.some.injEq] at hv
  have hlt : j % zs.size < zs.size := Nat.mod_lt _ hz
  simp only [List.length_map, Array.length_toList, List.getElem?_map, Array.getElem?_toList, Array.getElem?_eq_getElem hlt, Option.map_some, Option.some.injEq] at hx
  subst hx; subst hv
  rw [getElem!_pos zs _ hlt]
  exact rv_cell _

theorem oneCell_zeros (zs : Array Value) (hz : 0 < zs.size) (h1 : ∀ u ∈ zs.toList, u.oneCell' = true) (m : Nat) : ∀ v ∈ (List.range m).map (fun j => zs[j % zs.size]!), v.oneCell' = true := by
  intro v hv
  simp only [List.mem_map] at hv
  obtain ⟨j, _, rfl⟩ := hv
  have hlt : j % zs.size < zs.size := Nat.mod_lt _ hz
  rw [getElem!_pos zs _ hlt]
  exact h1 _ (by simp)

theorem does_makeSlice {t : TypeId} {l c z : AV} {u v : Value} {σ' : Mem} (hr : RelM φ σ w) (h : makeSliceA P σ t l c = .ok z σ') (hl : RvM φ σ w l u) (hc : RvM φ σ w c v) : Does P (Instr.makeSlice t u v) φ σ w z σ' := by
  unfold makeSliceA at h
  split at h
  · rename_i e sz bytes hs
    obtain ⟨hu, i, hi, hsz, hby⟩ := sliceTy_spec hs
    split at h
    · rename_i zc l' c' hz hl' hc'
      obtain ⟨i', zv, hi', hzv, rfl, h1⟩ := zeroTy_spec hz
      rw [hi] at hi'
      cases hi'
      obtain ⟨kl, rfl⟩ := rv_int hl' hl
      obtain ⟨kc, rfl⟩ := rv_int hc' hc
      split at h
      · rename_i hb
        obtain ⟨b1, b2, b3, b4, b5, b6⟩ := hb
        cases h
        have hzsz : zv.cells.size = sz := by simpa using b1
        have run := run_make (P := P) w t e i zv hu hi hzv kl kc l' c' b3 b4 (by rw [hby]; exact b6) b5
        have hlc : l'.toNat ≤ c'.toNat := by omega
        have hmul : l'.toNat * sz ≤ c'.toNat * sz := Nat.mul_le_mul_right _ hlc
        refine does_slice hr _ (rvL_zeros zv.cells (by omega) l'.toNat (l'.toNat * sz) (by rw [hzsz])) (oneCell_zeros zv.cells (by omega) h1 _) (cur := madeCells zv.cells (c'.toNat * i.size)) (fun j u hu' => ?_) (by simp [size_madeCells, hsz]; exact hmul) hlc (by simp only [maxLen]; omega) (by rw [size_madeCells, hsz]; exact Nat.le_refl _) run rfl rfl rfl rfl
        have hj : j < l'.toNat * sz := by have := (List.getElem?_eq_some_iff.1 hu').1; simpa using this
        rw [List.getElem?_map, List.getElem?_range hj] at hu'
        have hj2 : j < c'.toNat * i.size := by rw [hsz]; omega
        simp only [madeCells, Array.getElem?_map]
        rw [Array.getElem?_range, if_pos hj2]
        simpa using hu'
      · cases h
    · cases h
  · cases h

theorem does_buildSlice {t : TypeId} {n : Nat} {parts : List (Nat × AV)} {z : AV} {σ' : Mem} {qs : Array (Nat × Value)} (hr : RelM φ σ w) (h : buildSliceA P σ t n parts = .ok z σ') (hp : RvP φ σ w parts qs.toList) : Does P (Instr.buildSlice t n qs) φ σ w z σ' := by
  unfold buildSliceA at h
  split at h
  · rename_i e sz bytes hs
    obtain ⟨hu, i, hi, hsz, _⟩ := sliceTy_spec hs
    split at h
    · rename_i zc hz
      obtain ⟨i', zv, hi', hzv, rfl, h1⟩ := zeroTy_spec hz
      rw [hi] at hi'
      cases hi'
      split at h
      · rename_i hb
        obtain ⟨b1, b2, b3⟩ := hb
        have hzsz : zv.cells.size = sz := by simpa using b1
        split at h
        · rename_i cells hf
          cases h
          have key : ∀ (zero : Array Value), (n * sz ≠ 0 → zero = zv.cells) → RvL φ σ w (zerosA (zv.cells.toList.map cellA) n) ((Array.range (n * sz)).map fun j => zero[j % zero.size]!).toList ∧ ∀ v ∈ ((Array.range (n * sz)).map fun j => zero[j % zero.size]!).toList, v.oneCell' = true := by
            intro zero hzero
            by_cases h0 : n * sz = 0
            · rw [h0]
              have : zerosA (zv.cells.toList.map cellA) n = [] := List.eq_nil_of_length_eq_zero (by rw [length_zerosA]; simpa [hzsz] using h0)
              rw [this]
              simp [rvL_nil, Array.range_zero']
            · rw [hzero h0]
              have hpos : 0 < zv.cells.size := by rw [hzsz]; exact Nat.pos_of_ne_zero (fun e => h0 (by rw [e, Nat.mul_zero]))
              simp only [Array.toList_map, Array.toList_range]
              exact ⟨rvL_zeros zv.cells hpos n (n * sz) (by rw [hzsz]), oneCell_zeros zv.cells hpos h1 _⟩
          have fin : ∀ zero : Array Value, (n * sz ≠ 0 → zero = zv.cells) → (∀ res, Instr.fill (fun i => some (i * sz, sz)) ((Array.range (n * sz)).map fun j => zero[j % zero.size]!) qs.toList = some res →
              (Instr.buildSlice t n qs).run P w = .ok (.slice (some ⟨w.heap.size, 0, none⟩) n n) (w.alloc (.cells res e))) → Does P (Instr.buildSlice t n qs) φ σ w (.arr σ.next 0 n sz) (σ.alloc e cells) := by
            intro zero hzero hrun
            obtain ⟨k1, k2⟩ := key zero hzero
            obtain ⟨res, r1, r2, r3, r4⟩ := rv_fill (plA := fun i => some (i * sz, sz)) (pl := fun i => some (i * sz, sz)) (fun i q hq => hq) parts qs.toList _ cells _ hp k1 k2 hf
            have hsize : res.size = n * sz := by rw [r4]; simp
            exact does_slice hr res.toList r2 r3 (cur := res) (fun j u hu' => by simpa using hu') (by simp) (Nat.le_refl n) (by simp only [maxLen]; omega) (by rw [hsize]; exact Nat.le_refl _) (hrun res r1) rfl rfl rfl rfl
          have hok : ¬ (16777216 < n * sz) := by omega
          by_cases h0 : n * sz = 0
          · refine fin #[] (fun h => absurd h0 h) (fun res r1 => ?_)
            simp only [Instr.buildSlice, Sem.run_bind, run_underlying hu, Result.andThen_ok, run_sizeOf_info hi, hsz, Sem.run_ite, gt_iff_lt, Nat.reducePow, Sem.run_pure, h0, if_true]
            rw [h0] at r1
            simp only [r1, Sem.run_bind, newRow, run_newObj, Sem.run_pure, Result.andThen_ok]
            rfl
          · refine fin zv.cells (fun _ => rfl) (fun res r1 => ?_)
            simp only [Instr.buildSlice, Sem.run_bind, run_underlying hu, Result.andThen_ok, run_sizeOf_info hi, hsz, Sem.run_ite, gt_iff_lt, Nat.reducePow, hok, if_false, Sem.run_pure, h0, zeroValue, typeInfo, hi, hzv, run_program, r1, newRow, run_newObj]
            rfl
        · cases h
      · cases h
    · cases h
  · cases h

/-! ### Stores -/
theorem does_store {t : TypeId} {a x z : AV} {u v : Value} {σ' : Mem} (hr : RelM φ σ w) (h : storeA P σ t a x = .ok z σ') (ha : RvM φ σ w a u) (hx : RvM φ σ w x v) :
    z = .undef ∧ ∃ w', (Instr.storeAt t u v).run P w = .ok () w' ∧ RelM φ σ' w' ∧ Step φ σ w φ σ' w' := by
  unfold storeA at h
  split at h
  · rename_i id off new hn
    split at h
    · rename_i cs hcs
      split at h
      · rename_i hb
        obtain ⟨b1, b2⟩ := hb
        cases h
        cases ha with
        | ptr _ _ hid =>
          obtain ⟨k1, k2⟩ := rv_cellsA hn hx
          obtain ⟨cur, g1, g2, g3, g4⟩ := obj_cells hr hcs
          have hvl : v.cells.toList.length = new.length := k1.1.symm
          have hvs : v.cells.size = new.length := by simpa using hvl
          have hle : off + 0 + v.cells.toList.length ≤ cur.size := by omega
          have run : (Instr.storeAt t (.pointer (some ⟨φ id, off, none⟩)) v).run P w = .ok () (w.setRow (φ id) (cur.toList.take off ++ v.cells.toList ++ cur.toList.drop (off + v.cells.toList.length)).toArray) := by
            have := run_storeCells_at P (φ id) off (σ.ty id) v.cells.toList 0 cur w g1 hle k2
            simp only [Nat.add_zero] at this
            simp [Instr.storeAt, Instr.sureAddr, storeVar, run_sizeOf' b1, hvs, this]
          refine ⟨rfl, _, run, ?_⟩
          have hsz' : (cur.toList.take off ++ v.cells.toList ++ cur.toList.drop (off + v.cells.toList.length)).toArray.size = cur.size := by simp; omega
          have hspl : (spliceA cs off new).length = cs.length := by simp [spliceA]; omega
          refine relM_write hr id cs (spliceA cs off new) hcs cur _ _ rfl g1 hsz' (fun i => ?_) (by simp) (by rw [hspl, hsz']; exact g2) ?_ rfl rfl rfl
          · split
            · rename_i hi; subst hi; exact setRow_heap w _ cur _ _ (0, 0) g1
            · rename_i hi; exact setRow_other w _ i _ hi
          · have hs := rvL_splice g3 k1 off
            refine pre_of_rvL hs (fun q hq => ?_) (fun j q hq => ?_)
            · simp only [List.mem_append] at hq
              rcases hq with (hq | hq) | hq
              · exact g4 q (List.mem_of_mem_take hq)
              · exact k2 q hq
              · exact g4 q (List.mem_of_mem_drop hq)
            · rw [List.getElem?_toArray]
              have hj : j < cs.length := by have := (List.getElem?_eq_some_iff.1 hq).1; simp at this; omega
              rw [← hq, ← splice_take cur.toList v.cells.toList off cs.length (by omega) (by simpa using g2), List.getElem?_take_of_lt hj]
      · cases h
    · cases h
  · cases h
end
end Go.Ew
