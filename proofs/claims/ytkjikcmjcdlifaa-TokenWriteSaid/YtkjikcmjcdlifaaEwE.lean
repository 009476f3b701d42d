/-
  append; then: every operation that 'evOp' carries out, the model carries out alike. Nothing here is about one program.
-/
import Derived.Test.YtkjikcmjcdlifaaEwD
import Derived.Lib.AppendStr
namespace Go.Ew
open Go Go.RowKit

section
variable {P : Program} {φ : Nat → Nat} {σ : Mem} {w : World}

theorem rv_items {sz m : Nat} {x : AV} {new : List AV} {v : Value} (hr : RelM φ σ w) (h : itemsA σ sz x = some (m, new)) (hx : RvM φ σ w x v) :
    ∃ (A : Option Addr) (c : Nat) (news : List Value), v = .slice A m c ∧ RvL φ σ w new news ∧ (∀ u ∈ news, u.oneCell' = true) ∧ news.length = m * sz ∧ (A = none → m = 0) ∧ ∀ a, A = some a → ∀ (j : Nat) (u : Value), news[j]? = some u → w.cell? (a.add j) = some u := by
  cases hx with
  | nils =>
    cases h
    exact ⟨none, 0, [], rfl, rvL_nil, by simp, by simp, fun _ => rfl, fun a ha => by cases ha⟩
  | imm0 A c hc =>
    simp only [itemsA] at h
    split at h
    · cases h
      exact ⟨A, c, [], rfl, rvL_nil, by simp, by simp, fun _ => rfl, fun a _ j u hu => by simp at hu⟩
    · cases h
  | imm _ cs ad c vs h1 h2 h3 h4 h5 h6 =>
    simp only [itemsA] at h
    split at h
    · rename_i hl
      cases h
      refine ⟨some ad, c, (List.range new.length).map vs, rfl, ⟨by simp, fun j x v hx hv => ?_⟩, fun u hu => ?_, by simpa using hl, (fun h => by cases h), fun a ha j u hu => ?_⟩
      · have hj : j < new.length := (List.getElem?_eq_some_iff.1 hx).1
        rw [List.getElem?_map, List.getElem?_range hj] at hv
        simp only [Option.map_some, Option.some.injEq] at hv
        subst hv
        exact h2 j x hx
      · simp only [List.mem_map, List.mem_range] at hu
        obtain ⟨j, hj, rfl⟩ := hu
        exact (h1 j hj).2
      · cases ha
        have hj : j < new.length := by have := (List.getElem?_eq_some_iff.1 hu).1; simpa using this
        rw [List.getElem?_map, List.getElem?_range hj] at hu
        simp only [Option.map_some, Option.some.injEq] at hu
        subst hu
        exact (h1 j hj).1
    · cases h
  | arr id off n sz' c h1 h2 h3 h4 =>
    simp only [itemsA] at h
    cases hg : σ.get id with
    | none => simp [hg] at h
    | some cs =>
      simp only [hg, Option.bind_some] at h
      split at h
      · rename_i hb
        obtain ⟨rfl, hle⟩ := hb
        cases h
        obtain ⟨cur, g1, g2, g3, g4⟩ := obj_cells hr hg
        refine ⟨some ⟨φ id, off, none⟩, c, ((cur.toList.take cs.length).drop off).take (m * sz'), rfl, rvL_take (rvL_drop g3 off) _, fun u hu => g4 u (List.mem_of_mem_drop (List.mem_of_mem_take hu)), by simp; omega, (fun h => by cases h), fun a ha j u hu => ?_⟩
        cases ha
        have hj : j < m * sz' := by have := (List.getElem?_eq_some_iff.1 hu).1; simp at this; omega
        rw [List.getElem?_take_of_lt hj, List.getElem?_drop, List.getElem?_take_of_lt (by omega), Array.getElem?_toList] at hu
        rw [Addr.add_lit, cell_of_row w (φ id) (off + j) cur _ (0, 0) g1]
        exact hu
      · cases h
  | lit v =>
    cases v <;> first | (simp [itemsA] at h; done) | skip
    rename_i A n c
    cases n with
    | zero =>
      simp only [itemsA] at h
      cases h
      exact ⟨A, c, [], rfl, rvL_nil, by simp, by simp, fun _ => rfl, fun a _ j u hu => by simp at hu⟩
    | succ n => simp [itemsA] at h
  | _ => simp [itemsA] at h

theorem run_append_zero {t e : TypeId} {i : TypeInfo} (ht : P.underlying t = some (.slice e)) (hi : P.info? e = some i) (ty : TypeId) (base : Option Addr) (n cap : Nat) (hn : n ≤ cap) (A : Option Addr) (c : Nat) (w : World) :
    (Builtin.append_ #[t, t] ty #[.slice base n cap, .slice A 0 c]).run P w = .ok (.slice base n cap) w := by
  cases A <;> cases base <;> simp [Builtin.append_, run_underlying ht, sizeOf, typeInfo, hi, Builtin.lenOf, Builtin.firstCells, loadCells, loadCellsFrom, hn, storeCells]

theorem run_firstCells_string_nil (w : World) (s : ByteArray) (h : s.size = 0) : (Builtin.firstCells 1 0 (.string s)).run P w = .ok #[] w := by
  have := Lib.run_firstCells_string (P := P) w 1 s
  rw [h] at this
  rw [this]
  simp [List.eq_nil_of_length_eq_zero (by rw [Lib.strCells_length]; exact h : (Lib.strCells s).length = 0)]

theorem Mem.set_alloc (τ : Mem) (e : TypeId) (a b : List AV) : (τ.alloc e a).set τ.next b = τ.alloc e b := by
  unfold Mem.set Mem.alloc
  simp only [Mem.mk.injEq, true_and]
  funext i
  by_cases h : i = τ.next <;> simp [h]

theorem relM_shrink (hr : RelM φ σ w) (id : Nat) (cs cs' : List AV) (hid : σ.get id = some cs) (hp : ∀ (j : Nat) (x : AV), cs'[j]? = some x → cs[j]? = some x) (hl : cs'.length ≤ cs.length) : RelM φ (σ.set id cs') w ∧ Step φ σ w φ (σ.set id cs') w := by
  obtain ⟨cur, h1, h2, h3⟩ := hr.cell id cs hid
  exact relM_write hr id cs cs' hid cur cur _ rfl h1 rfl (fun i => by split <;> simp_all) rfl (by omega) (fun j x hx => h3 j x (hp j x hx)) rfl rfl rfl

theorem grownCap_bounds (w : World) (need old : Nat) (e : TypeId) (h : need ≤ maxLen) : need ≤ grownCap w need old e ∧ grownCap w need old e ≤ maxLen := ⟨grownCap_ge w need old e, grownCap_le_maxLen w need old e h⟩

theorem pre_append {a b : List Value} (c : Array Value) (j : Nat) (v : Value) (h : (a ++ b)[j]? = some v) : (a.toArray ++ b.toArray ++ c)[j]? = some v := by
  have hj := (List.getElem?_eq_some_iff.1 h).1
  rw [Array.getElem?_append_left (by simpa using hj)]
  simpa using h

theorem run_append_room' {t e e' : TypeId} {i : TypeInfo} (ht : P.underlying t = some (.slice e)) (hi : P.info? e = some i) (ty : TypeId)
    (g sLen sCap : Nat) (cur : Array Value) (hg : w.heap[g]? = some (.cells cur e' (0, 0)))
    (a : Addr) (m c : Nat) (news : List Value) (hl : news.length = m * i.size) (hnews : ∀ (j : Nat) (u : Value), news[j]? = some u → w.cell? (a.add j) = some u) (h1 : ∀ u ∈ news, u.oneCell' = true)
    (hroom : sLen + m ≤ sCap) (hfit : sLen * i.size + news.length ≤ cur.size) :
    (Builtin.append_ #[t, t] ty #[.slice (some ⟨g, 0, none⟩) sLen sCap, .slice (some a) m c]).run P w =
      .ok (.slice (some ⟨g, 0, none⟩) (sLen + m) sCap) (w.setRow g (cur.toList.take (sLen * i.size) ++ news ++ cur.toList.drop (sLen * i.size + news.length)).toArray) := by
  have hf := run_firstCells_some (P := P) w i.size m a m c news hl hnews
  have hst := run_storeCells_at P g (sLen * i.size) e' news 0 cur w hg (by simpa using hfit) h1
  simp only [Nat.add_zero] at hst
  simp [Builtin.append_, run_underlying ht, sizeOf, typeInfo, hi, Builtin.lenOf, hroom, hf, Addr.add_lit, hst]

theorem does_append {t ty : TypeId} {s x z : AV} {u v : Value} {σ' : Mem} (hr : RelM φ σ w) (h : appendA P σ t s x = .ok z σ') (hs : RvM φ σ w s u) (hx : RvM φ σ w x v) : Does P (Builtin.append_ #[t, t] ty #[u, v]) φ σ w z σ' := by
  unfold appendA at h
  split at h
  · rename_i e sz bytes hsl
    obtain ⟨hu, i, hi, hsz, hby⟩ := sliceTy_spec hsl
    split at h
    · rename_i zc m new hz hit
      obtain ⟨i', zv, hi', hzv, rfl, h1z⟩ := zeroTy_spec hz
      rw [hi] at hi'
      cases hi'
      obtain ⟨A, c, news, rfl, k1, k2, k3, k4, k5⟩ := rv_items hr hit hx
      split at h
      · rename_i hzl
        have hzs : zv.cells.size = sz := by simpa using hzl
        split at h
        · cases hs
          split at h
          · rename_i hm
            subst hm
            cases h
            exact ⟨_, w, φ, run_append_zero hu hi ty none 0 0 (Nat.le_refl _) A c w, hr, .nils, Step.refl _ _ _⟩
          · rename_i hm
            split at h
            · rename_i hb
              cases h
              cases A with
              | none => exact absurd (k4 rfl) hm
              | some a =>
                have run := run_append_nil (P := P) w t ty e i zv hu hi hzv a m c news (by rw [hsz]; exact k3) (k5 a rfl) (by omega) (by omega) (by rw [hby]; omega)
                obtain ⟨g1, g2⟩ := grownCap_bounds w m 0 e (by simp only [maxLen]; omega)
                refine does_slice hr news k1 k2 (cur := news.toArray ++ Builtin.zeroCells zv.cells (grownCap w m 0 e - m)) (fun j q hq => ?_) (by simp) g1 g2 ?_ run rfl rfl rfl rfl
                · rw [Array.getElem?_append_left (by have := (List.getElem?_eq_some_iff.1 hq).1; simpa using this), List.getElem?_toArray]
                  exact hq
                · rw [Array.size_append, List.size_toArray, size_zeroCells, hzs, k3, ← Nat.add_mul]
                  exact Nat.mul_le_mul_right _ (by omega)
            · cases h
        · rename_i id off n sz'
          split at h
          · rename_i cs hcs
            split at h
            · rename_i hb
              obtain ⟨rfl, rfl, hty, hle, hn63, hnb⟩ := hb
              cases h
              obtain ⟨cur, g1, g2, g3, g4⟩ := obj_cells hr hcs
              rw [hty] at g1
              cases hs with
              | arr _ _ _ _ cap q1 q2 q3 q4 =>
                have olds : RvL φ σ w (cs.take (n * sz')) ((cur.toList.take cs.length).take (n * sz')) := rvL_take g3 _
                have both := rvL_append olds k1
                have both1 : ∀ q ∈ (cur.toList.take cs.length).take (n * sz') ++ news, q.oneCell' = true := fun q hq => by
                  simp only [List.mem_append] at hq
                  rcases hq with hq | hq
                  · exact g4 q (List.mem_of_mem_take hq)
                  · exact k2 q hq
                have holen : ((cur.toList.take cs.length).take (n * sz')).length = n * sz' := by simp; omega
                by_cases hroom : n + m ≤ cap
                · obtain ⟨φ', r1, r2, r3⟩ := relM_rename hr id cs hcs e hty
                  obtain ⟨cq, eq, fq, q5, q6⟩ := q4
                  rw [g1] at q5
                  cases q5
                  simp only [Nat.zero_add] at q6
                  have newid : ((σ.kill id).alloc e cs).get σ.next = some cs := by simp [Mem.alloc, Mem.kill]
                  have hmul : n * sz' + m * sz' ≤ cap * sz' := by rw [← Nat.add_mul]; exact Nat.mul_le_mul_right _ hroom
                  have fin : ∀ (cur' : Array Value) (w' : World), cur'.size = cur.size → (∀ i, w'.heap[i]? = if i = φ' σ.next then some (.cells cur' e (0, 0)) else w.heap[i]?) → w'.heap.size = w.heap.size → w'.os = w.os → w'.tape = w.tape → w'.output = w.output →
                      (∀ (j : Nat) (q : Value), ((cur.toList.take cs.length).take (n * sz') ++ news)[j]? = some q → cur'[j]? = some q) →
                      (Builtin.append_ #[t, t] ty #[.slice (some ⟨φ id, 0, none⟩) n cap, .slice A m c]).run P w = .ok (.slice (some ⟨φ id, 0, none⟩) (n + m) cap) w' →
                      Does P (Builtin.append_ #[t, t] ty #[.slice (some ⟨φ id, 0, none⟩) n cap, .slice A m c]) φ σ w (.arr σ.next 0 (n + m) sz') ((σ.kill id).alloc e (cs.take (n * sz') ++ new)) := by
                    intro cur' w' hsz' hheap hsize ho ht hou hpre hrun
                    have W := relM_write r2 σ.next cs (cs.take (n * sz') ++ new) newid cur cur' e (by simp [Mem.alloc, Mem.kill]) (by rw [r1]; exact g1) hsz' hheap hsize (by rw [hsz']; have := both.1; simp at this ⊢; omega) (fun j x hx => by
                      obtain ⟨q, w1, w2, w3⟩ := pre_of_rvL both both1 hpre j x hx
                      exact ⟨q, w1, w2, w3.step r3⟩) ho ht hou
                    have e1 : ((σ.kill id).alloc e cs).set σ.next (cs.take (n * sz') ++ new) = (σ.kill id).alloc e (cs.take (n * sz') ++ new) := Mem.set_alloc (σ.kill id) e _ _
                    rw [e1] at W
                    refine ⟨_, w', φ', hrun, W.1, ?_, r3.trans W.2⟩
                    rw [← r1]
                    refine .arr _ _ _ _ _ (Nat.lt_succ_self _) hroom q3 ⟨cur', e, (0, 0), by rw [hheap, if_pos rfl], by omega⟩
                  by_cases hm : m = 0
                  · subst hm
                    have hnews : news = [] := List.eq_nil_of_length_eq_zero (by simpa using k3)
                    subst hnews
                    refine fin cur w rfl (fun i => ?_) rfl rfl rfl rfl (fun j q hq => ?_) (run_append_zero hu hi ty _ n cap q2 A c w)
                    · split
                      · rename_i hi; subst hi; rw [r1]; exact g1
                      · rfl
                    · rw [List.append_nil, List.take_take, List.getElem?_take] at hq
                      split at hq
                      · simpa using hq
                      · cases hq
                  · cases A with
                    | none => exact absurd (k4 rfl) hm
                    | some a =>
                      have run := run_append_room' (P := P) (w := w) hu hi ty (φ id) n cap cur g1 a m c news (by rw [hsz]; exact k3) (k5 a rfl) k2 hroom (by rw [hsz, k3]; omega)
                      rw [hsz] at run
                      refine fin (cur.toList.take (n * sz') ++ news ++ cur.toList.drop (n * sz' + news.length)).toArray (w.setRow (φ id) (cur.toList.take (n * sz') ++ news ++ cur.toList.drop (n * sz' + news.length)).toArray) (by simp; omega) (fun q => ?_) (by simp) rfl rfl rfl (fun j q hq => ?_) run
                      · rw [r1]
                        split
                        · rename_i hq; subst hq; exact setRow_heap w _ cur _ e (0, 0) g1
                        · rename_i hq; exact setRow_other w _ q _ hq
                      · rw [List.take_take, show min (n * sz') cs.length = n * sz' by omega] at hq
                        rw [List.getElem?_toArray, List.getElem?_append_left (by have := (List.getElem?_eq_some_iff.1 hq).1; simpa using this)]
                        exact hq
                · have K := relM_kill hr id
                  cases A with
                  | none => exact absurd (k4 rfl) (by omega)
                  | some a =>
                    have hcells : ∀ (j : Nat) (q : Value), ((cur.toList.take cs.length).take (n * sz'))[j]? = some q → w.cell? ((⟨φ id, 0, none⟩ : Addr).add j) = some q := fun j q hq => by
                      rw [Addr.add_lit, Nat.zero_add, cell_of_row w (φ id) j cur e (0, 0) g1]
                      rw [List.take_take, List.getElem?_take] at hq
                      split at hq
                      · simpa using hq
                      · cases hq
                    have run := run_append_grow (P := P) w t ty e i zv hu hi hzv ⟨φ id, 0, none⟩ n cap _ (by rw [hsz]; exact holen) hcells a m c news (by rw [hsz]; exact k3) (k5 a rfl) (by omega) (by omega) (by rw [hby]; exact growslice_fits (by omega) hnb)
                    obtain ⟨q5, q6⟩ := grownCap_bounds w (n + m) cap e (by simp only [maxLen]; omega)
                    have hlen := both.1
                    obtain ⟨v', w', φ', d1, d2, d3, d4⟩ := does_slice (sz := sz') K.1 _ (both.step K.2) both1 (cur := ((cur.toList.take cs.length).take (n * sz')).toArray ++ news.toArray ++ Builtin.zeroCells zv.cells (grownCap w (n + m) cap e - (n + m))) (fun j q hq => pre_append _ j q hq) (by simp) q5 q6 (by
                      rw [Array.size_append, Array.size_append, List.size_toArray, List.size_toArray, size_zeroCells, hzs, k3, holen, ← Nat.add_mul, ← Nat.add_mul]
                      exact Nat.mul_le_mul_right _ (by omega)) run rfl rfl rfl rfl
                    exact ⟨v', w', φ', d1, d2, d3, K.2.trans d4⟩
            · cases h
          · cases h
        · cases h
      · cases h
    · cases h
  · cases h

/-- A string's bytes, as cells. -/
theorem rvL_bytes (b : ByteArray) : RvL φ σ w (bytesA b.data.toList) (Lib.strCells b) := by
  refine ⟨by simp [bytesA, Lib.strCells], fun j x v hx hv => ?_⟩
  simp only [bytesA, Lib.strCells, List.getElem?_map] at hx hv
  cases hb : b.data.toList[j]? with
  | none => rw [hb] at hx; cases hx
  | some c =>
    rw [hb] at hx hv
    cases hx; cases hv
    exact .lit _

theorem does_appendStr {t t' ty : TypeId} {s x z : AV} {u v : Value} {σ' : Mem} (hr : RelM φ σ w) (h : appendStrA P σ t t' s x = .ok z σ') (hs : RvM φ σ w s u) (hx : RvM φ σ w x v) : Does P (Builtin.append_ #[t, t'] ty #[u, v]) φ σ w z σ' := by
  unfold appendStrA at h
  split at h
  · rename_i e sz bytes b hsl
    obtain ⟨hu, i, hi, hsz, hby⟩ := sliceTy_spec hsl
    cases hx
    split at h
    · rename_i zc hz
      obtain ⟨i', zv, hi', hzv, rfl, h1z⟩ := zeroTy_spec hz
      rw [hi] at hi'
      cases hi'
      split at h
      · rename_i hcond
        obtain ⟨hst, rfl, rfl, hzl⟩ := hcond
        have hut := strTy_spec hst
        have hzs : zv.cells.size = 1 := by simpa using hzl
        have hlb : (Lib.strCells b).length = b.data.toList.length := by simp [Lib.strCells]
        have hsb : b.size = b.data.toList.length := rfl
        have k1 := rvL_bytes (φ := φ) (σ := σ) (w := w) b
        have k2 := Lib.strCells_oneCell b
        split at h
        · cases hs
          split at h
          · rename_i hm
            cases h
            have hf := run_firstCells_string_nil (P := P) w b (by rw [hsb, hm]; rfl)
            have hb0 : b.size = 0 := by rw [hsb, hm]; rfl
            refine ⟨.slice none 0 0, w, φ, ?_, hr, .nils, Step.refl _ _ _⟩
            simp [Builtin.append_, run_underlying hu, run_underlying hut, sizeOf, typeInfo, hi, hsz, Builtin.lenOf, hb0, hf]
          · rename_i hm
            split at h
            · rename_i hb
              cases h
              have hpos : 0 < b.data.toList.length := List.length_pos_iff.2 hm
              have run := run_append_nil_string (P := P) w t t' ty e i zv hu hut hi hzv b (by omega) (by omega) (by rw [hby]; omega)
              obtain ⟨g1, g2⟩ := grownCap_bounds w b.size 0 e (by simp only [maxLen]; omega)
              rw [show (b.data.map fun c => Value.int .u8 c.toNat) = (Lib.strCells b).toArray by apply Array.ext'; simp [Lib.strCells]] at run
              refine does_slice hr (Lib.strCells b) k1 k2 (cur := (Lib.strCells b).toArray ++ Builtin.zeroCells zv.cells (grownCap w b.size 0 e - b.size)) (fun j q hq => ?_) (by simp) g1 g2 ?_ run rfl rfl rfl rfl
              · rw [Array.getElem?_append_left (by have := (List.getElem?_eq_some_iff.1 hq).1; simpa using this), List.getElem?_toArray]
                exact hq
              · rw [Array.size_append, List.size_toArray, size_zeroCells, hzs, hlb, ← hsb]
                omega
            · cases h
        · rename_i id off n sz'
          split at h
          · rename_i cs hcs
            split at h
            · rename_i hb
              obtain ⟨rfl, rfl, hty, hle, hn63⟩ := hb
              cases h
              obtain ⟨cur, g1, g2, g3, g4⟩ := obj_cells hr hcs
              rw [hty] at g1
              cases hs with
              | arr _ _ _ _ cap q1 q2 q3 q4 =>
                have olds : RvL φ σ w (cs.take n) ((cur.toList.take cs.length).take n) := rvL_take g3 _
                have both := rvL_append olds k1
                have both1 : ∀ q ∈ (cur.toList.take cs.length).take n ++ Lib.strCells b, q.oneCell' = true := fun q hq => by
                  simp only [List.mem_append] at hq
                  rcases hq with hq | hq
                  · exact g4 q (List.mem_of_mem_take hq)
                  · exact k2 q hq
                have holen : ((cur.toList.take cs.length).take n).length = n := by simp; omega
                rw [← hsb]
                by_cases hroom : n + b.size ≤ cap
                · obtain ⟨φ', r1, r2, r3⟩ := relM_rename hr id cs hcs e hty
                  obtain ⟨cq, eq, fq, q5, q6⟩ := q4
                  rw [g1] at q5
                  cases q5
                  simp only [Nat.zero_add, Nat.mul_one] at q6
                  have newid : ((σ.kill id).alloc e cs).get σ.next = some cs := by simp [Mem.alloc, Mem.kill]
                  have run := Lib.run_append_room_string (P := P) w t t' ty e i hu hut hi hsz (φ id) n cap cur g1 b hroom (by omega)
                  have htake : cur.toList.take n ++ Lib.strCells b = (cur.toList.take cs.length).take n ++ Lib.strCells b := by rw [List.take_take, show min n cs.length = n by omega]
                  have hheap : ∀ q, (w.setRow (φ id) (cur.toList.take n ++ Lib.strCells b ++ cur.toList.drop (n + b.size)).toArray).heap[q]? = if q = φ' σ.next then some (.cells (cur.toList.take n ++ Lib.strCells b ++ cur.toList.drop (n + b.size)).toArray e (0, 0)) else w.heap[q]? := fun q => by
                    rw [r1]
                    split
                    · rename_i hq; subst hq; exact setRow_heap w _ cur _ e (0, 0) g1
                    · rename_i hq; exact setRow_other w _ q _ hq
                  have hsz' : (cur.toList.take n ++ Lib.strCells b ++ cur.toList.drop (n + b.size)).toArray.size = cur.size := by simp [hlb, ← hsb]; omega
                  have W := relM_write r2 σ.next cs (cs.take n ++ bytesA b.data.toList) newid cur _ e (by simp [Mem.alloc, Mem.kill]) (by rw [r1]; exact g1) hsz' hheap (by simp) (by rw [hsz']; have := both.1; simp [hlb] at this ⊢; omega) (fun j x hx => by
                      obtain ⟨q, w1, w2, w3⟩ := pre_of_rvL both both1 (cur := (cur.toList.take n ++ Lib.strCells b ++ cur.toList.drop (n + b.size)).toArray) (fun j q hq => by
                        rw [← htake] at hq
                        rw [List.getElem?_toArray, List.getElem?_append_left (by have := (List.getElem?_eq_some_iff.1 hq).1; simpa using this)]
                        exact hq) j x hx
                      exact ⟨q, w1, w2, w3.step r3⟩) rfl rfl rfl
                  have e1 : ((σ.kill id).alloc e cs).set σ.next (cs.take n ++ bytesA b.data.toList) = (σ.kill id).alloc e (cs.take n ++ bytesA b.data.toList) := Mem.set_alloc (σ.kill id) e _ _
                  rw [e1] at W
                  refine ⟨_, _, φ', run, W.1, ?_, r3.trans W.2⟩
                  have hh := (hheap (φ' σ.next)).trans (if_pos rfl)
                  rw [← r1] at hh ⊢
                  exact .arr _ _ _ _ _ (Nat.lt_succ_self _) hroom q3 ⟨_, e, (0, 0), hh, by rw [hsz']; omega⟩
                · have K := relM_kill hr id
                  have hcells : ∀ (j : Nat) (q : Value), ((cur.toList.take cs.length).take n)[j]? = some q → w.cell? ((⟨φ id, 0, none⟩ : Addr).add j) = some q := fun j q hq => by
                    rw [Addr.add_lit, Nat.zero_add, cell_of_row w (φ id) j cur e (0, 0) g1]
                    rw [List.take_take, List.getElem?_take] at hq
                    split at hq
                    · simpa using hq
                    · cases hq
                  have run := Lib.run_append_grow_string (P := P) w t t' ty e i zv hu hut hi hzv ⟨φ id, 0, none⟩ n cap _ (by rw [hsz, Nat.mul_one]; exact holen) hcells b (by omega) (by omega) (by rw [hby]; exact growslice_fits (by omega) (by omega))
                  obtain ⟨q5, q6⟩ := grownCap_bounds w (n + b.size) cap e (by simp only [maxLen]; omega)
                  obtain ⟨v', w', φ', d1, d2, d3, d4⟩ := does_slice (sz := 1) K.1 _ (both.step K.2) both1 (cur := ((cur.toList.take cs.length).take n).toArray ++ (Lib.strCells b).toArray ++ Builtin.zeroCells zv.cells (grownCap w (n + b.size) cap e - (n + b.size))) (fun j q hq => pre_append _ j q hq) (by simp) q5 q6 (by
                    rw [Array.size_append, Array.size_append, List.size_toArray, List.size_toArray, size_zeroCells, hzs, hlb, holen, ← hsb]
                    omega) run rfl rfl rfl rfl
                  exact ⟨v', w', φ', d1, d2, d3, K.2.trans d4⟩
            · cases h
          · cases h
        · cases h
      · cases h
    · cases h
  · cases h

/-! ### Every operation -/
theorem val_ok {σ σ' : Mem} {o : Option AV} {x : AV} (h : NextA.val σ o = .ok x σ') : o = some x ∧ σ' = σ := by
  cases o with
  | none => cases h
  | some y => cases h; exact ⟨rfl, rfl⟩

theorem opt_rel {fr : Fr} {a : Act} (hf : RelF φ σ w fr a.tmps) (lo : Option Operand) : (∀ x, lo.map (evalA fr) = some x → ∃ v, lo.map a.eval = some v ∧ RvM φ σ w x v) ∧ (lo.map (evalA fr) = none → lo.map a.eval = none) := by
  cases lo with
  | none => exact ⟨fun x h => (by cases h), fun _ => rfl⟩
  | some o => exact ⟨fun x h => (by cases h; exact ⟨_, rfl, rv_eval hf o⟩), fun h => (by cases h)⟩

theorem run_value {P : Program} {s : Sem Value} {w w' : World} {v : Value} (h : s.run P w = .ok v w') : (do pure (Next.value (← s)) : Sem Next).run P w = .ok (.value v) w' := by simp [h]

theorem parts_map (ρ : Operand → Value) (parts : Array (Nat × Operand)) : (parts.map fun (i, x) => (i, ρ x)).toList = parts.toList.map fun (i, x) => (i, ρ x) := by simp

theorem rv_extract {x z : AV} {i : Nat} {v : Value} (h : extractA x i = some z) (hx : RvM φ σ w x v) : ∃ r, RvM φ σ w z r ∧ Qy P (Instr.extract v i) w r := by
  cases hx <;> first | (simp [extractA] at h; done) | skip
  rename_i xs vs hl hu
  simp only [extractA] at h
  have hi : i < vs.length := by rw [← hl]; exact (List.getElem?_eq_some_iff.1 h).1
  exact ⟨vs[i], hu i z _ h (List.getElem?_eq_getElem hi), fun w' _ => by simp [Instr.extract, hi]⟩

theorem evOp_quiet {o : Oper} {fr : Fr} {a : Act} {x : AV} {σ' : Mem} (hr : RelM φ σ w) (hf : RelF φ σ w fr a.tmps) (hq : quietOp o.op = true) (h : evOp P o.op (evalA fr) σ = .ok x σ') :
    σ' = σ ∧ ∃ v, RvM φ σ w x v ∧ ∀ w', Cls w w' → (execOp a.eval o).run P w' = .ok (.value v) w' := by
  obtain ⟨dst, op, type, pos, after, guard⟩ := o
  have fin : ∀ {s : Sem Value} {z : AV}, (∃ r, RvM φ σ w z r ∧ Qy P s w r) → σ' = σ → z = x → (∀ w', (execOp a.eval ⟨dst, op, type, pos, after, guard⟩).run P w' = (do pure (Next.value (← s)) : Sem Next).run P w') → σ' = σ ∧ ∃ v, RvM φ σ w x v ∧ ∀ w', Cls w w' → (execOp a.eval ⟨dst, op, type, pos, after, guard⟩).run P w' = .ok (.value v) w' := by
    rintro s z ⟨r, h1, h2⟩ h3 rfl h4
    exact ⟨h3, r, h1, fun w' hw' => by rw [h4]; exact run_value (h2 w' hw')⟩
  cases op <;> first | (simp [quietOp] at hq; done) | skip
  case move y => cases h; exact ⟨rfl, _, rv_eval hf y, fun w' _ => rfl⟩
  case assign y => cases h; exact ⟨rfl, _, rv_eval hf y, fun w' _ => rfl⟩
  case pick c y z =>
    obtain ⟨h1, h2⟩ := val_ok h
    have hc := rv_eval hf c
    unfold pickA at h1
    split at h1
    · rename_i b hcb
      rw [hcb] at hc
      cases h1
      refine ⟨h2, _, (show RvM φ σ w (if b then evalA fr y else evalA fr z) (if b then a.eval y else a.eval z) by cases b <;> simp [rv_eval hf]), fun w' _ => ?_⟩
      cases hv : a.eval c with
      | bool b' => rw [hv] at hc; cases hc; cases b <;> simp [execOp, hv, asBool]
      | _ => rw [hv] at hc; cases hc
    · cases h1
  case build t parts =>
    obtain ⟨h1, h2⟩ := val_ok h
    exact fin (rv_build h1 (qs := parts.map fun (i, x) => (i, a.eval x)) (by rw [parts_map]; exact rvP_parts hf parts.toList)) h2 rfl (fun w' => rfl)
  case load t y =>
    obtain ⟨h1, h2⟩ := val_ok h
    exact fin (rv_load hr h1 (rv_eval hf y)) h2 rfl (fun w' => rfl)
  case nilCheck y =>
    obtain ⟨h1, h2⟩ := val_ok h
    have hy := rv_eval hf y
    refine ⟨h2, a.eval y, ?_, fun w' _ => ?_⟩
    · unfold nilCheckA at h1
      split at h1 <;> first | (rename_i e; rw [e] at hy; cases h1; exact hy) | cases h1
    · unfold nilCheckA at h1
      split at h1 <;> first | (rename_i e; rw [e] at hy; cases hv : a.eval y <;> (rw [hv] at hy; cases hy) <;> simp [execOp, hv]) | cases h1
  case binOp op t y z yt =>
    obtain ⟨h1, h2⟩ := val_ok h
    exact fin (rv_bin y z h1 (rv_eval hf y) (rv_eval hf z)) h2 rfl (fun w' => rfl)
  case unOp op t y =>
    obtain ⟨h1, h2⟩ := val_ok h
    exact fin (rv_un h1 (rv_eval hf y)) h2 rfl (fun w' => rfl)
  case convert s d y =>
    obtain ⟨h1, h2⟩ := val_ok h
    exact fin (rv_conv h1 (rv_eval hf y)) h2 rfl (fun w' => rfl)
  case makeFunc fn first captured =>
    cases fn <;> first | (simp [evOp] at h; done) | skip
    rename_i g
    obtain ⟨captured⟩ := captured
    simp only [evOp] at h
    split at h
    · rename_i hs
      cases h
      have hs' : first = #[] := by simpa using hs
      subst hs'
      have := rv_evals hf captured
      exact ⟨rfl, .func (.func g) #[] (captured.map a.eval).toArray, Rv.fn (φ := φ) (n := σ.next) (L := Live φ σ) (w := w) g _ _ this.1 this.2, fun w' _ => by simp [execOp, Instr.makeFunc]⟩
    · cases h
  case slice t y lo hi mx =>
    cases mx with
    | some _ => simp [evOp] at h
    | none =>
      obtain ⟨h1, h2⟩ := val_ok h
      exact fin (rv_slice h1 (rv_eval hf y) (opt_rel hf lo).1 (opt_rel hf hi).1 (opt_rel hf lo).2 (opt_rel hf hi).2) h2 rfl (fun w' => rfl)
  case fieldAddr t y i =>
    obtain ⟨h1, h2⟩ := val_ok h
    exact fin (rv_fieldAddr h1 (rv_eval hf y)) h2 rfl (fun w' => rfl)
  case field t y i =>
    obtain ⟨h1, h2⟩ := val_ok h
    exact fin (rv_field h1 (rv_eval hf y)) h2 rfl (fun w' => rfl)
  case indexAddr t y i =>
    obtain ⟨h1, h2⟩ := val_ok h
    exact fin (rv_indexAddr h1 (rv_eval hf y) (rv_eval hf i)) h2 rfl (fun w' => rfl)
  case index t y i =>
    obtain ⟨h1, h2⟩ := val_ok h
    exact fin (rv_index h1 (rv_eval hf y) (rv_eval hf i)) h2 rfl (fun w' => rfl)
  case extract y i =>
    obtain ⟨h1, h2⟩ := val_ok h
    exact fin (rv_extract h1 (rv_eval hf y)) h2 rfl (fun w' => rfl)
  case call c =>
    obtain ⟨callee, args, ats⟩ := c
    cases callee <;> first | (simp [quietOp] at hq; done) | skip
    rename_i b
    obtain ⟨args⟩ := args
    obtain ⟨ats⟩ := ats
    cases b <;> first | (simp [quietOp] at hq; done) | skip
    case len =>
      match args, ats, h with
      | [y], t :: ts, h =>
        obtain ⟨h1, h2⟩ := val_ok h
        exact fin (rv_len (t :: ts).toArray type (by simp) h1 (rv_eval hf y)) h2 rfl (fun w' => by simp [execOp, resolve, invoke, builtin])
      | [], _, h => cases h
      | _ :: _ :: _, _, h => cases h
      | [_], [], h => cases h
    case max =>
      match args, h with
      | [y, z], h =>
        obtain ⟨h1, h2⟩ := val_ok h
        have hy := rv_eval hf y
        have hz := rv_eval hf z
        unfold maxA at h1
        split at h1
        · rename_i k p k' q e1 e2
          rw [e1] at hy; rw [e2] at hz
          split at h1
          · rename_i hk
            subst hk
            cases h1
            cases hv : a.eval y <;> rw [hv] at hy <;> cases hy
            cases hv' : a.eval z <;> rw [hv'] at hz <;> cases hz
            refine ⟨h2, _, .lit _, fun w' _ => ?_⟩
            have : (if q > p then q else p) = max p q := by omega
            simp [execOp, resolve, invoke, builtin, Builtin.max_, hv, hv', Builtin.max2]
            omega
          · cases h1
        · cases h1
      | [], h => cases h
      | [_], h => cases h
      | _ :: _ :: _ :: _, h => cases h
    case min =>
      match args, h with
      | [y, z], h =>
        obtain ⟨h1, h2⟩ := val_ok h
        have hy := rv_eval hf y
        have hz := rv_eval hf z
        unfold minA at h1
        split at h1
        · rename_i k p k' q e1 e2
          rw [e1] at hy; rw [e2] at hz
          split at h1
          · rename_i hk
            subst hk
            cases h1
            cases hv : a.eval y <;> rw [hv] at hy <;> cases hy
            cases hv' : a.eval z <;> rw [hv'] at hz <;> cases hz
            refine ⟨h2, _, .lit _, fun w' _ => ?_⟩
            simp [execOp, resolve, invoke, builtin, Builtin.min_, hv, hv', Builtin.min2]
            omega
          · cases h1
        · cases h1
      | [], h => cases h
      | [_], h => cases h
      | _ :: _ :: _ :: _, h => cases h

/-- Every operation: the model carries it out, with a value or with none. -/
theorem evOp_ok {o : Oper} {fr : Fr} {a : Act} {x : AV} {σ' : Mem} (hr : RelM φ σ w) (hf : RelF φ σ w fr a.tmps) (h : evOp P o.op (evalA fr) σ = .ok x σ') :
    ∃ n v w' φ', (execOp a.eval o).run P w = .ok n w' ∧ (n = .value v ∨ (n = .skip ∧ v = Go.undef)) ∧ RelM φ' σ' w' ∧ RvM φ' σ' w' x v ∧ Step φ σ w φ' σ' w' := by
  by_cases hq : quietOp o.op = true
  · obtain ⟨rfl, v, h1, h2⟩ := evOp_quiet hr hf hq h
    exact ⟨_, v, w, φ, h2 w (Cls.refl w), .inl rfl, hr, h1, Step.refl _ _ _⟩
  · obtain ⟨dst, op, type, pos, after, guard⟩ := o
    have fin : ∀ {s : Sem Value}, Does P s φ σ w x σ' → (execOp a.eval ⟨dst, op, type, pos, after, guard⟩).run P w = (do pure (Next.value (← s)) : Sem Next).run P w →
        ∃ n v w' φ', (execOp a.eval ⟨dst, op, type, pos, after, guard⟩).run P w = .ok n w' ∧ (n = .value v ∨ (n = .skip ∧ v = Go.undef)) ∧ RelM φ' σ' w' ∧ RvM φ' σ' w' x v ∧ Step φ σ w φ' σ' w' := by
      rintro s ⟨v, w', φ', h1, h2, h3, h4⟩ h5
      exact ⟨_, v, w', φ', by rw [h5]; exact run_value h1, .inl rfl, h2, h3, h4⟩
    cases op <;> first | (exact absurd rfl hq) | (simp [evOp] at h; done) | skip
    case alloc t =>
      simp only [evOp] at h
      split at h
      · rename_i z hz; cases h; exact fin (does_alloc hr hz) rfl
      · cases h
    case box t y =>
      simp only [evOp] at h
      split at h
      · rename_i cs hc; cases h; exact fin (does_box hr hc (rv_eval hf y)) rfl
      · cases h
    case buildSlice t n parts =>
      have h' : buildSliceA P σ t n (parts.toList.map fun (i, x) => (i, evalA fr x)) = .ok x σ' := h
      have hp : RvP φ σ w (parts.toList.map fun (i, x) => (i, evalA fr x)) (parts.map fun (i, x) => (i, a.eval x)).toList := by rw [parts_map]; exact rvP_parts hf parts.toList
      exact fin (does_buildSlice hr h' hp) rfl
    case makeSlice t l c =>
      have h' : makeSliceA P σ t (evalA fr l) (evalA fr c) = .ok x σ' := h
      exact fin (does_makeSlice hr h' (rv_eval hf l) (rv_eval hf c)) rfl
    case store t y z =>
      obtain ⟨rfl, w', h1, h2, h3⟩ := does_store hr h (rv_eval hf y) (rv_eval hf z)
      exact ⟨.skip, Go.undef, w', φ, by simp [execOp, h1], .inr ⟨rfl, rfl⟩, h2, .tup [] [] rfl (fun j x v h => by simp at h), h3⟩
    case call c =>
      obtain ⟨callee, args, ats⟩ := c
      cases callee
      case value f =>
        simp only [evOp] at h
        split at h <;> cases h
      case invoke r m => simp [evOp] at h
      case builtin b =>
        obtain ⟨args⟩ := args
        obtain ⟨ats⟩ := ats
        cases b <;> first | (exact absurd rfl hq) | (simp [evOp] at h; done) | skip
        match args, ats, h with
        | [s, y], [t, u], h =>
          simp only [evOp] at h
          split at h
          · rename_i ht
            subst ht
            exact fin (does_append (ty := type) hr h (rv_eval hf s) (rv_eval hf y)) (by simp [execOp, resolve, invoke, builtin])
          · exact fin (does_appendStr (ty := type) hr h (rv_eval hf s) (rv_eval hf y)) (by simp [execOp, resolve, invoke, builtin])
        | [], _, h => cases h
        | [_], _, h => cases h
        | _ :: _ :: _ :: _, _, h => cases h
        | [_, _], [], h => cases h
        | [_, _], [_], h => cases h
        | [_, _], _ :: _ :: _ :: _, h => cases h
end
end Go.Ew
