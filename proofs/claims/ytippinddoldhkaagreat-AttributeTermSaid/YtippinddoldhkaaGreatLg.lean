/-
  difference.longer: the table of lists with one more use.
-/
import Derived.Test.YtippinddoldhkaaGreatGT
import Derived.Test.YtippinddoldhkaaGreatB2
import Derived.Test.YtippinddoldhkaaGreatB7
set_option linter.unusedSimpArgs false
set_option linter.unusedVariables false
namespace Go.Proofs.YtippinddoldhkaaGreat
open Go Go.Ew Go.Proofs Go.RowKit
set_option maxRecDepth 10000
def inf : Int := 1125899906842624
def cell (t : List (List Int)) (i k : Nat) : Int := nth (nth t i) k
def lgStep (t : List (List Int)) (a : Gdifference_arc) (out : List (List Int)) (k : Nat) : List (List Int) :=
  if cell t a.tox.toNat k < inf then out.set a.fromx.toNat ((nth out a.fromx.toNat).set k (min (cell out a.fromx.toNat k) (IntKind.i64.wrap (a.most + cell t a.tox.toNat k)))) else out
def lgArc (t : List (List Int)) (out : List (List Int)) (a : Gdifference_arc) : List (List Int) := (List.range t.length).foldl (lgStep t a) out
def longerF (t : List (List Int)) (l : List Gdifference_arc) : List (List Int) := l.foldl (lgArc t) (List.replicate t.length (List.replicate t.length inf))
def wfLg (t : List (List Int)) (l : List Gdifference_arc) : Prop := 0 < t.length ∧ t.length ≤ 1000 ∧ l.length ≤ 1000000 ∧ (∀ r ∈ t, r.length = t.length) ∧ ∀ a ∈ l, 0 ≤ a.fromx ∧ a.fromx < t.length ∧ 0 ≤ a.tox ∧ a.tox < t.length
instance (t : List (List Int)) (l : List Gdifference_arc) : Decidable (wfLg t l) := by unfold wfLg; infer_instance
/-- A square table. -/
def Sq (m : Nat) (g : List (List Int)) : Prop := g.length = m ∧ ∀ r ∈ g, r.length = m
theorem Sq.set {m : Nat} {g : List (List Int)} (h : Sq m g) {y : Nat} {r : List Int} (hr : r.length = m) : Sq m (g.set y r) :=
  ⟨by rw [List.length_set]; exact h.1, fun q hq => by
    rcases List.mem_or_eq_of_mem_set hq with hq | rfl
    · exact h.2 q hq
    · exact hr⟩
theorem Sq.nth {m : Nat} {g : List (List Int)} (h : Sq m g) {y : Nat} (hy : y < m) : (nth g y).length = m := h.2 _ (nth_mem g y (by rw [h.1]; exact hy))
theorem lgStep_sq {t : List (List Int)} {a : Gdifference_arc} {m : Nat} {g : List (List Int)} (h : Sq m g) (hy : a.fromx.toNat < m) (k : Nat) : Sq m (lgStep t a g k) := by
  unfold lgStep
  split
  · exact h.set (by rw [List.length_set]; exact h.nth hy)
  · exact h
theorem lgSteps_sq {t : List (List Int)} {a : Gdifference_arc} {m : Nat} {g : List (List Int)} (h : Sq m g) (hy : a.fromx.toNat < m) : ∀ ks : List Nat, Sq m (ks.foldl (lgStep t a) g) := by
  intro ks
  induction ks generalizing g with
  | nil => exact h
  | cons k ks ih => exact ih (lgStep_sq h hy k)
theorem longerF_sq {t : List (List Int)} : ∀ {l : List Gdifference_arc}, (∀ a ∈ l, 0 ≤ a.fromx ∧ a.fromx < t.length ∧ 0 ≤ a.tox ∧ a.tox < t.length) → Sq t.length (longerF t l) := by
  intro l h
  have : ∀ (l : List Gdifference_arc) (g : List (List Int)), Sq t.length g → (∀ a ∈ l, 0 ≤ a.fromx ∧ a.fromx < t.length ∧ 0 ≤ a.tox ∧ a.tox < t.length) → Sq t.length (l.foldl (lgArc t) g) := by
    intro l
    induction l with
    | nil => exact fun g hg _ => hg
    | cons a l ih => exact fun g hg h => ih _ (lgSteps_sq hg (by have := h a (List.mem_cons_self ..); omega) _) fun b hb => h b (List.mem_cons_of_mem _ hb)
  exact this l _ ⟨by simp, fun r hr => by rw [(List.mem_replicate.1 hr).2]; simp⟩ h
theorem longerF_snoc {t : List (List Int)} (l : List Gdifference_arc) (a : Gdifference_arc) : longerF t (l ++ [a]) = lgArc t (longerF t l) a := by simp [longerF]
def LgC (t : List (List Int)) (l : List Gdifference_arc) (σ : Mem) (a : Gdifference_arc) (b i : Nat) (n : Nat) (fr : Fr) (τ : Mem) : Prop :=
  ∃ (k : Nat) (vs : List AV), k ≤ t.length ∧ n = t.length - k ∧ fr 0 = sl_List_Int t ∧ fr 5 = .int (t.length - 1 : Nat) ∧ fr 25 = sl_Gdifference_arc l ∧ fr 26 = .int l.length ∧ fr 27 = .int i ∧ fr 8 = .ptr b 0 ∧ fr 32 = .int t.length ∧ fr 33 = .int k ∧
    GridAt σ.next τ (fr 6) vs 26 3 AV.int ((List.range k).foldl (lgStep t a) (longerF t (l.take i))) ∧ τ.get b = some (Gdifference_arcC a) ∧ σ.next ≤ b ∧ b < τ.next ∧ (∀ i, InG (fr 6) vs i → ¬ i = b) ∧ Keeps σ τ ∧ σ.next ≤ τ.next
def LgA (t : List (List Int)) (l : List Gdifference_arc) (σ : Mem) (n : Nat) (fr : Fr) (τ : Mem) : Prop :=
  ∃ (j : Nat) (vs : List AV), j ≤ t.length ∧ n = t.length - j ∧ fr 0 = sl_List_Int t ∧ fr 1 = sl_Gdifference_arc l ∧ fr 5 = .int (t.length - 1 : Nat) ∧ fr 14 = .int t.length ∧ fr 15 = .int j ∧
    GridAt σ.next τ (fr 6) vs 26 3 AV.int (List.replicate j (List.replicate t.length inf)) ∧ Keeps σ τ ∧ σ.next ≤ τ.next
def LgB (t : List (List Int)) (l : List Gdifference_arc) (σ : Mem) (n : Nat) (fr : Fr) (τ : Mem) : Prop :=
  ∃ (i : Nat) (vs : List AV), i ≤ l.length ∧ n = l.length - i ∧ fr 0 = sl_List_Int t ∧ fr 5 = .int (t.length - 1 : Nat) ∧ fr 25 = sl_Gdifference_arc l ∧ fr 26 = .int l.length ∧ fr 27 = .int i ∧
    GridAt σ.next τ (fr 6) vs 26 3 AV.int (longerF t (l.take i)) ∧ Keeps σ τ ∧ σ.next ≤ τ.next
theorem longer_ev (t : List (List Int)) (l : List Gdifference_arc) (h : wfLg t l) : PureA Tryz.prog 94 [sl_List_Int (t), sl_Gdifference_arc (l)] (sl_List_Int (longerF t l)) := by
  obtain ⟨h1, h2, h3, h4, h5⟩ := h
  refine pureA_of Tryz.func94 rfl (by kernel_rfl) (fun σ => ?_)
  have hw1 : IntKind.i64.wrap ((t.length : Int) - 1) = ((t.length - 1 : Nat) : Int) := by rw [wrap64_of _ (by omega) (by omega)]; omega
  have hw2 : IntKind.i64.wrap (((t.length - 1 : Nat) : Int) + 1) = (t.length : Int) := by rw [wrap64_of _ (by omega) (by omega)]; omega
  simp [go_sem, Tryz.results94, Tryz.ntmps94, hw1, hw2]
  have hrep : s_slices_Repeat_int [inf] (t.length : Int) = some (List.replicate t.length inf) := by
    unfold s_slices_Repeat_int
    rw [if_pos ⟨rfl, by omega, by omega⟩, Int.toNat_natCast]
    rfl
  refine EW_loop (LgA t l σ) t.length ⟨0, [], by omega, by omega, by simp [go_sem], by simp [go_sem], by simp [go_sem], by simp [go_sem], by simp [go_sem], by simp [go_sem]; exact GridAt.nil, Keeps.refl _, Nat.le_refl _⟩ ?_
  rintro n fr τ ⟨j, vs, hj, rfl, f0, f1, f5, f14, f15, hR, hK, hN⟩
  simp [go_sem, f0, f1, f5, f14, f15]
  by_cases hlt : j < t.length
  · have hwj : IntKind.i64.wrap ((j : Int) + 1) = ((j + 1 : Nat) : Int) := by rw [wrap64_of _ (by omega) (by omega)]; rfl
    simp [go_sem, hlt, f0, f1, f5, f14, f15, hw2]
    obtain ⟨τ1, hτ1⟩ : ∃ τ1, τ1 = τ.alloc 3 [AV.int 1125899906842624] := ⟨_, rfl⟩
    rw [← hτ1]
    have hN1 : τ1.next = τ.next + 1 := by rw [hτ1]; rfl
    refine EWcall_of (callA_own_args (O := O_slices_Repeat_int (List.replicate t.length inf)) (xs := [.arr τ.next 0 1 1, .int t.length]) (ys := [intsA [inf], .int t.length]) (σ := τ1) (o_slices_Repeat_int [inf] t.length _ hrep) (frzL_c (frz_arrL (cs := [.int inf]) (Nat.zero_le _) (by rw [hτ1]; simp [get_alloc, inf]) (frzL_c (.lit _) frzL_n)) (frzL_c (.lit _) frzL_n)) (os_slices_Repeat_int _)) ?_
    rintro x τ2 ⟨⟨u, rfl, au⟩, hK2, hN2⟩
    rcases au with ⟨_, e, _⟩ | ⟨iu, rfl, g1, g2, g3, g4⟩
    · exfalso; rw [List.length_replicate] at e; omega
    have hR2 : GridAt σ.next τ2 (fr 6) vs 26 3 AV.int (List.replicate j (List.replicate t.length inf)) := hR.same (by omega) fun i hi => by
      have := hR.lt hi
      obtain ⟨a, b⟩ := hK2 i (by omega)
      rw [a, b, hτ1]
      simp [get_alloc, ty_alloc, show ¬ i = τ.next by omega]
    have hKs : Keeps σ τ2 := fun i hi => by
      rw [(hK2 i (by omega)).1, hτ1]
      simp [get_alloc, show ¬ i = τ.next by omega]
      exact hK i hi
    rw [List.length_replicate]
    have hpush : ∀ (τ3 : Mem) (w : Nat), τ2.next ≤ w → w < τ3.next → τ3.get w = some (vs ++ [.arr iu 0 t.length 1]) → τ3.ty w = 26 → (∀ i, i < τ2.next → idOf (fr 6) ≠ some i → τ3.get i = τ2.get i ∧ τ3.ty i = τ2.ty i) →
        GridAt σ.next τ3 (.arr w 0 (vs.length + 1) 1) (vs ++ [.arr iu 0 t.length 1]) 26 3 AV.int (List.replicate (j + 1) (List.replicate t.length inf)) := by
      intro τ3 w w1 w2 w3 w4 w5
      rw [List.replicate_succ']
      have hiu : idOf (fr 6) ≠ some iu := fun e => by have := hR.lt (.inl e); omega
      refine hR2.push (by omega) (fun x hx i hi => ?_) (.inr ⟨iu, by simp, by rw [(w5 iu (by omega) hiu).1, g1], by rw [(w5 iu (by omega) hiu).2, g2], by omega, by omega⟩) (.inr ⟨w, rfl, w3, w4, by omega, w2⟩) (fun x hx i h1 h2 => ?_) (fun x hx i h1 h2 => ?_)
      · exact w5 i (hR2.lt (.inr ⟨x, hx, hi⟩)).2 (fun e => hR2.far x hx i e hi)
      · cases h2; have := hR.lt (.inr ⟨x, hx, h1⟩); omega
      · cases h1
        rcases List.mem_append.1 hx with hx | hx
        · have := hR2.lt (.inr ⟨x, hx, h2⟩); omega
        · rw [List.mem_singleton.1 hx] at h2; cases h2; omega
    rcases hR2.out with ⟨e6, e1, e2⟩ | ⟨o, e6, o1, o2, o3, o4⟩
    · subst e2
      simp [go_sem, e6, f0, f1, f5, f14, f15, get_alloc]
      refine ⟨t.length - (j + 1), by omega, j + 1, [] ++ [.arr iu 0 t.length 1], by omega, rfl, by simp [go_sem, f0], by simp [go_sem, f1], by simp [go_sem, f5], by simp [go_sem, f14], by simp [go_sem]; exact hwj, ?_, fun i hi => ?_, by simp [next_alloc]; omega⟩
      · simp only [upd]
        exact hpush _ (τ2.next + 1) (by omega) (by simp [next_alloc]) (by simp [get_alloc, next_alloc]) (by simp [ty_alloc, next_alloc]) fun i hi _ => ⟨by simp [get_alloc, next_alloc, show ¬ i = τ2.next by omega, show ¬ i = τ2.next + 1 by omega], by simp [ty_alloc, next_alloc, show ¬ i = τ2.next by omega, show ¬ i = τ2.next + 1 by omega]⟩
      · simp [get_alloc, next_alloc, show ¬ i = τ2.next by omega, show ¬ i = τ2.next + 1 by omega]; exact hKs i hi
    · have hvl : vs.length = j := by rw [hR2.len, List.length_replicate]
      simp [go_sem, e6, f0, f1, f5, f14, f15, get_alloc, o1, o2, show ¬ o = τ2.next by omega, show vs.length ≤ 9223372036854775806 by omega, show (vs.length + 1) * 24 ≤ 140737488355328 by omega]
      refine ⟨t.length - (j + 1), by omega, j + 1, vs ++ [.arr iu 0 t.length 1], by omega, rfl, by simp [go_sem, f0], by simp [go_sem, f1], by simp [go_sem, f5], by simp [go_sem, f14], by simp [go_sem]; exact hwj, ?_, fun i hi => ?_, by simp [next_alloc, next_kill]; omega⟩
      · simp only [upd]
        exact hpush _ (τ2.next + 1) (by omega) (by simp [next_alloc, next_kill]) (by simp [get_alloc, next_alloc, next_kill]) (by simp [ty_alloc, next_alloc, next_kill]) fun i hi hne => by
          have hio : ¬ i = o := fun e => hne (by rw [e6, e]; rfl)
          exact ⟨by simp [get_alloc, get_kill, next_alloc, next_kill, hio, show ¬ i = τ2.next by omega, show ¬ i = τ2.next + 1 by omega], by simp [ty_alloc, ty_kill, next_alloc, next_kill, show ¬ i = τ2.next by omega, show ¬ i = τ2.next + 1 by omega]⟩
      · simp [get_alloc, get_kill, next_alloc, next_kill, show ¬ i = o by omega, show ¬ i = τ2.next by omega, show ¬ i = τ2.next + 1 by omega]; exact hKs i hi
  · have : j = t.length := by omega
    subst this
    clear hlt
    simp [go_sem, f0, f1, f5, f14, f15]
    refine EW_loop (LgB t l σ) l.length ⟨0, vs, by omega, by omega, by simp [go_sem, f0], by simp [go_sem, f5], by simp [go_sem], by simp [go_sem], by simp [go_sem], by simp only [upd, List.take_zero]; exact hR, hK, hN⟩ ?_
    clear f0 f1 f5 f14 f15 hR hK hN hj fr τ vs
    rintro n fr τ ⟨i, vs, hi, rfl, f0, f5, f25, f26, f27, hR, hK, hN⟩
    simp [go_sem, f0, f5, f25, f26, f27]
    by_cases hlt : i < l.length
    · have hwi : IntKind.i64.wrap ((i : Int) + 1) = ((i + 1 : Nat) : Int) := by rw [wrap64_of _ (by omega) (by omega)]; rfl
      have d := dropF (f := Gdifference_arcC) (sz := 5) (fun _ => rfl) l i hlt
      have hfl : (l.flatMap Gdifference_arcC).length = l.length * 5 := length_flatMap (f := Gdifference_arcC) (sz := 5) (fun _ => rfl) l
      have ha := h5 _ (nth_mem l i hlt)
      have htk : l.take (i + 1) = l.take i ++ [nth l i] := take_nth l i hlt
      have hsq : Sq t.length (longerF t (l.take i)) := longerF_sq fun a ha => h5 a (List.mem_of_mem_take ha)
      generalize nth l i = a at d ha htk
      simp [go_sem, hlt, f0, f5, f25, f26, f27, d, Gdifference_arcC, hfl, get_alloc, hw2]
      obtain ⟨x, hx⟩ : ∃ x : Nat, a.tox = x := ⟨a.tox.toNat, by omega⟩
      obtain ⟨y, hy⟩ : ∃ y : Nat, a.fromx = y := ⟨a.fromx.toNat, by omega⟩
      have hxl : x < t.length := by omega
      have hyl : y < t.length := by omega
      refine EW_loop (LgC t l σ a τ.next i) t.length ⟨0, vs, by omega, by omega, by simp [go_sem, f0], by simp [go_sem, f5], by simp [go_sem, f25], by simp [go_sem, f26], by simp [go_sem, f27], by simp [go_sem], by simp [go_sem], by simp [go_sem], ?_, by simp [get_set, Gdifference_arcC], hN, by simp [next_set, next_alloc], fun j hj e => ?_, fun j hj => ?_, by simp [next_set, next_alloc]; omega⟩ ?_
      · simp only [upd, List.range_zero, List.foldl_nil]
        exact hR.same (by simp [next_set, next_alloc]) fun j hj => by
          have := hR.lt hj
          exact ⟨by simp [get_set, get_alloc, show ¬ j = τ.next by omega], by simp [ty_set, ty_alloc, show ¬ j = τ.next by omega]⟩
      · have := hR.lt (i := j) hj; omega
      · simp [get_set, get_alloc, show ¬ j = τ.next by omega]; exact hK j hj
      generalize τ.next = b
      clear hR hK hN f0 f5 f25 f26 f27 d hfl τ fr vs
      rintro n fr τ ⟨k, vs, hk, rfl, f0, f5, f25, f26, f27, f8, f32, f33, hR, gb, hb1, hb2, hb3, hK, hN⟩
      simp [go_sem, f0, f5, f25, f26, f27, f8, f32, f33]
      by_cases hkl : k < t.length
      · have hwk : IntKind.i64.wrap ((k : Int) + 1) = ((k + 1 : Nat) : Int) := by rw [wrap64_of _ (by omega) (by omega)]; rfl
        have dx := dropM intsA t x hxl
        have hrl : (nth t x).length = t.length := h4 _ (nth_mem t x hxl)
        have dk := dropM AV.int (nth t x) k (by omega)
        have hS := lgSteps_sq (t := t) (a := a) hsq (by omega) (List.range k)
        have hst : (List.range (k + 1)).foldl (lgStep t a) (longerF t (l.take i)) = lgStep t a ((List.range k).foldl (lgStep t a) (longerF t (l.take i))) k := by rw [List.range_succ, List.foldl_append]; rfl
        generalize (List.range k).foldl (lgStep t a) (longerF t (l.take i)) = g at hR hS hst
        simp [go_sem, hkl, f0, f5, f25, f26, f27, f8, f32, f33, gb, Gdifference_arcC, hx, hxl, dx, intsA, hrl, dk]
        by_cases hc : nth (nth t x) k < 1125899906842624
        · simp [go_sem, hc]
          have hgy : g[y]? = some (nth g y) := by rw [List.getElem?_eq_getElem (by rw [hS.1]; exact hyl), nth_eq _ _ (by rw [hS.1]; exact hyl)]
          have hry : (nth g y).length = t.length := hS.nth hyl
          obtain ⟨o, iu, e6, o1, o2, o3, o4, u1, u2, u3, u4, u5, u6, u7, u8⟩ := hR.at hgy (fun e => by rw [e] at hry; simp at hry; omega)
          have dg := dropM AV.int (nth g y) k (by omega)
          have hb : ¬ o = b := hb3 o (.inl (by rw [e6]; rfl))
          have hset := set_map AV.int (min (nth (nth g y) k) (IntKind.i64.wrap (a.most + nth (nth t x) k))) (nth g y) k (by omega)
          rw [hry] at u1 u2
          rw [hS.1] at e6
          refine EW_regionY τ 26 (.q false 0 (.q false 1 (.q false 2 (.q false 3 (.q false 4 (.q false 5 (.q false 6 (.q false 7 (.q false 8 (.q false 9 (.q false 10 (.q false 11 (.q false 12 (.q false 13 (.q false 14 (.q false 15 (.q false 16 (.q false 17 (.q false 18 (.q false 19 (.q false 20 (.q false 21 (.q false 22 (.q false 23 (.q false 24 (.q false 25 .done)))))))))))))))))))))))))) (by kernel_rfl) (by kernel_rfl) (fun _ _ h => h) (fun hfin => ?_)
          have hsub : Sub τ τ := fun _ _ h => h
          simp (maxDischargeDepth := 12) [go_sem, hkl, f0, f5, f25, f26, f27, f8, f32, f33, gb, Gdifference_arcC, hx, hy, hxl, hyl, dx, intsA, hrl, dk, e6, o1, u2, u3, dg, hS.1, hry, hsub, show y < vs.length by rw [hR.len, hS.1]; exact hyl, hset]
          have hnb : ¬ iu = b := hb3 iu (.inr ⟨_, List.mem_of_getElem? u1, rfl⟩)
          have hlen2 : ((nth g y).set k (min (nth (nth g y) k) (IntKind.i64.wrap (a.most + nth (nth t x) k)))).length = (nth g y).length := List.length_set
          have hstep : lgStep t a g k = g.set y ((nth g y).set k (min (nth (nth g y) k) (IntKind.i64.wrap (a.most + nth (nth t x) k)))) := by
            unfold lgStep cell
            rw [hx, hy, Int.toNat_natCast, Int.toNat_natCast, if_pos (show nth (nth t x) k < inf from hc)]
          have hms := (List.map_set (f := AV.int) (l := nth g y) (i := k) (a := min (nth (nth g y) k) (IntKind.i64.wrap (a.most + nth (nth t x) k)))).symm
          simp [go_sem, show k + 1 ≤ t.length by omega, f33]
          refine ⟨t.length - (k + 1), by omega, k + 1, vs, by omega, rfl, by simp [go_sem, f0], by simp [go_sem, f5], by simp [go_sem, f25], by simp [go_sem, f26], by simp [go_sem, f27], by simp [go_sem, f8], by simp [go_sem, f32], by simp [go_sem]; exact hwk, ?_, by simp [get_set, show ¬ b = iu by omega]; exact gb, hb1, by simpa [next_set] using hb2, hb3, fun j hj => by simp [get_set, show ¬ j = iu by omega]; exact hK j hj, by simpa [next_set] using hN⟩
          rw [hst, hstep, hms]
          have := hR.turn hgy (by rw [hry]; exact u1) hlen2 u5 u6 u4
          exact this
        · simp [go_sem, hc, f33]
          have hstep : lgStep t a g k = g := by
            unfold lgStep cell
            rw [hx, Int.toNat_natCast, if_neg (show ¬ nth (nth t x) k < inf from hc)]
          exact ⟨t.length - (k + 1), by omega, k + 1, vs, by omega, rfl, by simp [go_sem, f0], by simp [go_sem, f5], by simp [go_sem, f25], by simp [go_sem, f26], by simp [go_sem, f27], by simp [go_sem, f8], by simp [go_sem, f32], by simp [go_sem]; exact hwk, by rw [hst, hstep]; exact hR, gb, hb1, hb2, hb3, hK, hN⟩
      · have : k = t.length := by omega
        subst this
        simp [go_sem, hkl, f27]
        exact ⟨l.length - (i + 1), by omega, i + 1, vs, by omega, rfl, by simp [go_sem, f0], by simp [go_sem, f5], by simp [go_sem, f25], by simp [go_sem, f26], by simp [go_sem]; exact hwi, by rw [htk, longerF_snoc]; exact hR, hK, hN⟩
    · have : i = l.length := by omega
      subst this
      simp [go_sem, hlt]
      rw [List.take_length] at hR
      exact ⟨hR.frz fun r => ints_data r, hK⟩
def s_difference_longer (t : List (List Int)) (l : List Gdifference_arc) : Option (List (List Int)) := if wfLg t l then some (longerF t l) else none
theorem w_difference_longer (t : List (List Int)) (l : List Gdifference_arc) (r : List (List Int)) (h : s_difference_longer t l = some r) : PureA Tryz.prog 94 [sl_List_Int (t), sl_Gdifference_arc (l)] (sl_List_Int (r)) := by
  obtain ⟨h1, rfl⟩ := some_of_if h
  exact longer_ev t l h1
end Go.Proofs.YtippinddoldhkaaGreat
