/-
  strings.Builder, as calls of ours see it: from what its methods do in the model's own words to contracts. Nothing here is about one program.
-/
import Derived.Test.YtkjikcmjcdlifaaEwI
import Derived.Lib.Builder
import Derived.Lib.UnsafeStr
namespace Go.Ew
open Go Go.RowKit

section
variable {P : Program}

theorem liesAt_self {e : TypeId} (hc : P.cellsOf e ≠ 0) (count n : Nat) (hn : n ≤ count) : liesAt P P.depth e count 0 e n = true := by
  have hd : P.depth = (2 * (P.types.size + Made.depth) + 1) + 1 := rfl
  rw [hd]
  simp only [liesAt, Bool.or_eq_true]
  left
  rw [hd]
  simp [rowAt, hc, hn, sameLayout]

theorem mem_ext {σ τ : Mem} (h1 : σ.next = τ.next) (h2 : σ.ty = τ.ty) (h3 : ∀ i, σ.get i = τ.get i) : σ = τ := by
  cases σ; cases τ; simp only at h1 h2 h3; subst h1; subst h2
  congr; funext i; exact h3 i

theorem set_self {σ : Mem} {id : Nat} {cs : List AV} (h : σ.get id = some cs) : σ.set id cs = σ :=
  mem_ext rfl rfl fun i => by rw [get_set]; split <;> simp_all

/-- copyCheck: the builder notes its own address. -/
theorem callA_copyCheck {f : FuncId} {T : TypeId} (hc : Callable P f) (hT : P.cellsOf T = 2)
    (used : ∀ (b : Nat) (w : World), w.cell? ⟨b, 0, none⟩ = some (.pointer (some ⟨b, 0, none⟩)) → Calls P f #[.pointer (some ⟨b, 0, none⟩)] w fun e w' => e = .returned (.tuple #[]) ∧ w' = w)
    (fresh : ∀ (b : Nat) (w : World) (cells : Nat), w.cell? ⟨b, 0, none⟩ = some (.pointer none) → w.shape? b = some (T, cells) → 2 ≤ cells → w.frozen? ⟨b, 0, none⟩ = false → liesAt P P.depth T (cells / P.cellsOf T) 0 T 1 = true →
      Calls P f #[.pointer (some ⟨b, 0, none⟩)] w fun e w' => e = .returned (.tuple #[]) ∧ w' = w.setCell ⟨b, 0, none⟩ (.pointer (some ⟨b, 0, none⟩)))
    {σ : Mem} {id : Nat} {p buf : AV} (hg : σ.get id = some [p, buf]) (ht : σ.ty id = T) (hp : p = .lit (.pointer none) ∨ p = .ptr id 0) :
    CallA P f [.ptr id 0] σ fun x σ' => x = .tup [] ∧ σ' = σ.set id [.ptr id 0, buf] := by
  refine ⟨hc, fun φ w vs hr hv => ?_⟩
  obtain ⟨hl, hv⟩ := hv
  match vs, hl, hv with
  | [v], _, hv =>
    have h0 := hv 0 _ _ rfl rfl
    cases h0 with
    | ptr _ _ hid =>
      obtain ⟨cur, h1, h2, h3⟩ := hr.cell id _ hg
      rw [ht] at h1
      obtain ⟨v0, k1, k2, k3⟩ := h3 0 p rfl
      obtain ⟨v1, l1, l2, l3⟩ := h3 1 buf rfl
      have hsz : 2 ≤ cur.size := by simpa using h2
      have self : ∀ {ψ : Nat → Nat} {w' : World}, RvM φ σ w' (.ptr id 0) (.pointer (some ⟨φ id, 0, none⟩)) := .ptr id 0 hid
      rcases hp with rfl | rfl
      · cases k3
        refine (fresh (φ id) w cur.size (by rw [Lib.cell_of_heap h1]; exact k1) (by simp [World.shape?, h1]) hsz (Lib.frozen_of_heap h1 0) (liesAt_self (by rw [hT]; decide) _ _ (by rw [hT]; omega))).mono ?_
        rintro e w' ⟨rfl, rfl⟩
        have W := relM_write (w' := w.setCell ⟨φ id, 0, none⟩ (.pointer (some ⟨φ id, 0, none⟩))) hr id _ [.ptr id 0, buf] hg cur (cur.setIfInBounds 0 (.pointer (some ⟨φ id, 0, none⟩))) T ht h1 (by simp) (fun i => by
          split
          · rename_i hi; subst hi; exact heap_setCell_same w (φ id) 0 cur T _ h1
          · rename_i hi; exact heap_setCell_other w _ i _ hi) (by simp) (by simp; omega) (fun j x hx => by
          match j with
          | 0 => simp at hx; subst hx; exact ⟨.pointer (some ⟨φ id, 0, none⟩), by simp [show 0 < cur.size by omega], rfl, .ptr id 0 hid⟩
          | 1 => simp at hx; subst hx; exact ⟨v1, by simpa using l1, l2, l3⟩
          | j + 2 => simp at hx) rfl rfl rfl
        exact ⟨_, _, φ, _, rfl, W.1, .tup [] [] rfl (fun j x v h => by simp at h), W.2, rfl, rfl⟩
      · cases k3 with
        | ptr _ _ _ =>
          refine (used (φ id) w (by rw [Lib.cell_of_heap h1]; exact k1)).mono ?_
          rintro e w' ⟨rfl, rfl⟩
          exact ⟨_, _, φ, σ, rfl, hr, .tup [] [] rfl (fun j x v h => by simp at h), Step.refl _ _ _, rfl, (set_self hg).symm⟩

theorem heap_freeze_other (w : World) (a : Addr) (n k : Nat) (h : k ≠ a.block) : (w.freeze a n).heap[k]? = w.heap[k]? := by
  unfold World.freeze
  split
  · rfl
  · simp only [Array.getElem?_modify]
    rw [if_neg (fun e => h e.symm)]
theorem heap_freeze_shape (w : World) (a : Addr) (n k : Nat) (cur : Array Value) (e : TypeId) (fz : Nat × Nat) (h : w.heap[k]? = some (.cells cur e fz)) : ∃ fz', (w.freeze a n).heap[k]? = some (.cells cur e fz') := by
  unfold World.freeze
  split
  · exact ⟨fz, h⟩
  · simp only [Array.getElem?_modify]
    split
    · rw [h]; exact ⟨_, rfl⟩
    · exact ⟨fz, h⟩
theorem size_freeze (w : World) (a : Addr) (n : Nat) : (w.freeze a n).heap.size = w.heap.size := by
  unfold World.freeze
  split <;> simp

/-- String: the bytes; the buffer is no longer the call's to write. -/
theorem callA_bldString {f : FuncId} {T e : TypeId} (hc : Callable P f)
    (row : ∀ (b g cap : Nat) (cb cur : Array Value) (l : List UInt8) (w : World), w.heap[b]? = some (.cells cb T (0, 0)) → cb[1]? = some (.slice (some ⟨g, 0, none⟩) l.length cap) → l ≠ [] →
      w.heap[g]? = some (.cells cur e (0, 0)) → l.length ≤ cap → cap ≤ maxLen → cap ≤ cur.size → (∀ (j : Nat) (x : UInt8), l[j]? = some x → cur[j]? = some (Value.int .u8 x.toNat)) →
      Calls P f #[.pointer (some ⟨b, 0, none⟩)] w fun e w' => e = .returned (.string ⟨l.toArray⟩) ∧ w' = w.drew.freeze ⟨g, 0, none⟩ l.length)
    {σ : Mem} {id bid : Nat} {p : AV} {l : List UInt8} (hg : σ.get id = some [p, .arr bid 0 l.length 1]) (ht : σ.ty id = T) (hb : σ.get bid = some (bytesA l)) (htb : σ.ty bid = e) (h0 : l ≠ []) :
    CallA P f [.ptr id 0] σ fun x σ' => x = .str l ∧ σ' = σ.kill bid := by
  refine ⟨hc, fun φ w vs hr hv => ?_⟩
  obtain ⟨hl, hv⟩ := hv
  match vs, hl, hv with
  | [v], _, hv =>
    have h0' := hv 0 _ _ rfl rfl
    cases h0' with
    | ptr _ _ hid =>
      obtain ⟨cb, h1, h2, h3⟩ := hr.cell id _ hg
      rw [ht] at h1
      obtain ⟨v1, l1, l2, l3⟩ := h3 1 _ rfl
      obtain ⟨cur, g1, g2, g3⟩ := hr.cell bid _ hb
      rw [htb] at g1
      cases l3 with
      | arr _ _ _ _ cap q1 q2 q3 q4 =>
        obtain ⟨cq, eq, fq, q5, q6⟩ := q4
        rw [g1] at q5
        cases q5
        have hcells : ∀ (j : Nat) (x : UInt8), l[j]? = some x → cur[j]? = some (Value.int .u8 x.toNat) := fun j x hx => by
          obtain ⟨u, u1, _, u3⟩ := g3 j (.u8 x.toNat) (by simp [bytesA, hx])
          cases u3
          exact u1
        refine (row (φ id) (φ bid) cap cb cur l w h1 l1 h0 g1 q2 q3 (by omega) hcells).mono ?_
        rintro e' w' ⟨rfl, rfl⟩
        have hbs : (σ.get bid).isSome = true := by simp [hb]
        have s : Step φ σ w φ (σ.kill bid) (w.drew.freeze ⟨φ bid, 0, none⟩ l.length) := by
          refine ⟨Nat.le_refl _, fun _ _ => rfl, fun b hb' => ?_, by rw [size_freeze]; exact Nat.le_refl _, fun b hb' hl' => ?_, fun b c e' fz hbb => ?_, ?_, ?_, ?_⟩
          · obtain ⟨k, k1, k2⟩ := hb'
            refine .inl ⟨k, ?_, k2⟩
            simp only [Mem.kill] at k1
            split at k1
            · cases k1
            · exact k1
          · rw [heap_freeze_other _ _ _ _ (fun e => hl' ⟨bid, hbs, e.symm⟩)]; rfl
          · obtain ⟨fz', k⟩ := heap_freeze_shape w.drew ⟨φ bid, 0, none⟩ l.length b c e' fz hbb
            exact ⟨c, fz', k, rfl⟩
          all_goals (unfold World.freeze; split <;> rfl)
        refine ⟨_, .str l, φ, σ.kill bid, rfl, ⟨fun k c hk => ?_, fun k c hk => ?_, fun i j hi hj he => ?_⟩, .lit _, s, rfl, rfl⟩
        · simp only [Mem.kill] at hk
          split at hk
          · cases hk
          · exact hr.live k c hk
        · simp only [Mem.kill] at hk
          split at hk
          · cases hk
          · rename_i hkb
            obtain ⟨c1, m1, m2, m3⟩ := hr.cell k c hk
            refine ⟨c1, ?_, m2, fun j x hx => ?_⟩
            · rw [heap_freeze_other _ _ _ _ (fun e => hkb (hr.inj k bid (by simp [hk]) hbs e))]; exact m1
            · obtain ⟨u, u1, u2, u3⟩ := m3 j x hx
              exact ⟨u, u1, u2, u3.step s⟩
        · simp only [Mem.kill] at hi hj
          split at hi <;> split at hj <;> first | (cases hi; done) | (cases hj; done) | exact hr.inj i j hi hj he

theorem callA_bldString_nil {f : FuncId} {T : TypeId} (hc : Callable P f)
    (row : ∀ (b : Nat) (cb : Array Value) (w : World), w.heap[b]? = some (.cells cb T (0, 0)) → cb[1]? = some (.slice none 0 0) → Calls P f #[.pointer (some ⟨b, 0, none⟩)] w fun e w' => e = .returned (.string ⟨#[]⟩) ∧ w' = w.drew)
    {σ : Mem} {id : Nat} {p : AV} (hg : σ.get id = some [p, .nils]) (ht : σ.ty id = T) : CallA P f [.ptr id 0] σ fun x σ' => x = .str [] ∧ σ' = σ := by
  refine ⟨hc, fun φ w vs hr hv => ?_⟩
  obtain ⟨hl, hv⟩ := hv
  match vs, hl, hv with
  | [v], _, hv =>
    have h0' := hv 0 _ _ rfl rfl
    cases h0' with
    | ptr _ _ hid =>
      obtain ⟨cb, h1, h2, h3⟩ := hr.cell id _ hg
      rw [ht] at h1
      obtain ⟨v1, l1, l2, l3⟩ := h3 1 _ rfl
      cases l3
      refine (row (φ id) cb w h1 l1).mono ?_
      rintro e' w' ⟨rfl, rfl⟩
      have hcls : Cls w w.drew := Cls.drew w
      exact ⟨_, .str [], φ, σ, rfl, hr.cls hcls, .lit _, Cls.step hcls, rfl, rfl⟩
end
end Go.Ew
