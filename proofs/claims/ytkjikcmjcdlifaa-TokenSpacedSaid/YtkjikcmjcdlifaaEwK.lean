/-
  A region that draws its order, whatever its operations are: those that write or call in the one order that their edges leave, those that only read wherever they come up. Nothing here is about one program.
-/
import Derived.Test.YtkjikcmjcdlifaaEwJ
namespace Go.Ew
open Go Go.RowKit

/-- What is in M0 is in σ. -/
def Sub (M0 σ : Mem) : Prop := ∀ id cs, M0.get id = some cs → σ.get id = some cs

section
variable {P : Program} {N : Nat} {ops : Array Oper} {md : Region.Mode} {M0 : Mem} {K : Fr → Mem → Prop}

theorem evOp_congr {ρ ρ' : Operand → AV} (op : Op) (σ : Mem) (h : ∀ x ∈ op.operands, ρ x = ρ' x) : evOp P op ρ σ = evOp P op ρ' σ := by
  have pairs : ∀ ps : Array (Nat × Operand), (∀ x ∈ ps.map (·.2), ρ x = ρ' x) → (ps.toList.map fun (i, x) => (i, ρ x)) = (ps.toList.map fun (i, x) => (i, ρ' x)) := fun ps hp =>
    List.map_congr_left fun p hm => by
      obtain ⟨i, x⟩ := p
      simp only [hp x (Array.mem_map.2 ⟨(i, x), by simpa using hm, rfl⟩)]
  cases op <;> simp only [Op.operands] at h <;> simp only [evOp]
  case build t ps => rw [pairs ps fun x hx => h x (by simpa using hx)]
  case buildSlice t n ps => rw [pairs ps fun x hx => h x (by simpa using hx)]
  case makeFunc fn first captured =>
    have e : captured.toList.map ρ = captured.toList.map ρ' := List.map_congr_left fun x hx => h x (by simp only [Array.mem_append]; exact .inr (by simpa using hx))
    cases fn <;> simp only [e]
  case slice t x lo hi mx =>
    cases lo <;> cases hi <;> cases mx <;> simp_all
  case call c =>
    obtain ⟨callee, cargs, ats⟩ := c
    have e : cargs.toList.map ρ = cargs.toList.map ρ' := List.map_congr_left fun x hx => h x (by simp [Call.operands]; exact .inr (by simpa using hx))
    have e' : ∀ x ∈ cargs.toList, ρ x = ρ' x := fun x hx => h x (by simp [Call.operands]; exact .inr (by simpa using hx))
    cases callee with
    | value f =>
      have hf : ρ f = ρ' f := h f (by simp [Call.operands])
      simp only [e, hf]
    | invoke r m => rfl
    | builtin b =>
      cases b <;> simp only
      all_goals
        split <;> simp_all
  all_goals (first | rfl | (simp_all; done))
/-- An operation that only reads, in a part of the memory, reads the same in all of it. -/
theorem atPtr_sub {τ : Mem} (hs : Sub M0 τ) {x : AV} {cs : List AV} (h : atPtr M0 x = some cs) : atPtr τ x = some cs := by
  cases x <;> simp only [atPtr] at h ⊢ <;> first | exact h | skip
  rename_i id off
  cases hg : M0.get id with
  | none => rw [hg] at h; cases h
  | some c => rw [hg] at h; rw [hs id c hg]; exact h
theorem evOp_sub {τ σ' : Mem} {op : Op} {ρ : Operand → AV} {x : AV} (hs : Sub M0 τ) (hq : quietOp op = true) (h : evOp P op ρ M0 = .ok x σ') : evOp P op ρ τ = .ok x τ := by
  have fin : ∀ {q : Option AV}, NextA.val M0 q = .ok x σ' → NextA.val τ q = .ok x τ := fun {q} h => by rw [(val_ok h).1]; rfl
  cases op <;> first | (simp [quietOp] at hq; done) | skip
  case load t a =>
    simp only [evOp] at h ⊢
    have h1 := (val_ok h).1
    cases hp : atPtr M0 (ρ a) with
    | none => rw [hp] at h1; cases h1
    | some cs =>
      rw [hp] at h1
      rw [atPtr_sub hs hp, h1]
      rfl
  case makeFunc fn first captured =>
    cases fn <;> simp only [evOp] at h ⊢ <;> first | (cases h; done) | skip
    split at h <;> first | (cases h; done) | skip
    rename_i h0
    rw [if_pos h0]
    cases h
    rfl
  case slice t x lo hi mx =>
    cases mx <;> simp only [evOp] at h ⊢ <;> first | (cases h; done) | skip
    exact fin h
  case call c =>
    obtain ⟨callee, cargs, ats⟩ := c
    cases callee with
    | value f => simp [quietOp] at hq
    | invoke r m => simp [quietOp] at hq
    | builtin b =>
      cases b <;> first | (simp [quietOp] at hq; done) | skip
      all_goals
        simp only [evOp] at h ⊢
        split at h <;> first | (cases h; done) | skip
        exact fin h
  all_goals
    simp only [evOp] at h ⊢
    first
      | (cases h; rfl)
      | exact fin h

/-! ### Steps in any order -/
def wantG : GuardA → Option Bool
  | .run => some true
  | .skip => some false
  | .test x b => some (x == b)
  | .fail => none
def wantA (all : Array Oper) (o : Oper) (fr : Fr) : Option Bool := wantG (guardA all o fr)
def runA (P : Program) (N : Nat) (o : Oper) (K : Fr → Mem → Prop) (fr : Fr) (σ : Mem) : Prop :=
  match evOp P o.op (evalA fr) σ with
  | .ok x σ' => dstOk N o.dst = true ∧ K (putA fr o.dst x) σ'
  | .call f args => dstOk N o.dst = true ∧ ∃ R, CallA P f args σ R ∧ ∀ x σ', R x σ' → K (putA fr o.dst x) σ'
  | .fail => False
def stepA (P : Program) (N : Nat) (all : Array Oper) (o : Oper) (K : Fr → Mem → Prop) (fr : Fr) (σ : Mem) : Prop :=
  match wantA all o fr with
  | some true => runA P N o K fr σ
  | some false => dstOk N o.dst = true ∧ K (putA fr o.dst .undef) σ
  | none => False
def anyA (P : Program) (N : Nat) (md : Region.Mode) (ops : Array Oper) (M0 : Mem) (K : Fr → Mem → Prop) : Nat → Array Bool → Fr → Mem → Prop
  | 0, listed, fr, σ => Sub M0 σ ∧ Region.ready md ops listed = [] ∧ K fr σ
  | fuel + 1, listed, fr, σ => Sub M0 σ ∧ (Region.ready md ops listed = [] → K fr σ) ∧ ∀ i ∈ Region.ready md ops listed, ∃ o, ops[i]? = some o ∧ stepA P N ops o (anyA P N md ops M0 K fuel (listed.setIfInBounds i true)) fr σ

theorem anyA_sub {fuel : Nat} {listed : Array Bool} {fr : Fr} {σ : Mem} (h : anyA P N md ops M0 K fuel listed fr σ) : Sub M0 σ := by
  cases fuel with
  | zero => exact h.1
  | succ n => exact h.1

theorem putA_comm (fr : Fr) {x y : Option Tmp} (v u : AV) (h : ∀ d, x = some d → y ≠ some d) : putA (putA fr x v) y u = putA (putA fr y u) x v := by
  cases x with
  | none => rfl
  | some d =>
    cases y with
    | none => rfl
    | some e =>
      have hne : d ≠ e := fun he => h d rfl (he ▸ rfl)
      funext j
      simp only [putA, upd]
      by_cases h1 : j = e <;> by_cases h2 : j = d <;> simp_all
theorem evalA_put (fr : Fr) {d : Option Tmp} {v : AV} {x : Operand} (h : ∀ e, d = some e → x ≠ .tmp e) : evalA (putA fr d v) x = evalA fr x := by
  cases d with
  | none => rfl
  | some e =>
    cases x with
    | tmp t => 
      have hne : t ≠ e := fun he => h e rfl (he ▸ rfl)
      simp [evalA, putA, upd, hne]
    | _ => rfl
theorem wantA_put (o : Oper) (fr : Fr) {d : Option Tmp} {v : AV} (h : ∀ e, d = some e → e ∉ o.looksAt ops) : wantA ops o (putA fr d v) = wantA ops o fr := by
  have e : guardA ops o (putA fr d v) = guardA ops o fr := by
    unfold guardA
    cases hg : o.guard with
    | none => rfl
    | some jb =>
      obtain ⟨j, b⟩ := jb
      simp only
      cases hd : (ops[j]?).bind (·.dst) with
      | none => rfl
      | some t =>
        simp only
        cases d with
        | none => rfl
        | some e =>
          have hne : t ≠ e := fun he => h e rfl (by simp [Oper.looksAt, hg, hd, he])
          simp [putA, upd, hne]
  unfold wantA
  rw [e]
theorem evOp_put (o : Oper) (fr : Fr) (σ : Mem) {d : Option Tmp} {v : AV} (h : ∀ e, d = some e → e ∉ o.looksAt ops) : evOp P o.op (evalA (putA fr d v)) σ = evOp P o.op (evalA fr) σ :=
  evOp_congr o.op σ fun x hx => evalA_put fr fun e he hxe => h e he (by
    subst hxe
    exact List.mem_append_left _ (List.mem_filterMap.2 ⟨.tmp e, by simpa using hx, rfl⟩))
theorem runA_put (o : Oper) {K K' : Fr → Mem → Prop} {fr : Fr} {σ : Mem} {d : Option Tmp} {v : AV} (h1 : ∀ e, d = some e → e ∉ o.looksAt ops) (h2 : ∀ e, d = some e → o.dst ≠ some e)
    (hK : ∀ x σ', K (putA (putA fr o.dst x) d v) σ' → K' (putA fr o.dst x) σ') (h : runA P N o K (putA fr d v) σ) : runA P N o K' fr σ := by
  unfold runA at h ⊢
  rw [evOp_put o fr σ h1] at h
  split at h
  · rename_i x σ' he
    refine ⟨h.1, hK _ _ ?_⟩
    rw [← putA_comm fr v x h2]
    exact h.2
  · obtain ⟨k1, R, k2, k3⟩ := h
    refine ⟨k1, R, k2, fun x σ' hx => hK _ _ ?_⟩
    rw [← putA_comm fr v x h2]
    exact k3 x σ' hx
  · exact h
theorem stepA_put (o : Oper) {K K' : Fr → Mem → Prop} {fr : Fr} {σ : Mem} {d : Option Tmp} {v : AV} (h1 : ∀ e, d = some e → e ∉ o.looksAt ops) (h2 : ∀ e, d = some e → o.dst ≠ some e)
    (hK : ∀ x σ', K (putA (putA fr o.dst x) d v) σ' → K' (putA fr o.dst x) σ') (h : stepA P N ops o K (putA fr d v) σ) : stepA P N ops o K' fr σ := by
  unfold stepA at h ⊢
  rw [wantA_put o fr h1] at h
  split at h
  · exact runA_put o h1 h2 hK h
  · refine ⟨h.1, hK _ _ ?_⟩
    rw [← putA_comm fr v _ h2]
    exact h.2
  · exact h

/-- Operation o only reads, and comes to x, wherever it comes up. -/
def StillA (P : Program) (N : Nat) (ops : Array Oper) (M0 : Mem) (o : Oper) (x : AV) (fr : Fr) : Prop :=
  dstOk N o.dst = true ∧ ((wantA ops o fr = some true ∧ quietOp o.op = true ∧ ∃ τ, evOp P o.op (evalA fr) M0 = .ok x τ) ∨ (wantA ops o fr = some false ∧ x = .undef))
theorem StillA.step {o : Oper} {x : AV} {fr : Fr} {σ : Mem} (h : StillA P N ops M0 o x fr) (hs : Sub M0 σ) (hK : K (putA fr o.dst x) σ) : stepA P N ops o K fr σ := by
  obtain ⟨h0, ⟨h1, h2, τ, h3⟩ | ⟨h1, rfl⟩⟩ := h
  · simp only [stepA, h1, runA, evOp_sub hs h2 h3]
    exact ⟨h0, hK⟩
  · simp only [stepA, h1]
    exact ⟨h0, hK⟩
theorem StillA.put {o : Oper} {x : AV} {fr : Fr} {d : Option Tmp} {v : AV} (h : StillA P N ops M0 o x fr) (h1 : ∀ e, d = some e → e ∉ o.looksAt ops) : StillA P N ops M0 o x (putA fr d v) := by
  unfold StillA at h ⊢
  rw [wantA_put o fr h1, evOp_put o fr M0 h1]
  exact h

/-- A reading operation that may come up now may be taken first. -/
theorem anyA_first {i : Nat} {oi : Oper} {x : AV} (hi : ops[i]? = some oi) : ∀ (fuel : Nat) (listed : Array Bool) (fr : Fr) (σ : Mem),
      (∀ j oj, ops[j]? = some oj → j ≠ i → listed.getD j true = false → (∀ e ∈ oj.after, Region.binds md e = true → e.on ≠ i) → oi.apart ops oj = true) →
      i ∈ Region.ready md ops listed → StillA P N ops M0 oi x fr → Sub M0 σ → anyA P N md ops M0 K fuel (listed.setIfInBounds i true) (putA fr oi.dst x) σ → anyA P N md ops M0 K (fuel + 1) listed fr σ := by
  intro fuel
  induction fuel with
  | zero =>
    intro listed fr σ _ hr hy hs H
    refine ⟨hs, fun h => (by rw [h] at hr; cases hr), fun j hj => ?_⟩
    by_cases hji : j = i
    · subst hji
      exact ⟨oi, hi, hy.step hs H⟩
    · have h1 := ready_mono hj hji
      rw [H.2.1] at h1
      cases h1
  | succ fuel ih =>
    intro listed fr σ hfree hr hy hs H
    refine ⟨hs, fun h => (by rw [h] at hr; cases hr), fun j hj => ?_⟩
    by_cases hji : j = i
    · subst hji
      exact ⟨oi, hi, hy.step hs H⟩
    · obtain ⟨oj, hoj, h1⟩ := H.2.2 j (ready_mono hj hji)
      refine ⟨oj, hoj, ?_⟩
      obtain ⟨hjun, oj', hoj', hjall⟩ := mem_ready.1 hj
      have hiun := (mem_ready.1 hr).1
      rw [hoj] at hoj'
      cases hoj'
      have hnot : ∀ e ∈ oj.after, Region.binds md e = true → e.on ≠ i := fun e he hb hei => by
        have := hjall e he hb
        rw [hei] at this
        cases hg : listed[i]? <;> simp [Array.getD_eq_getD_getElem?, hg] at this hiun
        simp [this] at hiun
      have hap := hfree j oj hoj hji hjun hnot
      obtain ⟨a1, a2, a3⟩ := Oper.apart_spec hap
      have hfree' : ∀ k ok, ops[k]? = some ok → k ≠ i → (listed.setIfInBounds j true).getD k true = false → (∀ e ∈ ok.after, Region.binds md e = true → e.on ≠ i) → oi.apart ops ok = true := fun k ok hk hki hun hno => by
        refine hfree k ok hk hki ?_ hno
        by_cases hjk : j = k
        · subst hjk; exact hjun
        · rw [getD_set_ne true hjk] at hun; exact hun
      refine stepA_put oj a1 a2 (fun y σ' hy' => ?_) h1
      refine ih _ _ _ hfree' (ready_mono hr (Ne.symm hji)) (hy.put a3) (anyA_sub hy') ?_
      rw [Array.setIfInBounds_comm _ _ hji]
      exact hy'

/-- THE ORDER: each reading operation may come up and may be taken first; where another's turn is, it alone may come up. -/
def ordFrom (md : Region.Mode) (ops : Array Oper) : List Nat → Array Bool → Bool
  | [], listed => (Region.ready md ops listed).isEmpty
  | i :: l, listed => (match ops[i]? with | some o => (if quietOp o.op then (Region.ready md ops listed).contains i && Region.free md ops listed i else Region.ready md ops listed == [i]) | none => false) && ordFrom md ops l (listed.setIfInBounds i true)
def ordB (md : Region.Mode) (ops : Array Oper) (ord : List Nat) : Bool := decide (ord.length = ops.size) && ordFrom md ops ord (Array.replicate ops.size false)
/-- THE WALK in that order. -/
def listA (P : Program) (N : Nat) (ops : Array Oper) (M0 : Mem) (K : Fr → Mem → Prop) : List Oper → Fr → Mem → Prop
  | [], fr, σ => K fr σ
  | o :: l, fr, σ => if quietOp o.op then ∃ x, StillA P N ops M0 o x fr ∧ listA P N ops M0 K l (putA fr o.dst x) σ else stepA P N ops o (fun fr' σ' => Sub M0 σ' ∧ listA P N ops M0 K l fr' σ') fr σ

theorem stepA_mono {o : Oper} {K K' : Fr → Mem → Prop} {fr : Fr} {σ : Mem} (hK : ∀ fr σ, K fr σ → K' fr σ) (h : stepA P N ops o K fr σ) : stepA P N ops o K' fr σ := by
  unfold stepA runA at *
  split at h
  · split at h
    · exact ⟨h.1, hK _ _ h.2⟩
    · obtain ⟨k1, R, k2, k3⟩ := h
      exact ⟨k1, R, k2, fun x σ' hx => hK _ _ (k3 x σ' hx)⟩
    · exact h
  · exact ⟨h.1, hK _ _ h.2⟩
  · exact h

theorem anyA_list : ∀ (ord : List Nat) (l : List Oper) (listed : Array Bool) (fr : Fr) (σ : Mem), ord.map (fun i => ops[i]?) = l.map some → ordFrom md ops ord listed = true → Sub M0 σ → listA P N ops M0 K l fr σ → anyA P N md ops M0 K ord.length listed fr σ
  | [], [], listed, fr, σ, _, hB, hs, h => ⟨hs, by simpa [ordFrom] using hB, h⟩
  | [], _ :: _, _, _, _, hl, _, _, _ => by simp at hl
  | _ :: _, [], _, _, _, hl, _, _, _ => by simp at hl
  | i :: ord, o :: l, listed, fr, σ, hl, hB, hs, h => by
    simp only [List.map_cons, List.cons.injEq] at hl
    obtain ⟨h0, hl⟩ := hl
    simp only [ordFrom, h0, Bool.and_eq_true] at hB
    obtain ⟨hB1, hB2⟩ := hB
    unfold listA at h
    by_cases hq : quietOp o.op = true
    · rw [if_pos hq] at h hB1
      obtain ⟨x, h1, h2⟩ := h
      simp only [Bool.and_eq_true] at hB1
      exact anyA_first h0 ord.length listed fr σ (Region.free_spec h0 hB1.2) (by simpa using hB1.1) h1 hs (anyA_list ord l _ _ _ hl hB2 hs h2)
    · rw [if_neg hq] at h hB1
      have hrd : Region.ready md ops listed = [i] := by simpa using hB1
      refine ⟨hs, fun e => (by rw [hrd] at e; cases e), fun j hj => ?_⟩
      rw [hrd] at hj
      have hji : j = i := by simpa using hj
      subst hji
      exact ⟨o, h0, stepA_mono (fun fr' σ' h' => anyA_list ord l _ fr' σ' hl hB2 h'.1 h'.2) h⟩

/-! ### It is sound -/
theorem wantG_spec {g : GuardA} {b : Bool} (h : wantG g = some b) : (g = .run ∧ b = true) ∨ (g = .skip ∧ b = false) ∨ ∃ x c, g = .test x c ∧ b = (x == c) := by
  cases g <;> simp [wantG] at h
  · exact .inl ⟨rfl, h⟩
  · exact .inr (.inl ⟨rfl, h⟩)
  · exact .inr (.inr ⟨_, _, rfl, h.symm⟩)
theorem want_spec {φ : Nat → Nat} {σ : Mem} {w : World} {o : Oper} {fr : Fr} {t : Array Value} {b : Bool} (hf : RelF φ σ w fr t) (h : wantA ops o fr = some b) : Region.wanted o (yielded ops t) = b := by
  rcases wantG_spec h with ⟨hg, rfl⟩ | ⟨hg, rfl⟩ | ⟨x, c, hg, rfl⟩
  · exact guard_run hg
  · exact (guard_spec hf).1 hg
  · exact (guard_spec hf).2 x c hg
theorem wpAny_of_anyA {φ0 : Nat → Nat} {σ0 : Mem} {w0 : World} : ∀ (fuel : Nat) (listed : Array Bool) (fr : Fr) (σ : Mem) (φ : Nat → Nat) (w : World) (a : Act), RelM φ σ w → RelF φ σ w fr a.tmps → a.defers = [] → a.tmps.size = N → Step φ0 σ0 w0 φ σ w →
    anyA P N md ops M0 K fuel listed fr σ → wpAny P md ops (fun e a' w' => e = .normal ∧ St φ0 σ0 w0 N K a' w') fuel listed a w
  | 0, _, fr, σ, φ, w, a, hr, hf, hd, hn, hs, h => ⟨h.2.1, rfl, φ, σ, fr, hr, hf, hd, hn, hs, h.2.2⟩
  | fuel + 1, listed, fr, σ, φ, w, a, hr, hf, hd, hn, hs, h => by
    refine ⟨fun h0 => ⟨rfl, φ, σ, fr, hr, hf, hd, hn, hs, h.2.1 h0⟩, fun i hi => ?_⟩
    obtain ⟨o, ho, h1⟩ := h.2.2 i hi
    unfold wpOp
    simp only [ho]
    unfold stepA at h1
    split at h1
    · rename_i hw
      rw [if_pos (want_spec hf hw)]
      refine .inl ?_
      unfold runA at h1
      unfold Oper.wp
      split at h1
      · rename_i x σ' he
        obtain ⟨n, v, w', φ', k1, k2, k3, k4, k5⟩ := evOp_ok hr hf he
        have hf' : RelF φ' σ' w' (putA fr o.dst x) (a.put o.dst v).tmps := (hf.step k5).put k4 (by rw [hn]; exact h1.1)
        have := wpAny_of_anyA fuel _ _ σ' φ' w' (a.put o.dst v) k3 hf' (by cases o.dst <;> exact hd) (by rw [size_put]; exact hn) (hs.trans k5) h1.2
        rw [k1]
        rcases k2 with rfl | ⟨rfl, rfl⟩
        · rw [Oper.upon_value]; exact this
        · rw [Oper.upon_skip]; exact this
      · rename_i f args he
        obtain ⟨hdst, R, hc, hR⟩ := h1
        obtain ⟨vs, k1, k2⟩ := evOp_call hf he hc.1
        rw [k2 w, Oper.upon_enter]
        refine (hc.2 φ w vs hr k1).mono ?_
        rintro e w' ⟨v, x, φ', σ', rfl, k3, k4, k5, k6⟩
        have hf' : RelF φ' σ' w' (putA fr o.dst x) (a.put o.dst v).tmps := (hf.step k5).put k4 (by rw [hn]; exact hdst)
        exact wpAny_of_anyA fuel _ _ σ' φ' w' (a.put o.dst v) k3 hf' (by cases o.dst <;> exact hd) (by rw [size_put]; exact hn) (hs.trans k5) (hR x σ' k6)
      · exact h1.elim
    · rename_i hw
      rw [if_neg (by rw [want_spec hf hw]; simp)]
      have hf' : RelF φ σ w (putA fr o.dst .undef) (a.put o.dst Go.undef).tmps := hf.put (.tup [] [] rfl (fun j x v h => by simp at h)) (by rw [hn]; exact h1.1)
      exact wpAny_of_anyA fuel _ _ σ φ w (a.put o.dst Go.undef) hr hf' (by cases o.dst <;> exact hd) (by rw [size_put]; exact hn) hs h1.2
    · exact h1.elim
end

/-! ### The rule, and its equations for 'simp' -/
section
variable {P : Program} {N : Nat} {Q : Fr → Mem → Prop} {k : List Itm} {fr : Fr} {σ M0 : Mem} {all : Array Oper} {o : Oper} {l : List Oper}
def EWl (M0 : Mem) (P : Program) (N : Nat) (Q : Fr → Mem → Prop) (k : List Itm) (all : Array Oper) (l : List Oper) (fr : Fr) (σ : Mem) : Prop := listA P N all M0 (fun fr σ => EW P N Q k fr σ) l fr σ
@[congr] theorem EWl_congr {fr' : Fr} {σ' : Mem} (h2 : fr = fr') (h3 : σ = σ') : EWl M0 P N Q k all l fr σ = EWl M0 P N Q k all l fr' σ' := by rw [h2, h3]

theorem EW_regionL {id : Nat} (M0 : Mem) (ord : List Nat) (h1 : P.follows .mixedOrders = true) (h2 : ordB .any all ord = true) (hl : ord.map (fun i => all[i]?) = l.map some) (hs : Sub M0 σ) (h : (∀ i, σ.next ≤ i → σ.get i = none) → EWl M0 P N Q k all l fr σ) :
    EW P N Q (.code (.region id all true) :: k) fr σ := by
  simp only [ordB, Bool.and_eq_true, decide_eq_true_eq] at h2
  by_cases hfin : ∀ i, σ.next ≤ i → σ.get i = none
  · refine .raw (fun fr' σ' => EW P N Q k fr' σ') (fun φ w a hr hf hd hn => ?_) (fun _ _ h => h)
    have hcls := Cls.drew w
    have hany := anyA_list (md := .any) (P := P) (N := N) (K := fun fr σ => EW P N Q k fr σ) ord l _ fr σ hl h2.2 hs (h hfin)
    rw [h2.1] at hany
    refine Code.wp_mono ?_ (wp_region_any (Q := fun e a' w' => e = .normal ∧ St φ σ w N (fun fr σ => EW P N Q k fr σ) a' w') h1
      (wpAny_of_anyA (φ0 := φ) (σ0 := σ) (w0 := w) all.size _ fr σ φ _ a (hr.cls hcls) (hf.step (Cls.step hcls)) hd hn (Cls.step hcls) hany))
    rintro e a' w' ⟨rfl, φ', σ', fr', k1, k2, k3, k4, k5, k6⟩
    exact ⟨rfl, φ', σ', fr', k1, k2, k3, k4, k5, k6⟩
  · refine .raw (fun _ _ => False) (fun φ w a hr _ _ _ => absurd (fun i hi => ?_) hfin) (fun _ _ h => h.elim)
    cases hg : σ.get i with
    | none => rfl
    | some cs => exact absurd (hr.live i cs hg) (by omega)
/-- The same in index order. -/
theorem EW_regionI {id : Nat} {l : List Oper} (M0 : Mem) (h1 : P.follows .mixedOrders = true) (h2 : ordB .any l.toArray (List.range l.length) = true) (hs : Sub M0 σ) (h : (∀ i, σ.next ≤ i → σ.get i = none) → EWl M0 P N Q k l.toArray l fr σ) :
    EW P N Q (.code (.region id l.toArray true) :: k) fr σ := by
  refine EW_regionL M0 _ h1 h2 ?_ hs h
  apply List.ext_getElem?
  intro i
  simp only [List.getElem?_map, List.getElem?_toArray]
  by_cases hi : i < l.length
  · rw [List.getElem?_range hi]
    simp [hi]
  · rw [List.getElem?_eq_none (by simpa using hi), List.getElem?_eq_none (by omega)]
    rfl
/-- The same in an order that is named. -/
theorem EW_regionP {id : Nat} {l : List Oper} (M0 : Mem) (ord : List Nat) (h1 : P.follows .mixedOrders = true) (h2 : (ordB .any l.toArray ord && ord.all fun i => decide (i < l.length)) = true) (hs : Sub M0 σ) (h : (∀ i, σ.next ≤ i → σ.get i = none) → EWl M0 P N Q k l.toArray (ord.filterMap fun i => l[i]?) fr σ) :
    EW P N Q (.code (.region id l.toArray true) :: k) fr σ := by
  simp only [Bool.and_eq_true] at h2
  refine EW_regionL M0 _ h1 h2.1 ?_ hs h
  have h3 : ∀ i ∈ ord, i < l.length := fun i hi => by simpa using List.all_eq_true.1 h2.2 i hi
  clear h h2
  induction ord with
  | nil => rfl
  | cons i ord ih =>
    have hi := h3 i (by simp)
    have := ih fun j hj => h3 j (by simp [hj])
    simp only [List.getElem?_toArray] at this
    simp only [List.map_cons, List.getElem?_toArray, List.getElem?_eq_getElem hi, List.filterMap_cons]
    rw [this]

def EWlc (M0 : Mem) (P : Program) (N : Nat) (Q : Fr → Mem → Prop) (f : FuncId) (args : List AV) (dst : Option Tmp) (l : List Oper) (all : Array Oper) (k : List Itm) (fr : Fr) (σ : Mem) : Prop :=
  ∃ R, CallA P f args σ R ∧ ∀ x σ', R x σ' → Sub M0 σ' ∧ EWl M0 P N Q k all l (putA fr dst x) σ'
@[congr] theorem EWlc_congr {f f' : FuncId} {args args' : List AV} {dst : Option Tmp} {fr' : Fr} {σ' : Mem} (h0 : f = f') (h1 : args = args') (h2 : fr = fr') (h3 : σ = σ') :
    EWlc M0 P N Q f args dst l all k fr σ = EWlc M0 P N Q f' args' dst l all k fr' σ' := by rw [h0, h1, h2, h3]
theorem EWlc_pure {f : FuncId} {args : List AV} {D : AV} {dst : Option Tmp} (h : PureA P f args D) (hs : Sub M0 σ) (hk : EWl M0 P N Q k all l (putA fr dst D) σ) : EWlc M0 P N Q f args dst l all k fr σ :=
  ⟨_, h σ, fun x σ' ⟨h1, h2⟩ => by subst h1; subst h2; exact ⟨hs, hk⟩⟩
theorem EWlc_of {f : FuncId} {args : List AV} {R : AV → Mem → Prop} {dst : Option Tmp} (h : CallA P f args σ R) (hk : ∀ x σ', R x σ' → Sub M0 σ' ∧ EWl M0 P N Q k all l (putA fr dst x) σ') : EWlc M0 P N Q f args dst l all k fr σ := ⟨R, h, hk⟩

def EWlq (n : NextA) (ok : Bool) (M0 : Mem) (P : Program) (N : Nat) (Q : Fr → Mem → Prop) (dst : Option Tmp) (l : List Oper) (all : Array Oper) (k : List Itm) (fr : Fr) (σ : Mem) : Prop :=
  match n with
  | .ok x _ => ok = true ∧ EWl M0 P N Q k all l (putA fr dst x) σ
  | _ => False
def EWln (n : NextA) (ok : Bool) (M0 : Mem) (P : Program) (N : Nat) (Q : Fr → Mem → Prop) (dst : Option Tmp) (l : List Oper) (all : Array Oper) (k : List Itm) (fr : Fr) : Mem → Prop := fun σ =>
  match n with
  | .ok x σ' => ok = true ∧ Sub M0 σ' ∧ EWl M0 P N Q k all l (putA fr dst x) σ'
  | .call f args => ok = true ∧ EWlc M0 P N Q f args dst l all k fr σ
  | .fail => False
/-- Behind a guard; behind a reading operation; behind another. -/
def EWlg (g : GuardA) (ok q : Bool) (M0 : Mem) (P : Program) (N : Nat) (Q : Fr → Mem → Prop) (o : Oper) (l : List Oper) (all : Array Oper) (k : List Itm) (fr : Fr) (σ : Mem) : Prop :=
  if q then ∃ x, (ok = true ∧ ((wantG g = some true ∧ ∃ τ, evOp P o.op (evalA fr) M0 = .ok x τ) ∨ (wantG g = some false ∧ x = .undef))) ∧ EWl M0 P N Q k all l (putA fr o.dst x) σ
  else match wantG g with
    | some true => EWln (evOp P o.op (evalA fr) σ) ok M0 P N Q o.dst l all k fr σ
    | some false => ok = true ∧ Sub M0 σ ∧ EWl M0 P N Q k all l (putA fr o.dst .undef) σ
    | none => False
@[congr] theorem EWlg_congr {g g' : GuardA} {ok ok' q q' : Bool} {fr' : Fr} {σ' : Mem} (h0 : g = g') (h1 : ok = ok') (hq : q = q') (h2 : fr = fr') (h3 : σ = σ') :
    EWlg g ok q M0 P N Q o l all k fr σ = EWlg g' ok' q' M0 P N Q o l all k fr' σ' := by rw [h0, h1, hq, h2, h3]
@[congr] theorem EWlq_congr {n n' : NextA} {ok ok' : Bool} {dst : Option Tmp} {fr' : Fr} {σ' : Mem} (h0 : n = n') (h1 : ok = ok') (h2 : fr = fr') (h3 : σ = σ') :
    EWlq n ok M0 P N Q dst l all k fr σ = EWlq n' ok' M0 P N Q dst l all k fr' σ' := by rw [h0, h1, h2, h3]
@[congr] theorem EWln_congr {n n' : NextA} {ok ok' : Bool} {dst : Option Tmp} {fr' : Fr} {σ' : Mem} (h0 : n = n') (h1 : ok = ok') (h2 : fr = fr') (h3 : σ = σ') :
    EWln n ok M0 P N Q dst l all k fr σ = EWln n' ok' M0 P N Q dst l all k fr' σ' := by rw [h0, h1, h2, h3]

theorem EWl_nil : EWl M0 P N Q k all [] fr σ = EW P N Q k fr σ := rfl
theorem EWl_cons : EWl M0 P N Q k all (o :: l) fr σ = EWlg (guardA all o fr) (dstOk N o.dst) (quietOp o.op) M0 P N Q o l all k fr σ := by
  apply propext
  unfold EWl EWlg listA
  cases hq : quietOp o.op with
  | true =>
    simp only [if_true]
    unfold StillA wantA
    simp only [hq, true_and]
    exact Iff.rfl
  | false =>
    simp only [Bool.false_eq_true, if_false]
    unfold stepA wantA
    cases wantG (guardA all o fr) with
    | none => exact Iff.rfl
    | some b =>
      cases b with
      | false => exact Iff.rfl
      | true =>
        simp only
        unfold runA EWln
        cases evOp P o.op (evalA fr) σ <;> exact Iff.rfl
theorem EWlg_q (g : GuardA) (ok : Bool) (M0 : Mem) (h : g = .run ∨ g = .test true true ∨ g = .test false false) : EWlg g ok true M0 P N Q o l all k fr σ = EWlq (evOp P o.op (evalA fr) M0) ok M0 P N Q o.dst l all k fr σ := by
  have e : wantG g = some true := by rcases h with rfl | rfl | rfl <;> rfl
  apply propext
  unfold EWlg EWlq
  simp only [if_true, e, true_and, Option.some.injEq, Bool.true_eq_false, false_and, or_false]
  constructor
  · rintro ⟨x, ⟨h1, τ, h2⟩, h3⟩
    rw [h2]
    exact ⟨h1, h3⟩
  · intro h
    split at h
    · rename_i x τ he
      exact ⟨x, ⟨h.1, τ, he⟩, h.2⟩
    · exact h.elim
theorem EWlg_n (g : GuardA) (ok : Bool) (M0 : Mem) (h : g = .run ∨ g = .test true true ∨ g = .test false false) : EWlg g ok false M0 P N Q o l all k fr σ = EWln (evOp P o.op (evalA fr) σ) ok M0 P N Q o.dst l all k fr σ := by
  have e : wantG g = some true := by rcases h with rfl | rfl | rfl <;> rfl
  unfold EWlg
  simp only [Bool.false_eq_true, if_false, e]
theorem EWlg_off (g : GuardA) (q : Bool) (M0 : Mem) (h : g = .skip ∨ g = .test true false ∨ g = .test false true) (hs : q = true ∨ Sub M0 σ) : EWlg g true q M0 P N Q o l all k fr σ = EWl M0 P N Q k all l (putA fr o.dst .undef) σ := by
  have e : wantG g = some false := by rcases h with rfl | rfl | rfl <;> rfl
  apply propext
  unfold EWlg
  cases q with
  | true => simp [e]
  | false =>
    simp only [Bool.false_eq_true, if_false, e, true_and]
    exact ⟨fun h => h.2, fun h => ⟨hs.resolve_left (by simp), h⟩⟩
theorem EWlg_run_q : EWlg .run true true M0 P N Q o l all k fr σ = EWlq (evOp P o.op (evalA fr) M0) true M0 P N Q o.dst l all k fr σ := EWlg_q _ _ _ (.inl rfl)
theorem EWlg_yes_q : EWlg (.test true true) true true M0 P N Q o l all k fr σ = EWlq (evOp P o.op (evalA fr) M0) true M0 P N Q o.dst l all k fr σ := EWlg_q _ _ _ (.inr (.inl rfl))
theorem EWlg_no_q : EWlg (.test false false) true true M0 P N Q o l all k fr σ = EWlq (evOp P o.op (evalA fr) M0) true M0 P N Q o.dst l all k fr σ := EWlg_q _ _ _ (.inr (.inr rfl))
theorem EWlg_skip_q : EWlg .skip true true M0 P N Q o l all k fr σ = EWl M0 P N Q k all l (putA fr o.dst .undef) σ := EWlg_off _ _ _ (.inl rfl) (.inl rfl)
theorem EWlg_off_q : EWlg (.test true false) true true M0 P N Q o l all k fr σ = EWl M0 P N Q k all l (putA fr o.dst .undef) σ := EWlg_off _ _ _ (.inr (.inl rfl)) (.inl rfl)
theorem EWlg_off_q' : EWlg (.test false true) true true M0 P N Q o l all k fr σ = EWl M0 P N Q k all l (putA fr o.dst .undef) σ := EWlg_off _ _ _ (.inr (.inr rfl)) (.inl rfl)
theorem EWlg_run_n : EWlg .run true false M0 P N Q o l all k fr σ = EWln (evOp P o.op (evalA fr) σ) true M0 P N Q o.dst l all k fr σ := EWlg_n _ _ _ (.inl rfl)
theorem EWlg_yes_n : EWlg (.test true true) true false M0 P N Q o l all k fr σ = EWln (evOp P o.op (evalA fr) σ) true M0 P N Q o.dst l all k fr σ := EWlg_n _ _ _ (.inr (.inl rfl))
theorem EWlg_no_n : EWlg (.test false false) true false M0 P N Q o l all k fr σ = EWln (evOp P o.op (evalA fr) σ) true M0 P N Q o.dst l all k fr σ := EWlg_n _ _ _ (.inr (.inr rfl))
theorem EWlg_skip_n (h : Sub M0 σ) : EWlg .skip true false M0 P N Q o l all k fr σ = EWl M0 P N Q k all l (putA fr o.dst .undef) σ := EWlg_off _ _ _ (.inl rfl) (.inr h)
theorem EWlg_off_n (h : Sub M0 σ) : EWlg (.test true false) true false M0 P N Q o l all k fr σ = EWl M0 P N Q k all l (putA fr o.dst .undef) σ := EWlg_off _ _ _ (.inr (.inl rfl)) (.inr h)
theorem EWlg_off_n' (h : Sub M0 σ) : EWlg (.test false true) true false M0 P N Q o l all k fr σ = EWl M0 P N Q k all l (putA fr o.dst .undef) σ := EWlg_off _ _ _ (.inr (.inr rfl)) (.inr h)
theorem EWlq_ok (x : AV) (τ : Mem) (dst : Option Tmp) : EWlq (.ok x τ) true M0 P N Q dst l all k fr σ = EWl M0 P N Q k all l (putA fr dst x) σ := by simp [EWlq]
theorem EWln_ok (x : AV) (σ' : Mem) (dst : Option Tmp) (hs : Sub M0 σ') : EWln (.ok x σ') true M0 P N Q dst l all k fr σ = EWl M0 P N Q k all l (putA fr dst x) σ' := by simp [EWln, hs]
theorem EWln_call (f : FuncId) (args : List AV) (dst : Option Tmp) : EWln (.call f args) true M0 P N Q dst l all k fr σ = EWlc M0 P N Q f args dst l all k fr σ := by simp [EWln]
theorem sub_empty : Sub Mem.empty σ = True := eq_true fun _ _ h => by cases h
theorem sub_self : Sub σ σ = True := eq_true fun _ _ h => h
theorem sub_kill (id : Nat) (h : Sub M0 σ) : Sub (M0.kill id) σ := fun i cs hi => h i cs (by rw [get_kill] at hi; split at hi; cases hi; exact hi)
end
attribute [go_sem] EWl_nil EWl_cons EWlg_run_q EWlg_yes_q EWlg_no_q EWlg_skip_q EWlg_off_q EWlg_off_q' EWlg_run_n EWlg_yes_n EWlg_no_n EWlg_skip_n EWlg_off_n EWlg_off_n' EWlq_ok EWln_ok EWln_call sub_empty sub_self
end Go.Ew
