/-
  A region that draws its order, whatever its operations are: those that write or call in the one order that their edges leave, those that only read wherever they come up. Nothing here is about one program.
-/
import Derived.Test.YtippinddoldhkaaGreatB1
set_option linter.unusedSimpArgs false
set_option linter.unusedVariables false
namespace Go.Ew
open Go Go.RowKit

/-- What is in M0 is in σ. -/
def Sub (M0 σ : Mem) : Prop := ∀ id cs, M0.get id = some cs → σ.get id = some cs

section
variable {P : Program} {N : Nat} {ops : Array Oper} {md : Region.Mode} {M0 : Mem} {K : Fr → Mem → Prop}

theorem evOp_congr {ρ ρ' : Operand → AV} (op : Op) (σ : Mem) (h : ∀ x ∈ op.operands, ρ x = ρ' x) : evOp P op ρ σ = evOp P op ρ' σ := by
  have pairs : ∀ ps : Array (Nat × Operand), (∀ x ∈ ps.map (·.2), ρ x = ρ' x) → (ps.toList.map fun (i, x) => (i, ρ x)) = (ps.toList.map fun (i, x) => (i, ρ' x)) := fun ps hp =>
    List.map_congr_left fun p hm => by
      obtain ⟨i, x⟩ := p
      simp only [hp x (Array.mem_map.2 ⟨(i, x), by simpa using hm, rfl⟩)]
  cases op <;> simp only [Op.operands] at h <;> simp only [evOp]
  case build t ps => rw [pairs ps fun x hx => h x (by simpa using hx)]
  case buildSlice t n ps => rw [pairs ps fun x hx => h x (by simpa using hx)]
  case makeFunc fn first captured =>
    have e : captured.toList.map ρ = captured.toList.map ρ' := List.map_congr_left fun x hx => h x (by simp only [Array.mem_append]; exact .inr (by simpa using hx))
    cases fn <;> simp only [e]
  case slice t x lo hi mx =>
    cases lo <;> cases hi <;> cases mx <;> simp_all
  case call c =>
    obtain ⟨callee, cargs, ats⟩ := c
    have e : cargs.toList.map ρ = cargs.toList.map ρ' := List.map_congr_left fun x hx => h x (by simp [Call.operands]; exact .inr (by simpa using hx))
    have e' : ∀ x ∈ cargs.toList, ρ x = ρ' x := fun x hx => h x (by simp [Call.operands]; exact .inr (by simpa using hx))
    cases callee with
    | value f =>
      have hf : ρ f = ρ' f := h f (by simp [Call.operands])
      simp only [e, hf]
    | invoke r m => rfl
    | builtin b =>
      cases b <;> simp only
      all_goals
        split <;> simp_all
  all_goals (first | rfl | (simp_all; done))
/-- An operation that only reads, in a part of the memory, reads the same in all of it. -/
theorem atPtr_sub {τ : Mem} (hs : Sub M0 τ) {x : AV} {cs : List AV} (h : atPtr M0 x = some cs) : atPtr τ x = some cs := by
  cases x <;> simp only [atPtr] at h ⊢ <;> first | exact h | skip
  rename_i id off
  cases hg : M0.get id with
  | none => rw [hg] at h; cases h
  | some c => rw [hg] at h; rw [hs id c hg]; exact h
theorem evOp_sub {τ σ' : Mem} {op : Op} {ρ : Operand → AV} {x : AV} (hs : Sub M0 τ) (hq : quietOp op = true) (h : evOp P op ρ M0 = .ok x σ') : evOp P op ρ τ = .ok x τ := by
  have fin : ∀ {q : Option AV}, NextA.val M0 q = .ok x σ' → NextA.val τ q = .ok x τ := fun {q} h => by rw [(val_ok h).1]; rfl
  cases op <;> first | (simp [quietOp] at hq; done) | skip
  case load t a =>
    simp only [evOp] at h ⊢
    have h1 := (val_ok h).1
    cases hp : atPtr M0 (ρ a) with
    | none => rw [hp] at h1; cases h1
    | some cs =>
      rw [hp] at h1
      rw [atPtr_sub hs hp, h1]
      rfl
  case makeFunc fn first captured =>
    cases fn <;> simp only [evOp] at h ⊢ <;> first | (cases h; done) | skip
    split at h <;> first | (cases h; done) | skip
    rename_i h0
    rw [if_pos h0]
    cases h
    rfl
  case slice t x lo hi mx =>
    cases mx <;> simp only [evOp] at h ⊢ <;> first | (cases h; done) | skip
    exact fin h
  case call c =>
    obtain ⟨callee, cargs, ats⟩ := c
    cases callee with
    | value f => simp [quietOp] at hq
    | invoke r m => simp [quietOp] at hq
    | builtin b =>
      cases b <;> first | (simp [quietOp] at hq; done) | skip
      all_goals
        simp only [evOp] at h ⊢
        split at h <;> first | (cases h; done) | skip
        exact fin h
  all_goals
    simp only [evOp] at h ⊢
    first
      | (cases h; rfl)
      | exact fin h

/-! ### Steps in any order -/
def wantG : GuardA → Option Bool
  | .run => some true
  | .skip => some false
  | .test x b => some (x == b)
  | .fail => none
def wantA (all : Array Oper) (o : Oper) (fr : Fr) : Option Bool := wantG (guardA all o fr)
def runA (P : Program) (N : Nat) (o : Oper) (K : Fr → Mem → Prop) (fr : Fr) (σ : Mem) : Prop :=
  match evOp P o.op (evalA fr) σ with
  | .ok x σ' => dstOk N o.dst = true ∧ K (putA fr o.dst x) σ'
  | .call f args => dstOk N o.dst = true ∧ ∃ R, CallA P f args σ R ∧ ∀ x σ', R x σ' → K (putA fr o.dst x) σ'
  | .fail => False
def stepA (P : Program) (N : Nat) (all : Array Oper) (o : Oper) (K : Fr → Mem → Prop) (fr : Fr) (σ : Mem) : Prop :=
  match wantA all o fr with
  | some true => runA P N o K fr σ
  | some false => dstOk N o.dst = true ∧ K (putA fr o.dst .undef) σ
  | none => False
def anyA (P : Program) (N : Nat) (md : Region.Mode) (ops : Array Oper) (M0 : Mem) (K : Fr → Mem → Prop) : Nat → Array Bool → Fr → Mem → Prop
  | 0, listed, fr, σ => Sub M0 σ ∧ Region.ready md ops listed = [] ∧ K fr σ
  | fuel + 1, listed, fr, σ => Sub M0 σ ∧ (Region.ready md ops listed = [] → K fr σ) ∧ ∀ i ∈ Region.ready md ops listed, ∃ o, ops[i]? = some o ∧ stepA P N ops o (anyA P N md ops M0 K fuel (listed.setIfInBounds i true)) fr σ

theorem anyA_sub {fuel : Nat} {listed : Array Bool} {fr : Fr} {σ : Mem} (h : anyA P N md ops M0 K fuel listed fr σ) : Sub M0 σ := by
  cases fuel with
  | zero => exact h.1
  | succ n => exact h.1

theorem putA_comm (fr : Fr) {x y : Option Tmp} (v u : AV) (h : ∀ d, x = some d → y ≠ some d) : putA (putA fr x v) y u = putA (putA fr y u) x v := by
  cases x with
  | none => rfl
  | some d =>
    cases y with
    | none => rfl
    | some e =>
      have hne : d ≠ e := fun he => h d rfl (he ▸ rfl)
      funext j
      simp only [putA, upd]
      by_cases h1 : j = e <;> by_cases h2 : j = d <;> simp_all
theorem evalA_put (fr : Fr) {d : Option Tmp} {v : AV} {x : Operand} (h : ∀ e, d = some e → x ≠ .tmp e) : evalA (putA fr d v) x = evalA fr x := by
  cases d with
  | none => rfl
  | some e =>
    cases x with
    | tmp t => 
      have hne : t ≠ e := fun he => h e rfl (he ▸ rfl)
      simp [evalA, putA, upd, hne]
    | _ => rfl
theorem wantA_put (o : Oper) (fr : Fr) {d : Option Tmp} {v : AV} (h : ∀ e, d = some e → e ∉ o.looksAt ops) : wantA ops o (putA fr d v) = wantA ops o fr := by
  have e : guardA ops o (putA fr d v) = guardA ops o fr := by
    unfold guardA
    cases hg : o.guard with
    | none => rfl
    | some jb =>
      obtain ⟨j, b⟩ := jb
      simp only
      cases hd : (ops[j]?).bind (·.dst) with
      | none => rfl
      | some t =>
        simp only
        cases d with
        | none => rfl
        | some e =>
          have hne : t ≠ e := fun he => h e rfl (by simp [Oper.looksAt, hg, hd, he])
          simp [putA, upd, hne]
  unfold wantA
  rw [e]
theorem evOp_put (o : Oper) (fr : Fr) (σ : Mem) {d : Option Tmp} {v : AV} (h : ∀ e, d = some e → e ∉ o.looksAt ops) : evOp P o.op (evalA (putA fr d v)) σ = evOp P o.op (evalA fr) σ :=
  evOp_congr o.op σ fun x hx => evalA_put fr fun e he hxe => h e he (by
    subst hxe
    exact List.mem_append_left _ (List.mem_filterMap.2 ⟨.tmp e, by simpa using hx, rfl⟩))
theorem runA_put (o : Oper) {K K' : Fr → Mem → Prop} {fr : Fr} {σ : Mem} {d : Option Tmp} {v : AV} (h1 : ∀ e, d = some e → e ∉ o.looksAt ops) (h2 : ∀ e, d = some e → o.dst ≠ some e)
    (hK : ∀ x σ', K (putA (putA fr o.dst x) d v) σ' → K' (putA fr o.dst x) σ') (h : runA P N o K (putA fr d v) σ) : runA P N o K' fr σ := by
  unfold runA at h ⊢
  rw [evOp_put o fr σ h1] at h
  split at h
  · rename_i x σ' he
    refine ⟨h.1, hK _ _ ?_⟩
    rw [← putA_comm fr v x h2]
    exact h.2
  · obtain ⟨k1, R, k2, k3⟩ := h
    refine ⟨k1, R, k2, fun x σ' hx => hK _ _ ?_⟩
    rw [← putA_comm fr v x h2]
    exact k3 x σ' hx
  · exact h
theorem stepA_put (o : Oper) {K K' : Fr → Mem → Prop} {fr : Fr} {σ : Mem} {d : Option Tmp} {v : AV} (h1 : ∀ e, d = some e → e ∉ o.looksAt ops) (h2 : ∀ e, d = some e → o.dst ≠ some e)
    (hK : ∀ x σ', K (putA (putA fr o.dst x) d v) σ' → K' (putA fr o.dst x) σ') (h : stepA P N ops o K (putA fr d v) σ) : stepA P N ops o K' fr σ := by
  unfold stepA at h ⊢
  rw [wantA_put o fr h1] at h
  split at h
  · exact runA_put o h1 h2 hK h
  · refine ⟨h.1, hK _ _ ?_⟩
    rw [← putA_comm fr v _ h2]
    exact h.2
  · exact h

/-- Operation o only reads, and comes to x, wherever it comes up. -/
def StillA (P : Program) (N : Nat) (ops : Array Oper) (M0 : Mem) (o : Oper) (x : AV) (fr : Fr) : Prop :=
  dstOk N o.dst = true ∧ ((wantA ops o fr = some true ∧ quietOp o.op = true ∧ ∃ τ, evOp P o.op (evalA fr) M0 = .ok x τ) ∨ (wantA ops o fr = some false ∧ x = .undef))
theorem StillA.step {o : Oper} {x : AV} {fr : Fr} {σ : Mem} (h : StillA P N ops M0 o x fr) (hs : Sub M0 σ) (hK : K (putA fr o.dst x) σ) : stepA P N ops o K fr σ := by
  obtain ⟨h0, ⟨h1, h2, τ, h3⟩ | ⟨h1, rfl⟩⟩ := h
  · simp only [stepA, h1, runA, evOp_sub hs h2 h3]
    exact ⟨h0, hK⟩
  · simp only [stepA, h1]
    exact ⟨h0, hK⟩
theorem StillA.put {o : Oper} {x : AV} {fr : Fr} {d : Option Tmp} {v : AV} (h : StillA P N ops M0 o x fr) (h1 : ∀ e, d = some e → e ∉ o.looksAt ops) : StillA P N ops M0 o x (putA fr d v) := by
  unfold StillA at h ⊢
  rw [wantA_put o fr h1, evOp_put o fr M0 h1]
  exact h

/-- A reading operation that may come up now may be taken first. -/
theorem anyA_first {i : Nat} {oi : Oper} {x : AV} (hi : ops[i]? = some oi) : ∀ (fuel : Nat) (listed : Array Bool) (fr : Fr) (σ : Mem),
      (∀ j oj, ops[j]? = some oj → j ≠ i → listed.getD j true = false → (∀ e ∈ oj.after, Region.binds md e = true → e.on ≠ i) → oi.apart ops oj = true) →
      i ∈ Region.ready md ops listed → StillA P N ops M0 oi x fr → Sub M0 σ → anyA P N md ops M0 K fuel (listed.setIfInBounds i true) (putA fr oi.dst x) σ → anyA P N md ops M0 K (fuel + 1) listed fr σ := by
  intro fuel
  induction fuel with
  | zero =>
    intro listed fr σ _ hr hy hs H
    refine ⟨hs, fun h => (by rw [h] at hr; cases hr), fun j hj => ?_⟩
    by_cases hji : j = i
    · subst hji
      exact ⟨oi, hi, hy.step hs H⟩
    · have h1 := ready_mono hj hji
      rw [H.2.1] at h1
      cases h1
  | succ fuel ih =>
    intro listed fr σ hfree hr hy hs H
    refine ⟨hs, fun h => (by rw [h] at hr; cases hr), fun j hj => ?_⟩
    by_cases hji : j = i
    · subst hji
      exact ⟨oi, hi, hy.step hs H⟩
    · obtain ⟨oj, hoj, h1⟩ := H.2.2 j (ready_mono hj hji)
      refine ⟨oj, hoj, ?_⟩
      obtain ⟨hjun, oj', hoj', hjall⟩ := mem_ready.1 hj
      have hiun := (mem_ready.1 hr).1
      rw [hoj] at hoj'
      cases hoj'
      have hnot : ∀ e ∈ oj.after, Region.binds md e = true → e.on ≠ i := fun e he hb hei => by
        have := hjall e he hb
        rw [hei] at this
        cases hg : listed[i]? <;> simp [Array.getD_eq_getD_getElem?, hg] at this hiun
        simp [this] at hiun
      have hap := hfree j oj hoj hji hjun hnot
      obtain ⟨a1, a2, a3⟩ := Oper.apart_spec hap
      have hfree' : ∀ k ok, ops[k]? = some ok → k ≠ i → (listed.setIfInBounds j true).getD k true = false → (∀ e ∈ ok.after, Region.binds md e = true → e.on ≠ i) → oi.apart ops ok = true := fun k ok hk hki hun hno => by
        refine hfree k ok hk hki ?_ hno
        by_cases hjk : j = k
        · subst hjk; exact hjun
        · rw [getD_set_ne true hjk] at hun; exact hun
      refine stepA_put oj a1 a2 (fun y σ' hy' => ?_) h1
      refine ih _ _ _ hfree' (ready_mono hr (Ne.symm hji)) (hy.put a3) (anyA_sub hy') ?_
      rw [Array.setIfInBounds_comm _ _ hji]
      exact hy'

/-- THE ORDER: each reading operation may come up and may be taken first; where another's turn is, it alone may come up. -/
def ordFrom (md : Region.Mode) (ops : Array Oper) : List Nat → Array Bool → Bool
  | [], listed => (Region.ready md ops listed).isEmpty
  | i :: l, listed => (match ops[i]? with | some o => (if quietOp o.op then (Region.ready md ops listed).contains i && Region.free md ops listed i else Region.ready md ops listed == [i]) | none => false) && ordFrom md ops l (listed.setIfInBounds i true)
def ordB (md : Region.Mode) (ops : Array Oper) (ord : List Nat) : Bool := decide (ord.length = ops.size) && ordFrom md ops ord (Array.replicate ops.size false)
/-- THE WALK in that order. -/
def listA (P : Program) (N : Nat) (ops : Array Oper) (M0 : Mem) (K : Fr → Mem → Prop) : List Oper → Fr → Mem → Prop
  | [], fr, σ => K fr σ
  | o :: l, fr, σ => if quietOp o.op then ∃ x, StillA P N ops M0 o x fr ∧ listA P N ops M0 K l (putA fr o.dst x) σ else stepA P N ops o (fun fr' σ' => Sub M0 σ' ∧ listA P N ops M0 K l fr' σ') fr σ

theorem stepA_mono {o : Oper} {K K' : Fr → Mem → Prop} {fr : Fr} {σ : Mem} (hK : ∀ fr σ, K fr σ → K' fr σ) (h : stepA P N ops o K fr σ) : stepA P N ops o K' fr σ := by
  unfold stepA runA at *
  split at h
  · split at h
    · exact ⟨h.1, hK _ _ h.2⟩
    · obtain ⟨k1, R, k2, k3⟩ := h
      exact ⟨k1, R, k2, fun x σ' hx => hK _ _ (k3 x σ' hx)⟩
    · exact h
  · exact ⟨h.1, hK _ _ h.2⟩
  · exact h

theorem anyA_list : ∀ (ord : List Nat) (l : List Oper) (listed : Array Bool) (fr : Fr) (σ : Mem), ord.map (fun i => ops[i]?) = l.map some → ordFrom md ops ord listed = true → Sub M0 σ → listA P N ops M0 K l fr σ → anyA P N md ops M0 K ord.length listed fr σ
  | [], [], listed, fr, σ, _, hB, hs, h => ⟨hs, by simpa [ordFrom] using hB, h⟩
  | [], _ :: _, _, _, _, hl, _, _, _ => by simp at hl
  | _ :: _, [], _, _, _, hl, _, _, _ => by simp at hl
  | i :: ord, o :: l, listed, fr, σ, hl, hB, hs, h => by
    simp only [List.map_cons, List.cons.injEq] at hl
    obtain ⟨h0, hl⟩ := hl
    simp only [ordFrom, h0, Bool.and_eq_true] at hB
    obtain ⟨hB1, hB2⟩ := hB
    unfold listA at h
    by_cases hq : quietOp o.op = true
    · rw [if_pos hq] at h hB1
      obtain ⟨x, h1, h2⟩ := h
      simp only [Bool.and_eq_true] at hB1
      exact anyA_first h0 ord.length listed fr σ (Region.free_spec h0 hB1.2) (by simpa using hB1.1) h1 hs (anyA_list ord l _ _ _ hl hB2 hs h2)
    · rw [if_neg hq] at h hB1
      have hrd : Region.ready md ops listed = [i] := by simpa using hB1
      refine ⟨hs, fun e => (by rw [hrd] at e; cases e), fun j hj => ?_⟩
      rw [hrd] at hj
      have hji : j = i := by simpa using hj
      subst hji
      exact ⟨o, h0, stepA_mono (fun fr' σ' h' => anyA_list ord l _ fr' σ' hl hB2 h'.1 h'.2) h⟩

/-! ### It is sound -/
theorem wantG_spec {g : GuardA} {b : Bool} (h : wantG g = some b) : (g = .run ∧ b = true) ∨ (g = .skip ∧ b = false) ∨ ∃ x c, g = .test x c ∧ b = (x == c) := by
  cases g <;> simp [wantG] at h
  · exact .inl ⟨rfl, h⟩
  · exact .inr (.inl ⟨rfl, h⟩)
  · exact .inr (.inr ⟨_, _, rfl, h.symm⟩)
theorem want_spec {φ : Nat → Nat} {σ : Mem} {w : World} {o : Oper} {fr : Fr} {t : Array Value} {b : Bool} (hf : RelF φ σ w fr t) (h : wantA ops o fr = some b) : Region.wanted o (yielded ops t) = b := by
  rcases wantG_spec h with ⟨hg, rfl⟩ | ⟨hg, rfl⟩ | ⟨x, c, hg, rfl⟩
  · exact guard_run hg
  · exact (guard_spec hf).1 hg
  · exact (guard_spec hf).2 x c hg
theorem wpAny_of_anyA {φ0 : Nat → Nat} {σ0 : Mem} {w0 : World} : ∀ (fuel : Nat) (listed : Array Bool) (fr : Fr) (σ : Mem) (φ : Nat → Nat) (w : World) (a : Act), RelM φ σ w → RelF φ σ w fr a.tmps → a.defers = [] → a.tmps.size = N → Step φ0 σ0 w0 φ σ w →
    anyA P N md ops M0 K fuel listed fr σ → wpAny P md ops (fun e a' w' => e = .normal ∧ St φ0 σ0 w0 N K a' w') fuel listed a w
  | 0, _, fr, σ, φ, w, a, hr, hf, hd, hn, hs, h => ⟨h.2.1, rfl, φ, σ, fr, hr, hf, hd, hn, hs, h.2.2⟩
  | fuel + 1, listed, fr, σ, φ, w, a, hr, hf, hd, hn, hs, h => by
    refine ⟨fun h0 => ⟨rfl, φ, σ, fr, hr, hf, hd, hn, hs, h.2.1 h0⟩, fun i hi => ?_⟩
    obtain ⟨o, ho, h1⟩ := h.2.2 i hi
    unfold wpOp
    simp only [ho]
    unfold stepA at h1
    split at h1
    · rename_i hw
      rw [if_pos (want_spec hf hw)]
      refine .inl ?_
      unfold runA at h1
      unfold Oper.wp
      split at h1
      · rename_i x σ' he
        obtain ⟨n, v, w', φ', k1, k2, k3, k4, k5⟩ := evOp_ok hr hf he
        have hf' : RelF φ' σ' w' (putA fr o.dst x) (a.put o.dst v).tmps := (hf.step k5).put k4 (by rw [hn]; exact h1.1)
        have := wpAny_of_anyA fuel _ _ σ' φ' w' (a.put o.dst v) k3 hf' (by cases o.dst <;> exact hd) (by rw [size_put]; exact hn) (hs.trans k5) h1.2
        rw [k1]
        rcases k2 with rfl | ⟨rfl, rfl⟩
        · rw [Oper.upon_value]; exact this
        · rw [Oper.upon_skip]; exact this
      · rename_i f args he
        obtain ⟨hdst, R, hc, hR⟩ := h1
        obtain ⟨vs, k1, k2⟩ := evOp_call hf he hc.1
        rw [k2 w, Oper.upon_enter]
        refine (hc.2 φ w vs hr k1).mono ?_
        rintro e w' ⟨v, x, φ', σ', rfl, k3, k4, k5, k6⟩
        have hf' : RelF φ' σ' w' (putA fr o.dst x) (a.put o.dst v).tmps := (hf.step k5).put k4 (by rw [hn]; exact hdst)
        exact wpAny_of_anyA fuel _ _ σ' φ' w' (a.put o.dst v) k3 hf' (by cases o.dst <;> exact hd) (by rw [size_put]; exact hn) (hs.trans k5) (hR x σ' k6)
      · exact h1.elim
    · rename_i hw
      rw [if_neg (by rw [want_spec hf hw]; simp)]
      have hf' : RelF φ σ w (putA fr o.dst .undef) (a.put o.dst Go.undef).tmps := hf.put (.tup [] [] rfl (fun j x v h => by simp at h)) (by rw [hn]; exact h1.1)
      exact wpAny_of_anyA fuel _ _ σ φ w (a.put o.dst Go.undef) hr hf' (by cases o.dst <;> exact hd) (by rw [size_put]; exact hn) hs h1.2
    · exact h1.elim
end

/-! ### The rule, and its equations for 'simp' -/
section
variable {P : Program} {N : Nat} {Q : Fr → Mem → Prop} {k : List Itm} {fr : Fr} {σ M0 : Mem} {all : Array Oper} {o : Oper} {l : List Oper}
def EWl (M0 : Mem) (P : Program) (N : Nat) (Q : Fr → Mem → Prop) (k : List Itm) (all : Array Oper) (l : List Oper) (fr : Fr) (σ : Mem) : Prop := listA P N all M0 (fun fr σ => EW P N Q k fr σ) l fr σ
@[congr] theorem EWl_congr {fr' : Fr} {σ' : Mem} (h2 : fr = fr') (h3 : σ = σ') : EWl M0 P N Q k all l fr σ = EWl M0 P N Q k all l fr' σ' := by rw [h2, h3]

theorem EW_regionL {id : Nat} (M0 : Mem) (ord : List Nat) (h1 : P.follows .mixedOrders = true) (h2 : ordB .any all ord = true) (hl : ord.map (fun i => all[i]?) = l.map some) (hs : Sub M0 σ) (h : (∀ i, σ.next ≤ i → σ.get i = none) → EWl M0 P N Q k all l fr σ) :
    EW P N Q (.code (.region id all true) :: k) fr σ := by
  simp only [ordB, Bool.and_eq_true, decide_eq_true_eq] at h2
  by_cases hfin : ∀ i, σ.next ≤ i → σ.get i = none
  · refine .raw (fun fr' σ' => EW P N Q k fr' σ') (fun φ w a hr hf hd hn => ?_) (fun _ _ h => h)
    have hcls := Cls.drew w
    have hany := anyA_list (md := .any) (P := P) (N := N) (K := fun fr σ => EW P N Q k fr σ) ord l _ fr σ hl h2.2 hs (h hfin)
    rw [h2.1] at hany
    refine Code.wp_mono ?_ (wp_region_any (Q := fun e a' w' => e = .normal ∧ St φ σ w N (fun fr σ => EW P N Q k fr σ) a' w') h1
      (wpAny_of_anyA (φ0 := φ) (σ0 := σ) (w0 := w) all.size _ fr σ φ _ a (hr.cls hcls) (hf.step (Cls.step hcls)) hd hn (Cls.step hcls) hany))
    rintro e a' w' ⟨rfl, φ', σ', fr', k1, k2, k3, k4, k5, k6⟩
    exact ⟨rfl, φ', σ', fr', k1, k2, k3, k4, k5, k6⟩
  · refine .raw (fun _ _ => False) (fun φ w a hr _ _ _ => absurd (fun i hi => ?_) hfin) (fun _ _ h => h.elim)
    cases hg : σ.get i with
    | none => rfl
    | some cs => exact absurd (hr.live i cs hg) (by omega)
/-- The same in index order. -/
theorem EW_regionI {id : Nat} {l : List Oper} (M0 : Mem) (h1 : P.follows .mixedOrders = true) (h2 : ordB .any l.toArray (List.range l.length) = true) (hs : Sub M0 σ) (h : (∀ i, σ.next ≤ i → σ.get i = none) → EWl M0 P N Q k l.toArray l fr σ) :
    EW P N Q (.code (.region id l.toArray true) :: k) fr σ := by
  refine EW_regionL M0 _ h1 h2 ?_ hs h
  apply List.ext_getElem?
  intro i
  simp only [List.getElem?_map, List.getElem?_toArray]
  by_cases hi : i < l.length
  · rw [List.getElem?_range hi]
    simp [hi]
  · rw [List.getElem?_eq_none (by simpa using hi), List.getElem?_eq_none (by omega)]
    rfl
def EWlc (M0 : Mem) (P : Program) (N : Nat) (Q : Fr → Mem → Prop) (f : FuncId) (args : List AV) (dst : Option Tmp) (l : List Oper) (all : Array Oper) (k : List Itm) (fr : Fr) (σ : Mem) : Prop :=
  ∃ R, CallA P f args σ R ∧ ∀ x σ', R x σ' → Sub M0 σ' ∧ EWl M0 P N Q k all l (putA fr dst x) σ'
@[congr] theorem EWlc_congr {f f' : FuncId} {args args' : List AV} {dst : Option Tmp} {fr' : Fr} {σ' : Mem} (h0 : f = f') (h1 : args = args') (h2 : fr = fr') (h3 : σ = σ') :
    EWlc M0 P N Q f args dst l all k fr σ = EWlc M0 P N Q f' args' dst l all k fr' σ' := by rw [h0, h1, h2, h3]
theorem EWlc_of {f : FuncId} {args : List AV} {R : AV → Mem → Prop} {dst : Option Tmp} (h : CallA P f args σ R) (hk : ∀ x σ', R x σ' → Sub M0 σ' ∧ EWl M0 P N Q k all l (putA fr dst x) σ') : EWlc M0 P N Q f args dst l all k fr σ := ⟨R, h, hk⟩

def EWlq (n : NextA) (ok : Bool) (M0 : Mem) (P : Program) (N : Nat) (Q : Fr → Mem → Prop) (dst : Option Tmp) (l : List Oper) (all : Array Oper) (k : List Itm) (fr : Fr) (σ : Mem) : Prop :=
  match n with
  | .ok x _ => ok = true ∧ EWl M0 P N Q k all l (putA fr dst x) σ
  | _ => False
def EWln (n : NextA) (ok : Bool) (M0 : Mem) (P : Program) (N : Nat) (Q : Fr → Mem → Prop) (dst : Option Tmp) (l : List Oper) (all : Array Oper) (k : List Itm) (fr : Fr) : Mem → Prop := fun σ =>
  match n with
  | .ok x σ' => ok = true ∧ Sub M0 σ' ∧ EWl M0 P N Q k all l (putA fr dst x) σ'
  | .call f args => ok = true ∧ EWlc M0 P N Q f args dst l all k fr σ
  | .fail => False
/-- Behind a guard; behind a reading operation; behind another. -/
def EWlg (g : GuardA) (ok q : Bool) (M0 : Mem) (P : Program) (N : Nat) (Q : Fr → Mem → Prop) (o : Oper) (l : List Oper) (all : Array Oper) (k : List Itm) (fr : Fr) (σ : Mem) : Prop :=
  if q then ∃ x, (ok = true ∧ ((wantG g = some true ∧ ∃ τ, evOp P o.op (evalA fr) M0 = .ok x τ) ∨ (wantG g = some false ∧ x = .undef))) ∧ EWl M0 P N Q k all l (putA fr o.dst x) σ
  else match wantG g with
    | some true => EWln (evOp P o.op (evalA fr) σ) ok M0 P N Q o.dst l all k fr σ
    | some false => ok = true ∧ Sub M0 σ ∧ EWl M0 P N Q k all l (putA fr o.dst .undef) σ
    | none => False
@[congr] theorem EWlg_congr {g g' : GuardA} {ok ok' q q' : Bool} {fr' : Fr} {σ' : Mem} (h0 : g = g') (h1 : ok = ok') (hq : q = q') (h2 : fr = fr') (h3 : σ = σ') :
    EWlg g ok q M0 P N Q o l all k fr σ = EWlg g' ok' q' M0 P N Q o l all k fr' σ' := by rw [h0, h1, hq, h2, h3]
@[congr] theorem EWlq_congr {n n' : NextA} {ok ok' : Bool} {dst : Option Tmp} {fr' : Fr} {σ' : Mem} (h0 : n = n') (h1 : ok = ok') (h2 : fr = fr') (h3 : σ = σ') :
    EWlq n ok M0 P N Q dst l all k fr σ = EWlq n' ok' M0 P N Q dst l all k fr' σ' := by rw [h0, h1, h2, h3]
@[congr] theorem EWln_congr {n n' : NextA} {ok ok' : Bool} {dst : Option Tmp} {fr' : Fr} {σ' : Mem} (h0 : n = n') (h1 : ok = ok') (h2 : fr = fr') (h3 : σ = σ') :
    EWln n ok M0 P N Q dst l all k fr σ = EWln n' ok' M0 P N Q dst l all k fr' σ' := by rw [h0, h1, h2, h3]

theorem EWl_nil : EWl M0 P N Q k all [] fr σ = EW P N Q k fr σ := rfl
theorem EWl_cons : EWl M0 P N Q k all (o :: l) fr σ = EWlg (guardA all o fr) (dstOk N o.dst) (quietOp o.op) M0 P N Q o l all k fr σ := by
  apply propext
  unfold EWl EWlg listA
  cases hq : quietOp o.op with
  | true =>
    simp only [if_true]
    unfold StillA wantA
    simp only [hq, true_and]
    exact Iff.rfl
  | false =>
    simp only [Bool.false_eq_true, if_false]
    unfold stepA wantA
    cases wantG (guardA all o fr) with
    | none => exact Iff.rfl
    | some b =>
      cases b with
      | false => exact Iff.rfl
      | true =>
        simp only
        unfold runA EWln
        cases evOp P o.op (evalA fr) σ <;> exact Iff.rfl
theorem EWlg_q (g : GuardA) (ok : Bool) (M0 : Mem) (h : g = .run ∨ g = .test true true ∨ g = .test false false) : EWlg g ok true M0 P N Q o l all k fr σ = EWlq (evOp P o.op (evalA fr) M0) ok M0 P N Q o.dst l all k fr σ := by
  have e : wantG g = some true := by rcases h with rfl | rfl | rfl <;> rfl
  apply propext
  unfold EWlg EWlq
  simp only [if_true, e, true_and, Option.some.injEq, Bool.true_eq_false, false_and, or_false]
  constructor
  · rintro ⟨x, ⟨h1, τ, h2⟩, h3⟩
    rw [h2]
    exact ⟨h1, h3⟩
  · intro h
    split at h
    · rename_i x τ he
      exact ⟨x, ⟨h.1, τ, he⟩, h.2⟩
    · exact h.elim
theorem EWlg_n (g : GuardA) (ok : Bool) (M0 : Mem) (h : g = .run ∨ g = .test true true ∨ g = .test false false) : EWlg g ok false M0 P N Q o l all k fr σ = EWln (evOp P o.op (evalA fr) σ) ok M0 P N Q o.dst l all k fr σ := by
  have e : wantG g = some true := by rcases h with rfl | rfl | rfl <;> rfl
  unfold EWlg
  simp only [Bool.false_eq_true, if_false, e]
theorem EWlg_off (g : GuardA) (q : Bool) (M0 : Mem) (h : g = .skip ∨ g = .test true false ∨ g = .test false true) (hs : q = true ∨ Sub M0 σ) : EWlg g true q M0 P N Q o l all k fr σ = EWl M0 P N Q k all l (putA fr o.dst .undef) σ := by
  have e : wantG g = some false := by rcases h with rfl | rfl | rfl <;> rfl
  apply propext
  unfold EWlg
  cases q with
  | true => simp [e]
  | false =>
    simp only [Bool.false_eq_true, if_false, e, true_and]
    exact ⟨fun h => h.2, fun h => ⟨hs.resolve_left (by simp), h⟩⟩
theorem EWlg_run_q : EWlg .run true true M0 P N Q o l all k fr σ = EWlq (evOp P o.op (evalA fr) M0) true M0 P N Q o.dst l all k fr σ := EWlg_q _ _ _ (.inl rfl)
theorem EWlg_yes_q : EWlg (.test true true) true true M0 P N Q o l all k fr σ = EWlq (evOp P o.op (evalA fr) M0) true M0 P N Q o.dst l all k fr σ := EWlg_q _ _ _ (.inr (.inl rfl))
theorem EWlg_no_q : EWlg (.test false false) true true M0 P N Q o l all k fr σ = EWlq (evOp P o.op (evalA fr) M0) true M0 P N Q o.dst l all k fr σ := EWlg_q _ _ _ (.inr (.inr rfl))
theorem EWlg_skip_q : EWlg .skip true true M0 P N Q o l all k fr σ = EWl M0 P N Q k all l (putA fr o.dst .undef) σ := EWlg_off _ _ _ (.inl rfl) (.inl rfl)
theorem EWlg_off_q : EWlg (.test true false) true true M0 P N Q o l all k fr σ = EWl M0 P N Q k all l (putA fr o.dst .undef) σ := EWlg_off _ _ _ (.inr (.inl rfl)) (.inl rfl)
theorem EWlg_off_q' : EWlg (.test false true) true true M0 P N Q o l all k fr σ = EWl M0 P N Q k all l (putA fr o.dst .undef) σ := EWlg_off _ _ _ (.inr (.inr rfl)) (.inl rfl)
theorem EWlg_run_n : EWlg .run true false M0 P N Q o l all k fr σ = EWln (evOp P o.op (evalA fr) σ) true M0 P N Q o.dst l all k fr σ := EWlg_n _ _ _ (.inl rfl)
theorem EWlg_yes_n : EWlg (.test true true) true false M0 P N Q o l all k fr σ = EWln (evOp P o.op (evalA fr) σ) true M0 P N Q o.dst l all k fr σ := EWlg_n _ _ _ (.inr (.inl rfl))
theorem EWlg_no_n : EWlg (.test false false) true false M0 P N Q o l all k fr σ = EWln (evOp P o.op (evalA fr) σ) true M0 P N Q o.dst l all k fr σ := EWlg_n _ _ _ (.inr (.inr rfl))
theorem EWlg_skip_n (h : Sub M0 σ) : EWlg .skip true false M0 P N Q o l all k fr σ = EWl M0 P N Q k all l (putA fr o.dst .undef) σ := EWlg_off _ _ _ (.inl rfl) (.inr h)
theorem EWlg_off_n (h : Sub M0 σ) : EWlg (.test true false) true false M0 P N Q o l all k fr σ = EWl M0 P N Q k all l (putA fr o.dst .undef) σ := EWlg_off _ _ _ (.inr (.inl rfl)) (.inr h)
theorem EWlg_off_n' (h : Sub M0 σ) : EWlg (.test false true) true false M0 P N Q o l all k fr σ = EWl M0 P N Q k all l (putA fr o.dst .undef) σ := EWlg_off _ _ _ (.inr (.inr rfl)) (.inr h)
theorem EWlq_ok (x : AV) (τ : Mem) (dst : Option Tmp) : EWlq (.ok x τ) true M0 P N Q dst l all k fr σ = EWl M0 P N Q k all l (putA fr dst x) σ := by simp [EWlq]
theorem EWln_ok (x : AV) (σ' : Mem) (dst : Option Tmp) (hs : Sub M0 σ') : EWln (.ok x σ') true M0 P N Q dst l all k fr σ = EWl M0 P N Q k all l (putA fr dst x) σ' := by simp [EWln, hs]
theorem EWln_call (f : FuncId) (args : List AV) (dst : Option Tmp) : EWln (.call f args) true M0 P N Q dst l all k fr σ = EWlc M0 P N Q f args dst l all k fr σ := by simp [EWln]
theorem sub_empty : Sub Mem.empty σ = True := eq_true fun _ _ h => by cases h
theorem sub_self : Sub σ σ = True := eq_true fun _ _ h => h
theorem sub_kill (id : Nat) (h : Sub M0 σ) : Sub (M0.kill id) σ := fun i cs hi => h i cs (by rw [get_kill] at hi; split at hi; cases hi; exact hi)
end
attribute [go_sem] EWl_nil EWl_cons EWlg_run_q EWlg_yes_q EWlg_no_q EWlg_skip_q EWlg_off_q EWlg_off_q' EWlg_run_n EWlg_yes_n EWlg_no_n EWlg_skip_n EWlg_off_n EWlg_off_n' EWlq_ok EWln_ok EWln_call sub_empty sub_self
end Go.Ew
namespace Go.Ew
open Go Go.RowKit

section
variable {P : Program} {N : Nat} {Q : Fr → Mem → Prop} {φ : Nat → Nat} {σ : Mem} {w : World}

theorem Rv.more {n n' : Nat} {L : Nat → Prop} {x : AV} {v : Value} (h : Rv φ n L w x v) (hn : n ≤ n') : Rv φ n' L w x v := by
  induction h with
  | lit v => exact .lit v
  | nils => exact .nils
  | imm0 A c hc => exact .imm0 A c hc
  | imm m cs ad c vs h1 _ h3 h4 h5 h6 ih => exact .imm m cs ad c vs h1 ih h3 h4 h5 h6
  | arr id off m sz c h1 h2 h3 h4 => exact .arr id off m sz c (by omega) h2 h3 h4
  | ptr id off h1 => exact .ptr id off (by omega)
  | iptr cs ad vs h1 _ h3 h4 ih => exact .iptr cs ad vs h1 ih h3 h4
  | fn f xs vs h1 _ ih => exact .fn f xs vs h1 ih
  | agg xs vs h1 _ h3 ih => exact .agg xs vs h1 ih h3
  | tup xs vs h1 _ ih => exact .tup xs vs h1 ih

/-- Arguments with objects of the caller's own, read off as data. -/
theorem callA_frz_args {f : FuncId} {xs ys : List AV} {D : AV} (h : PureA P f ys D) (hD : rigidA D = true) (hx : FrzL 0 σ xs ys) : CallA P f xs σ fun x σ' => x = D ∧ σ' = σ := by
  refine ⟨(h σ).1, fun φ w vs hr hv => ?_⟩
  have hdead : ∀ b, ¬ Live φ ⟨σ.next, σ.ty, fun _ => none⟩ b := fun b ⟨id, h, _⟩ => by simp at h
  have hr0 : RelM φ ⟨σ.next, σ.ty, fun _ => none⟩ w := ⟨fun id cs h => (by cases h), fun id cs h => (by cases h), fun i j hi _ _ => (by cases hi)⟩
  have hv0 : RvL φ ⟨σ.next, σ.ty, fun _ => none⟩ w ys vs := by
    refine ⟨by rw [← hx.1]; exact hv.1, fun j y v hy hvj => ?_⟩
    have hj : j < xs.length := by rw [hx.1]; exact (List.getElem?_eq_some_iff.1 hy).1
    have h1 := hv.2 j _ v (List.getElem?_eq_getElem hj) hvj
    have h2 := rv_frz (n0 := 0) (L := Live φ ⟨σ.next, σ.ty, fun _ => none⟩) hr (fun b hb => absurd hb (hdead b)) (hx.2 j _ y (List.getElem?_eq_getElem hj) hy) v h1
    exact h2.more (Nat.zero_le _)
  refine ((h ⟨σ.next, σ.ty, fun _ => none⟩).2 φ w vs hr0 hv0).mono ?_
  rintro e w' ⟨v, x, φ', σ', rfl, h3, h4, h5, rfl, rfl⟩
  have hcls : Cls w w' := ⟨h5.os, h5.tape, h5.output, h5.size, fun b hb => h5.same b hb (hdead b)⟩
  exact ⟨v, _, φ, σ, rfl, hr.cls hcls, rigid_any hD h4, Cls.step hcls, rfl, rfl⟩
theorem EWcall_frz {f : FuncId} {xs ys : List AV} {D : AV} {dst : Option Tmp} {l : List Oper} {all : Array Oper} {k : List Itm} {fr : Fr} (h : PureA P f ys D) (hD : rigidA D = true) (hx : FrzL 0 σ xs ys) (hk : EW P N Q (.ops false l all :: k) (putA fr dst D) σ) :
    EWcall P N Q f xs dst l all k fr σ := EWcall_of (callA_frz_args h hD hx) fun x σ' ⟨h1, h2⟩ => by subst h1; subst h2; exact hk

/-- A slice of no elements: nil or not. -/
theorem callA_slice0 {f : FuncId} {R : AV → Mem → Prop} (h : ∀ (A : Option Addr) (c : Nat), c ≤ maxLen → CallA P f [.lit (.slice A 0 c)] σ R) : CallA P f [.imm 0 []] σ R := by
  refine ⟨(h none 0 (Nat.zero_le _)).1, fun φ w vs hr hv => ?_⟩
  have hl : vs.length = 1 := by rw [← hv.1]; rfl
  obtain ⟨v, rfl⟩ := List.length_eq_one_iff.1 hl
  have h0 := hv.2 0 _ v rfl rfl
  obtain ⟨A, c, rfl, hc⟩ : ∃ A c, v = .slice A 0 c ∧ c ≤ maxLen := by
    cases h0 with
    | imm0 A c hc => exact ⟨A, c, rfl, hc⟩
    | imm _ _ ad c vs k1 k2 k3 k4 k5 k6 => exact ⟨some ad, c, rfl, k6⟩
  refine (h A c hc).2 φ w [.slice A 0 c] hr ⟨rfl, fun j x u hx hu => ?_⟩
  match j with
  | 0 => simp at hx hu; subst hx; subst hu; exact .lit _
  | j + 1 => simp at hx
end
end Go.Ew
namespace Go.Ew
open Go Go.RowKit

section
variable {P : Program} {N : Nat} {Q : Fr → Mem → Prop} {M : Fr → Mem → Prop} {k : List Itm}
theorem dropTo_cut (id : Nat) : ∀ (l1 k' : List Itm), dropTo id (l1 ++ .goal M :: k) = some k' → (∃ l2, k' = l2 ++ .goal M :: k ∧ dropTo id (l1 ++ k) = some (l2 ++ k)) ∨ dropTo id (l1 ++ k) = some k'
  | [], k', h => .inr (by simpa [dropTo] using h)
  | .blk id' :: l1, k', h => by
    simp only [List.cons_append, dropTo] at h ⊢
    split at h
    · rename_i e
      cases h
      exact .inl ⟨l1, rfl, by rw [if_pos e]⟩
    · rename_i e
      rw [if_neg e]
      exact dropTo_cut id l1 k' h
  | .code _ :: l1, k', h => by simp only [List.cons_append, dropTo] at h ⊢; exact dropTo_cut id l1 k' h
  | .goal _ :: l1, k', h => by simp only [List.cons_append, dropTo] at h ⊢; exact dropTo_cut id l1 k' h
  | .ops _ _ _ :: l1, k', h => by simp only [List.cons_append, dropTo] at h ⊢; exact dropTo_cut id l1 k' h
  | .run _ _ _ _ :: l1, k', h => by simp only [List.cons_append, dropTo] at h ⊢; exact dropTo_cut id l1 k' h

theorem EW_cut_aux (hM : ∀ fr σ, M fr σ → EW P N Q k fr σ) {K : List Itm} {fr : Fr} {σ : Mem} (h : EW P N Q K fr σ) : ∀ l1, K = l1 ++ .goal M :: k → EW P N Q (l1 ++ k) fr σ := by
  induction h with
  | nil hq => intro l1 e; simp at e
  | @goal K' k' fr σ hk =>
    intro l1 e
    cases l1 with
    | nil => simp only [List.nil_append, List.cons.injEq, Itm.goal.injEq] at e; obtain ⟨rfl, rfl⟩ := e; exact hM _ _ hk
    | cons a l1 => simp only [List.cons_append, List.cons.injEq] at e; obtain ⟨rfl, rfl⟩ := e; exact .goal hk
  | blk _ ih =>
    intro l1 e
    cases l1 with
    | nil => simp at e
    | cons a l1 => simp only [List.cons_append, List.cons.injEq] at e; obtain ⟨rfl, rfl⟩ := e; exact .blk (ih l1 rfl)
  | skip _ ih =>
    intro l1 e
    cases l1 with
    | nil => simp at e
    | cons a l1 => simp only [List.cons_append, List.cons.injEq] at e; obtain ⟨rfl, rfl⟩ := e; exact .skip (ih l1 rfl)
  | @seq a b k' fr σ _ ih =>
    intro l1 e
    cases l1 with
    | nil => simp at e
    | cons x l1 => simp only [List.cons_append, List.cons.injEq] at e; obtain ⟨rfl, rfl⟩ := e; exact .seq (ih (.code a :: .code b :: l1) rfl)
  | @cond c a b k' fr σ t hc _ _ ih1 ih2 =>
    intro l1 e
    cases l1 with
    | nil => simp at e
    | cons x l1 => simp only [List.cons_append, List.cons.injEq] at e; obtain ⟨rfl, rfl⟩ := e; exact .cond t hc (fun ht => ih1 ht (.code a :: l1) rfl) (fun ht => ih2 ht (.code b :: l1) rfl)
  | @block id c k' fr σ _ ih =>
    intro l1 e
    cases l1 with
    | nil => simp at e
    | cons x l1 => simp only [List.cons_append, List.cons.injEq] at e; obtain ⟨rfl, rfl⟩ := e; exact .block (ih (.code c :: .blk id :: l1) rfl)
  | @loop c k' fr σ I n h0 _ ih =>
    intro l1 e
    cases l1 with
    | nil => simp at e
    | cons x l1 => simp only [List.cons_append, List.cons.injEq] at e; obtain ⟨rfl, rfl⟩ := e; exact .loop I n h0 (fun n fr σ hI => ih n fr σ hI (.code c :: .goal _ :: l1) rfl)
  | @exit id k' k'' fr σ hd hw ih =>
    intro l1 e
    cases l1 with
    | nil => simp at e
    | cons x l1 =>
      simp only [List.cons_append, List.cons.injEq] at e
      obtain ⟨rfl, rfl⟩ := e
      rcases dropTo_cut id l1 k'' hd with ⟨l2, rfl, h2⟩ | h2
      · exact .exit h2 (ih l2 rfl)
      · exact .exit h2 hw
  | ret hq =>
    intro l1 e
    cases l1 with
    | nil => simp at e
    | cons x l1 => simp only [List.cons_append, List.cons.injEq] at e; obtain ⟨rfl, rfl⟩ := e; exact .ret hq
  | @region id ops k' fr σ _ ih =>
    intro l1 e
    cases l1 with
    | nil => simp at e
    | cons x l1 => simp only [List.cons_append, List.cons.injEq] at e; obtain ⟨rfl, rfl⟩ := e; exact .region (ih (.ops false ops.toList ops :: l1) rfl)
  | @regionD id ops k' fr σ h1 h2 _ ih =>
    intro l1 e
    cases l1 with
    | nil => simp at e
    | cons x l1 => simp only [List.cons_append, List.cons.injEq] at e; obtain ⟨rfl, rfl⟩ := e; exact .regionD h1 h2 (ih (.ops true ops.toList ops :: l1) rfl)
  | @raw id ops k' fr σ K h1 _ ih =>
    intro l1 e
    cases l1 with
    | nil => simp at e
    | cons x l1 => simp only [List.cons_append, List.cons.injEq] at e; obtain ⟨rfl, rfl⟩ := e; exact .raw K h1 (fun fr' σ' hk => ih fr' σ' hk l1 rfl)
  | opsNil _ ih =>
    intro l1 e
    cases l1 with
    | nil => simp at e
    | cons x l1 => simp only [List.cons_append, List.cons.injEq] at e; obtain ⟨rfl, rfl⟩ := e; exact .opsNil (ih l1 rfl)
  | @opsRun q o l all k' fr σ hg _ ih =>
    intro l1 e
    cases l1 with
    | nil => simp at e
    | cons x l1 => simp only [List.cons_append, List.cons.injEq] at e; obtain ⟨rfl, rfl⟩ := e; exact .opsRun hg (ih (.run q o l all :: l1) rfl)
  | @opsSkip q o l all k' fr σ hg hd _ ih =>
    intro l1 e
    cases l1 with
    | nil => simp at e
    | cons x l1 => simp only [List.cons_append, List.cons.injEq] at e; obtain ⟨rfl, rfl⟩ := e; exact .opsSkip hg hd (ih (.ops q l all :: l1) rfl)
  | @opsTest q o l all k' fr σ x b hg hd _ _ ih1 ih2 =>
    intro l1 e
    cases l1 with
    | nil => simp at e
    | cons y l1 => simp only [List.cons_append, List.cons.injEq] at e; obtain ⟨rfl, rfl⟩ := e; exact .opsTest x b hg hd (fun h => ih1 h (.run q o l all :: l1) rfl) (fun h => ih2 h (.ops q l all :: l1) rfl)
  | @op q o l all k' fr σ x σ' he hd hq _ ih =>
    intro l1 e
    cases l1 with
    | nil => simp at e
    | cons y l1 => simp only [List.cons_append, List.cons.injEq] at e; obtain ⟨rfl, rfl⟩ := e; exact .op x σ' he hd hq (ih (.ops q l all :: l1) rfl)
  | @call o l all k' fr σ f args R he hd hc _ ih =>
    intro l1 e
    cases l1 with
    | nil => simp at e
    | cons y l1 => simp only [List.cons_append, List.cons.injEq] at e; obtain ⟨rfl, rfl⟩ := e; exact .call f args R he hd hc (fun x σ' hR => ih x σ' hR (.ops false l all :: l1) rfl)
  | @qcall o l all k' fr σ f args D he hd hc hr _ ih =>
    intro l1 e
    cases l1 with
    | nil => simp at e
    | cons y l1 => simp only [List.cons_append, List.cons.injEq] at e; obtain ⟨rfl, rfl⟩ := e; exact .qcall f args D he hd hc hr (ih (.ops true l all :: l1) rfl)

/-- THE CUT behind a piece of code. -/
theorem EW_cut {c : Code} {fr : Fr} {σ : Mem} (M : Fr → Mem → Prop) (h : EW P N Q (.code c :: .goal M :: k) fr σ) (hM : ∀ fr σ, M fr σ → EW P N Q k fr σ) : EW P N Q (.code c :: k) fr σ := EW_cut_aux hM h [.code c] rfl
/-- THE CUT behind a test. -/
theorem EWc_cut {x : AV} {a b : Code} {fr : Fr} {σ : Mem} (M : Fr → Mem → Prop) (h : EWc x P N Q a b (.goal M :: k) fr σ) (hM : ∀ fr σ, M fr σ → EW P N Q k fr σ) : EWc x P N Q a b k fr σ := by
  obtain ⟨t, h1, h2, h3⟩ := h
  exact ⟨t, h1, fun ht => EW_cut M (h2 ht) hM, fun ht => EW_cut M (h3 ht) hM⟩
end
/-! ### A slice of the call's own, nil or not -/
def ArrAt (n0 : Nat) (σ : Mem) (x : AV) (e : TypeId) (cells : List AV) (n sz : Nat) : Prop :=
  (x = .nils ∧ n = 0 ∧ cells = []) ∨ ∃ id, x = .arr id 0 n sz ∧ σ.get id = some cells ∧ σ.ty id = e ∧ n0 ≤ id ∧ id < σ.next
theorem ArrAt.frz {n0 : Nat} {σ : Mem} {x : AV} {e : TypeId} {cells : List AV} {n sz : Nat} (h : ArrAt n0 σ x e cells n sz) (hd : DataL cells) : Frz n0 σ x (.imm n cells) := by
  rcases h with ⟨rfl, rfl, rfl⟩ | ⟨id, rfl, h1, _, h3, _⟩
  · exact .nils
  · exact frz_arr h3 h1 hd
theorem ArrAt.same {n0 n1 : Nat} {σ σ' : Mem} {x : AV} {e : TypeId} {cells : List AV} {n sz : Nat} (h : ArrAt n0 σ x e cells n sz) (hn : n1 ≤ n0) (hs : σ.next ≤ σ'.next) (hg : ∀ i m, x = .arr i 0 m sz → σ'.get i = σ.get i ∧ σ'.ty i = σ.ty i) : ArrAt n1 σ' x e cells n sz := by
  rcases h with h | ⟨id, h0, h1, h2, h3, h4⟩
  · exact .inl h
  · obtain ⟨a, b⟩ := hg id n h0
    exact .inr ⟨id, h0, by rw [a]; exact h1, by rw [b]; exact h2, by omega, by omega⟩
end Go.Ew
namespace Go.Ew
open Go Go.RowKit

/-- No operation that writes or calls is listed yet. -/
def noSync (ops : Array Oper) (listed : Array Bool) : Prop := ∀ j oj, ops[j]? = some oj → quietOp oj.op = false → listed.getD j true = false
/-- Every operation that writes or calls waits for number i. -/
def early (md : Region.Mode) (ops : Array Oper) (i : Nat) : Bool :=
  (List.range ops.size).all fun j => match ops[j]? with | some oj => quietOp oj.op || oj.after.any (fun e => Region.binds md e && e.on == i) | none => true
def isLoad : Op → Bool
  | .load _ _ => true
  | _ => false

section
variable {P : Program} {N : Nat} {ops : Array Oper} {md : Region.Mode} {M0 σ0 : Mem} {K : Fr → Mem → Prop}
theorem early_spec {i j : Nat} {oj : Oper} (h : early md ops i = true) (hj : ops[j]? = some oj) (hq : quietOp oj.op = false) : ∃ e ∈ oj.after, Region.binds md e = true ∧ e.on = i := by
  have := List.all_eq_true.1 h j (by simpa using (Array.getElem?_eq_some_iff.1 hj).1)
  simp only [hj, hq, Bool.false_or, Array.any_eq_true'] at this
  obtain ⟨e, he, h2⟩ := this
  simp only [Bool.and_eq_true, beq_iff_eq] at h2
  exact ⟨e, he, h2.1, h2.2⟩
/-- An operation that only reads and is no load comes to the same in any memory. -/
theorem evOp_nomem {σ τ σ' : Mem} {op : Op} {ρ : Operand → AV} {x : AV} (hl : isLoad op = false) (hq : quietOp op = true) (h : evOp P op ρ σ = .ok x σ') : evOp P op ρ τ = .ok x τ := by
  have fin : ∀ {q : Option AV}, NextA.val σ q = .ok x σ' → NextA.val τ q = .ok x τ := fun {q} h => by rw [(val_ok h).1]; rfl
  cases op <;> first | (simp [quietOp] at hq; done) | (simp [isLoad] at hl; done) | skip
  case makeFunc fn first captured =>
    cases fn <;> simp only [evOp] at h ⊢ <;> first | (cases h; done) | skip
    split at h <;> first | (cases h; done) | skip
    rename_i h0
    rw [if_pos h0]
    cases h
    rfl
  case slice t x lo hi mx =>
    cases mx <;> simp only [evOp] at h ⊢ <;> first | (cases h; done) | skip
    exact fin h
  case call c =>
    obtain ⟨callee, cargs, ats⟩ := c
    cases callee with
    | value f => simp [quietOp] at hq
    | invoke r m => simp [quietOp] at hq
    | builtin b =>
      cases b <;> first | (simp [quietOp] at hq; done) | skip
      all_goals
        simp only [evOp] at h ⊢
        split at h <;> first | (cases h; done) | skip
        exact fin h
  all_goals
    simp only [evOp] at h ⊢
    first
      | (cases h; rfl)
      | exact fin h

def anyE (P : Program) (N : Nat) (md : Region.Mode) (ops : Array Oper) (M0 σ0 : Mem) (K : Fr → Mem → Prop) : Nat → Array Bool → Fr → Mem → Prop
  | 0, listed, fr, σ => Sub M0 σ ∧ (noSync ops listed → σ = σ0) ∧ Region.ready md ops listed = [] ∧ K fr σ
  | fuel + 1, listed, fr, σ => Sub M0 σ ∧ (noSync ops listed → σ = σ0) ∧ (Region.ready md ops listed = [] → K fr σ) ∧ ∀ i ∈ Region.ready md ops listed, ∃ o, ops[i]? = some o ∧ stepA P N ops o (anyE P N md ops M0 σ0 K fuel (listed.setIfInBounds i true)) fr σ
theorem anyE_head {fuel : Nat} {listed : Array Bool} {fr : Fr} {σ : Mem} (h : anyE P N md ops M0 σ0 K fuel listed fr σ) : Sub M0 σ ∧ (noSync ops listed → σ = σ0) := by
  cases fuel with
  | zero => exact ⟨h.1, h.2.1⟩
  | succ n => exact ⟨h.1, h.2.1⟩
theorem anyA_of_anyE : ∀ (fuel : Nat) (listed : Array Bool) (fr : Fr) (σ : Mem), anyE P N md ops M0 σ0 K fuel listed fr σ → anyA P N md ops M0 K fuel listed fr σ
  | 0, _, _, _, h => ⟨h.1, h.2.2.1, h.2.2.2⟩
  | fuel + 1, _, _, _, h => ⟨h.1, h.2.2.1, fun i hi => by
    obtain ⟨o, ho, h1⟩ := h.2.2.2 i hi
    exact ⟨o, ho, stepA_mono (fun fr σ => anyA_of_anyE fuel _ fr σ) h1⟩⟩

theorem noSync_more {listed : Array Bool} {i : Nat} {oi : Oper} (hi : ops[i]? = some oi) (hq : quietOp oi.op = true) (h : noSync ops listed) : noSync ops (listed.setIfInBounds i true) := fun j oj hj hqj => by
  by_cases hji : i = j
  · subst hji; rw [hi] at hj; cases hj; rw [hq] at hqj; cases hqj
  · rw [getD_set_ne true hji]; exact h j oj hj hqj
theorem anyE_first {i : Nat} {oi : Oper} {x : AV} (hi : ops[i]? = some oi) (hq : quietOp oi.op = true) : ∀ (fuel : Nat) (listed : Array Bool) (fr : Fr) (σ : Mem),
      (∀ j oj, ops[j]? = some oj → j ≠ i → listed.getD j true = false → (∀ e ∈ oj.after, Region.binds md e = true → e.on ≠ i) → oi.apart ops oj = true) →
      i ∈ Region.ready md ops listed → (StillA P N ops M0 oi x fr ∨ early md ops i = true ∧ noSync ops listed ∧ StillA P N ops σ0 oi x fr) → Sub M0 σ → (noSync ops listed → σ = σ0) →
      anyE P N md ops M0 σ0 K fuel (listed.setIfInBounds i true) (putA fr oi.dst x) σ → anyE P N md ops M0 σ0 K (fuel + 1) listed fr σ := by
  intro fuel
  have now : ∀ (listed : Array Bool) (fr : Fr) (σ : Mem) (K' : Fr → Mem → Prop), (StillA P N ops M0 oi x fr ∨ early md ops i = true ∧ noSync ops listed ∧ StillA P N ops σ0 oi x fr) → Sub M0 σ → (noSync ops listed → σ = σ0) → K' (putA fr oi.dst x) σ → stepA P N ops oi K' fr σ := by
    intro listed fr σ K' hy hs hn hK
    rcases hy with hy | ⟨_, hns, hy⟩
    · exact hy.step hs hK
    · have := hn hns
      subst this
      exact hy.step (fun _ _ h => h) hK
  induction fuel with
  | zero =>
    intro listed fr σ _ hr hy hs hn H
    refine ⟨hs, hn, fun h => (by rw [h] at hr; cases hr), fun j hj => ?_⟩
    by_cases hji : j = i
    · subst hji
      exact ⟨oi, hi, now _ _ _ _ hy hs hn H⟩
    · have h1 := ready_mono hj hji
      rw [H.2.2.1] at h1
      cases h1
  | succ fuel ih =>
    intro listed fr σ hfree hr hy hs hn H
    refine ⟨hs, hn, fun h => (by rw [h] at hr; cases hr), fun j hj => ?_⟩
    by_cases hji : j = i
    · subst hji
      exact ⟨oi, hi, now _ _ _ _ hy hs hn H⟩
    · obtain ⟨oj, hoj, h1⟩ := H.2.2.2 j (ready_mono hj hji)
      refine ⟨oj, hoj, ?_⟩
      obtain ⟨hjun, oj', hoj', hjall⟩ := mem_ready.1 hj
      have hiun := (mem_ready.1 hr).1
      rw [hoj] at hoj'
      cases hoj'
      have hnot : ∀ e ∈ oj.after, Region.binds md e = true → e.on ≠ i := fun e he hb hei => by
        have := hjall e he hb
        rw [hei] at this
        cases hg : listed[i]? <;> simp [Array.getD_eq_getD_getElem?, hg] at this hiun
        simp [this] at hiun
      have hap := hfree j oj hoj hji hjun hnot
      obtain ⟨a1, a2, a3⟩ := Oper.apart_spec hap
      have hfree' : ∀ k ok, ops[k]? = some ok → k ≠ i → (listed.setIfInBounds j true).getD k true = false → (∀ e ∈ ok.after, Region.binds md e = true → e.on ≠ i) → oi.apart ops ok = true := fun k ok hk hki hun hno => by
        refine hfree k ok hk hki ?_ hno
        by_cases hjk : j = k
        · subst hjk; exact hjun
        · rw [getD_set_ne true hjk] at hun; exact hun
      refine stepA_put oj a1 a2 (fun y σ' hy' => ?_) h1
      obtain ⟨b1, b2⟩ := anyE_head hy'
      refine ih _ _ _ hfree' (ready_mono hr (Ne.symm hji)) ?_ b1 (fun h => b2 ?_) ?_
      · rcases hy with hy | ⟨he, hns, hy⟩
        · exact .inl (hy.put a3)
        · refine .inr ⟨he, ?_, hy.put a3⟩
          refine noSync_more hoj ?_ hns
          cases hqj : quietOp oj.op with
          | true => rfl
          | false =>
            obtain ⟨e, he1, he2, he3⟩ := early_spec he hoj hqj
            exact absurd he3 (hnot e he1 he2)
      · rw [Array.setIfInBounds_comm _ _ (Ne.symm hji)]
        exact noSync_more hi hq h
      · rw [Array.setIfInBounds_comm _ _ hji]
        exact hy'

/-- THE ORDER: as 'ordFrom'; ahead of the first that writes or calls each load is one for which all these wait. -/
def ordFromE (md : Region.Mode) (ops : Array Oper) : List Nat → Array Bool → Bool
  | [], listed => (Region.ready md ops listed).isEmpty
  | i :: l, listed => match ops[i]? with
    | some o => if quietOp o.op then (Region.ready md ops listed).contains i && Region.free md ops listed i && (!isLoad o.op || early md ops i) && ordFromE md ops l (listed.setIfInBounds i true)
      else Region.ready md ops listed == [i] && ordFrom md ops l (listed.setIfInBounds i true)
    | none => false
def ordE (md : Region.Mode) (ops : Array Oper) (ord : List Nat) : Bool := decide (ord.length = ops.size) && ordFromE md ops ord (Array.replicate ops.size false)
def listE (P : Program) (N : Nat) (ops : Array Oper) (M0 : Mem) (K : Fr → Mem → Prop) : List Oper → Fr → Mem → Prop
  | [], fr, σ => K fr σ
  | o :: l, fr, σ => if quietOp o.op then ∃ x, StillA P N ops σ o x fr ∧ listE P N ops M0 K l (putA fr o.dst x) σ else stepA P N ops o (fun fr' σ' => Sub M0 σ' ∧ listA P N ops M0 K l fr' σ') fr σ

theorem still_any {o : Oper} {x : AV} {fr : Fr} {σ τ : Mem} (hl : isLoad o.op = false) (h : StillA P N ops σ o x fr) : StillA P N ops τ o x fr := by
  obtain ⟨h0, ⟨h1, h2, τ', h3⟩ | h1⟩ := h
  · exact ⟨h0, .inl ⟨h1, h2, τ, evOp_nomem hl h2 h3⟩⟩
  · exact ⟨h0, .inr h1⟩
/-- Once one that writes or calls is listed, the start counts no more. -/
theorem anyE_late : ∀ (ord : List Nat) (l : List Oper) (listed : Array Bool) (fr : Fr) (σ : Mem), ord.map (fun i => ops[i]?) = l.map some → ordFrom md ops ord listed = true → Sub M0 σ → ¬ noSync ops listed → listA P N ops M0 K l fr σ → anyE P N md ops M0 σ0 K ord.length listed fr σ
  | [], [], listed, fr, σ, _, hB, hs, hn, h => ⟨hs, fun e => absurd e hn, by simpa [ordFrom] using hB, h⟩
  | [], _ :: _, _, _, _, hl, _, _, _, _ => by simp at hl
  | _ :: _, [], _, _, _, hl, _, _, _, _ => by simp at hl
  | i :: ord, o :: l, listed, fr, σ, hl, hB, hs, hn, h => by
    simp only [List.map_cons, List.cons.injEq] at hl
    obtain ⟨h0, hl⟩ := hl
    simp only [ordFrom, h0, Bool.and_eq_true] at hB
    obtain ⟨hB1, hB2⟩ := hB
    have hn' : ¬ noSync ops (listed.setIfInBounds i true) := fun e => hn fun j oj hj hq => by
      have := e j oj hj hq
      by_cases hij : i = j
      · subst hij
        have hlt := (Array.getElem?_eq_some_iff.1 hj).1
        rw [Array.getD_eq_getD_getElem?, Array.getElem?_setIfInBounds_self] at this
        by_cases hs' : i < listed.size <;> simp [hs'] at this
      · rw [getD_set_ne true hij] at this; exact this
    unfold listA at h
    by_cases hq : quietOp o.op = true
    · rw [if_pos hq] at h hB1
      obtain ⟨x, h1, h2⟩ := h
      simp only [Bool.and_eq_true] at hB1
      exact anyE_first h0 hq ord.length listed fr σ (Region.free_spec h0 hB1.2) (by simpa using hB1.1) (.inl h1) hs (fun e => absurd e hn) (anyE_late ord l _ _ _ hl hB2 hs hn' h2)
    · rw [if_neg hq] at h hB1
      have hrd : Region.ready md ops listed = [i] := by simpa using hB1
      refine ⟨hs, fun e => absurd e hn, fun e => (by rw [hrd] at e; cases e), fun j hj => ?_⟩
      rw [hrd] at hj
      have hji : j = i := by simpa using hj
      subst hji
      exact ⟨o, h0, stepA_mono (fun fr' σ' h' => anyE_late ord l _ fr' σ' hl hB2 h'.1 hn' h'.2) h⟩
theorem anyE_list : ∀ (ord : List Nat) (l : List Oper) (listed : Array Bool) (fr : Fr), ord.map (fun i => ops[i]?) = l.map some → ordFromE md ops ord listed = true → listed.size = ops.size → Sub M0 σ0 → noSync ops listed → listE P N ops M0 K l fr σ0 → anyE P N md ops M0 σ0 K ord.length listed fr σ0
  | [], [], listed, fr, _, hB, _, hs, _, h => ⟨hs, fun _ => rfl, by simpa [ordFromE] using hB, h⟩
  | [], _ :: _, _, _, hl, _, _, _, _, _ => by simp at hl
  | _ :: _, [], _, _, hl, _, _, _, _, _ => by simp at hl
  | i :: ord, o :: l, listed, fr, hl, hB, hsz, hs, hn, h => by
    simp only [List.map_cons, List.cons.injEq] at hl
    obtain ⟨h0, hl⟩ := hl
    unfold listE at h
    by_cases hq : quietOp o.op = true
    · rw [if_pos hq] at h
      simp only [ordFromE, h0, hq, if_true, Bool.and_eq_true, Bool.or_eq_true, Bool.not_eq_true'] at hB
      obtain ⟨⟨⟨b1, b2⟩, b3⟩, b4⟩ := hB
      obtain ⟨x, h1, h2⟩ := h
      refine anyE_first h0 hq ord.length listed fr σ0 (Region.free_spec h0 b2) (by simpa using b1) ?_ hs (fun _ => rfl) (anyE_list ord l _ _ hl b4 (by simpa using hsz) hs (noSync_more h0 hq hn) h2)
      rcases b3 with b3 | b3
      · exact .inl (still_any b3 h1)
      · exact .inr ⟨b3, hn, h1⟩
    · rw [if_neg hq] at h
      simp only [ordFromE, h0, hq, Bool.false_eq_true, if_false, Bool.and_eq_true, beq_iff_eq] at hB
      obtain ⟨hrd, hB2⟩ := hB
      refine ⟨hs, fun _ => rfl, fun e => (by rw [hrd] at e; cases e), fun j hj => ?_⟩
      rw [hrd] at hj
      have hji : j = i := by simpa using hj
      subst hji
      refine ⟨o, h0, stepA_mono (fun fr' σ' h' => anyE_late ord l _ fr' σ' hl hB2 h'.1 (fun e => ?_) h'.2) h⟩
      have := e j o h0 (by simpa using hq)
      have hlt : j < listed.size := by rw [hsz]; exact (Array.getElem?_eq_some_iff.1 h0).1
      rw [Array.getD_eq_getD_getElem?, Array.getElem?_setIfInBounds_self] at this
      simp [hlt] at this
end

/-! ### The rule, and its equations for 'simp' -/
section
variable {P : Program} {N : Nat} {Q : Fr → Mem → Prop} {k : List Itm} {fr : Fr} {σ M0 : Mem} {all : Array Oper} {o : Oper} {l : List Oper}
def EWe (M0 : Mem) (P : Program) (N : Nat) (Q : Fr → Mem → Prop) (k : List Itm) (all : Array Oper) (l : List Oper) (fr : Fr) (σ : Mem) : Prop := listE P N all M0 (fun fr σ => EW P N Q k fr σ) l fr σ
@[congr] theorem EWe_congr {fr' : Fr} {σ' : Mem} (h2 : fr = fr') (h3 : σ = σ') : EWe M0 P N Q k all l fr σ = EWe M0 P N Q k all l fr' σ' := by rw [h2, h3]
theorem EW_regionE {id : Nat} {l : List Oper} (M0 : Mem) (h1 : P.follows .mixedOrders = true) (h2 : ordE .any l.toArray (List.range l.length) = true) (hs : Sub M0 σ) (h : (∀ i, σ.next ≤ i → σ.get i = none) → EWe M0 P N Q k l.toArray l fr σ) :
    EW P N Q (.code (.region id l.toArray true) :: k) fr σ := by
  simp only [ordE, Bool.and_eq_true, decide_eq_true_eq] at h2
  have hl : (List.range l.length).map (fun i => l.toArray[i]?) = l.map some := by
    apply List.ext_getElem?
    intro i
    simp only [List.getElem?_map, List.getElem?_toArray]
    by_cases hi : i < l.length
    · rw [List.getElem?_range hi]
      simp [hi]
    · rw [List.getElem?_eq_none (by simpa using hi), List.getElem?_eq_none (by omega)]
      rfl
  by_cases hfin : ∀ i, σ.next ≤ i → σ.get i = none
  · refine .raw (fun fr' σ' => EW P N Q k fr' σ') (fun φ w a hr hf hd hn => ?_) (fun _ _ h => h)
    have hcls := Cls.drew w
    have hany := anyA_of_anyE _ _ _ _ (anyE_list (md := .any) (P := P) (N := N) (M0 := M0) (σ0 := σ) (K := fun fr σ => EW P N Q k fr σ) (List.range l.length) l (Array.replicate l.toArray.size false) fr hl h2.2 (by simp) hs
      (fun j oj hj _ => by
        have hlt := (Array.getElem?_eq_some_iff.1 hj).1
        rw [Array.getD_eq_getD_getElem?, Array.getElem?_replicate, if_pos hlt]
        rfl) (h hfin))
    rw [h2.1] at hany
    refine Code.wp_mono ?_ (wp_region_any (Q := fun e a' w' => e = .normal ∧ St φ σ w N (fun fr σ => EW P N Q k fr σ) a' w') h1
      (wpAny_of_anyA (φ0 := φ) (σ0 := σ) (w0 := w) l.toArray.size _ fr σ φ _ a (hr.cls hcls) (hf.step (Cls.step hcls)) hd hn (Cls.step hcls) hany))
    rintro e a' w' ⟨rfl, φ', σ', fr', k1, k2, k3, k4, k5, k6⟩
    exact ⟨rfl, φ', σ', fr', k1, k2, k3, k4, k5, k6⟩
  · refine .raw (fun _ _ => False) (fun φ w a hr _ _ _ => absurd (fun i hi => ?_) hfin) (fun _ _ h => h.elim)
    cases hg : σ.get i with
    | none => rfl
    | some cs => exact absurd (hr.live i cs hg) (by omega)
/-- Behind a reading operation ahead of the first that writes or calls. -/
def EWeq (n : NextA) (ok : Bool) (M0 : Mem) (P : Program) (N : Nat) (Q : Fr → Mem → Prop) (dst : Option Tmp) (l : List Oper) (all : Array Oper) (k : List Itm) (fr : Fr) (σ : Mem) : Prop :=
  match n with
  | .ok x _ => ok = true ∧ EWe M0 P N Q k all l (putA fr dst x) σ
  | _ => False
def EWeg (g : GuardA) (ok q : Bool) (M0 : Mem) (P : Program) (N : Nat) (Q : Fr → Mem → Prop) (o : Oper) (l : List Oper) (all : Array Oper) (k : List Itm) (fr : Fr) (σ : Mem) : Prop :=
  if q then (match wantG g with
    | some true => EWeq (evOp P o.op (evalA fr) σ) ok M0 P N Q o.dst l all k fr σ
    | some false => ok = true ∧ EWe M0 P N Q k all l (putA fr o.dst .undef) σ
    | none => False)
  else match wantG g with
    | some true => EWln (evOp P o.op (evalA fr) σ) ok M0 P N Q o.dst l all k fr σ
    | some false => ok = true ∧ Sub M0 σ ∧ EWl M0 P N Q k all l (putA fr o.dst .undef) σ
    | none => False
@[congr] theorem EWeg_congr {g g' : GuardA} {ok ok' q q' : Bool} {fr' : Fr} {σ' : Mem} (h0 : g = g') (h1 : ok = ok') (hq : q = q') (h2 : fr = fr') (h3 : σ = σ') :
    EWeg g ok q M0 P N Q o l all k fr σ = EWeg g' ok' q' M0 P N Q o l all k fr' σ' := by rw [h0, h1, hq, h2, h3]
@[congr] theorem EWeq_congr {n n' : NextA} {ok ok' : Bool} {dst : Option Tmp} {fr' : Fr} {σ' : Mem} (h0 : n = n') (h1 : ok = ok') (h2 : fr = fr') (h3 : σ = σ') :
    EWeq n ok M0 P N Q dst l all k fr σ = EWeq n' ok' M0 P N Q dst l all k fr' σ' := by rw [h0, h1, h2, h3]
theorem EWe_nil : EWe M0 P N Q k all [] fr σ = EW P N Q k fr σ := rfl
theorem EWe_cons : EWe M0 P N Q k all (o :: l) fr σ = EWeg (guardA all o fr) (dstOk N o.dst) (quietOp o.op) M0 P N Q o l all k fr σ := by
  apply propext
  unfold EWe EWeg listE
  cases hq : quietOp o.op with
  | true =>
    simp only [if_true]
    unfold StillA wantA
    simp only [hq, true_and]
    cases hw : wantG (guardA all o fr) with
    | none => simp
    | some b =>
      cases b with
      | true =>
        simp only [EWeq, Option.some.injEq, Bool.true_eq_false, false_and, or_false, true_and]
        constructor
        · rintro ⟨x, ⟨h1, τ, h2⟩, h3⟩
          rw [h2]
          exact ⟨h1, h3⟩
        · intro h
          split at h
          · rename_i x τ he
            exact ⟨x, ⟨h.1, τ, he⟩, h.2⟩
          · exact h.elim
      | false =>
        simp only [Option.some.injEq, Bool.false_eq_true, false_and, false_or, true_and]
        constructor
        · rintro ⟨x, ⟨h1, rfl⟩, h3⟩
          exact ⟨h1, h3⟩
        · rintro ⟨h1, h3⟩
          exact ⟨_, ⟨h1, rfl⟩, h3⟩
  | false =>
    simp only [Bool.false_eq_true, if_false]
    unfold stepA wantA
    cases wantG (guardA all o fr) with
    | none => exact Iff.rfl
    | some b =>
      cases b with
      | false => exact Iff.rfl
      | true =>
        simp only
        unfold runA EWln
        cases evOp P o.op (evalA fr) σ <;> exact Iff.rfl
theorem EWeg_q (g : GuardA) (ok : Bool) (h : wantG g = some true) : EWeg g ok true M0 P N Q o l all k fr σ = EWeq (evOp P o.op (evalA fr) σ) ok M0 P N Q o.dst l all k fr σ := by unfold EWeg; simp only [if_true, h]
theorem EWeg_n (g : GuardA) (ok : Bool) (h : wantG g = some true) : EWeg g ok false M0 P N Q o l all k fr σ = EWln (evOp P o.op (evalA fr) σ) ok M0 P N Q o.dst l all k fr σ := by unfold EWeg; simp only [Bool.false_eq_true, if_false, h]
theorem EWeg_off (g : GuardA) (h : wantG g = some false) : EWeg g true true M0 P N Q o l all k fr σ = EWe M0 P N Q k all l (putA fr o.dst .undef) σ := by unfold EWeg; simp [h]
theorem EWeg_run_q (ok : Bool) : EWeg .run ok true M0 P N Q o l all k fr σ = EWeq (evOp P o.op (evalA fr) σ) ok M0 P N Q o.dst l all k fr σ := EWeg_q _ _ rfl
theorem EWeg_yes_q (ok : Bool) : EWeg (.test true true) ok true M0 P N Q o l all k fr σ = EWeq (evOp P o.op (evalA fr) σ) ok M0 P N Q o.dst l all k fr σ := EWeg_q _ _ rfl
theorem EWeg_no_q (ok : Bool) : EWeg (.test false false) ok true M0 P N Q o l all k fr σ = EWeq (evOp P o.op (evalA fr) σ) ok M0 P N Q o.dst l all k fr σ := EWeg_q _ _ rfl
theorem EWeg_skip_q : EWeg .skip true true M0 P N Q o l all k fr σ = EWe M0 P N Q k all l (putA fr o.dst .undef) σ := EWeg_off _ rfl
theorem EWeg_off_q : EWeg (.test true false) true true M0 P N Q o l all k fr σ = EWe M0 P N Q k all l (putA fr o.dst .undef) σ := EWeg_off _ rfl
theorem EWeg_off_q' : EWeg (.test false true) true true M0 P N Q o l all k fr σ = EWe M0 P N Q k all l (putA fr o.dst .undef) σ := EWeg_off _ rfl
theorem EWeg_run_n (ok : Bool) : EWeg .run ok false M0 P N Q o l all k fr σ = EWln (evOp P o.op (evalA fr) σ) ok M0 P N Q o.dst l all k fr σ := EWeg_n _ _ rfl
theorem EWeg_yes_n (ok : Bool) : EWeg (.test true true) ok false M0 P N Q o l all k fr σ = EWln (evOp P o.op (evalA fr) σ) ok M0 P N Q o.dst l all k fr σ := EWeg_n _ _ rfl
theorem EWeg_no_n (ok : Bool) : EWeg (.test false false) ok false M0 P N Q o l all k fr σ = EWln (evOp P o.op (evalA fr) σ) ok M0 P N Q o.dst l all k fr σ := EWeg_n _ _ rfl
theorem EWeq_ok (x : AV) (τ : Mem) (dst : Option Tmp) : EWeq (.ok x τ) true M0 P N Q dst l all k fr σ = EWe M0 P N Q k all l (putA fr dst x) σ := by simp [EWeq]
end
attribute [go_sem] EWe_nil EWe_cons EWeg_run_q EWeg_yes_q EWeg_no_q EWeg_skip_q EWeg_off_q EWeg_off_q' EWeg_run_n EWeg_yes_n EWeg_no_n EWeq_ok
end Go.Ew
namespace Go.Ew
open Go Go.RowKit

/-- The orders: 'q': one that only reads (true: it reads the memory at the region's head); 's': one that writes or calls; 'both': either way. -/
inductive Tr where
  | done
  | q (e : Bool) (i : Nat) (t : Tr)
  | s (i : Nat) (t : Tr)
  | both (a b : Tr)
def Tr.heads : Tr → List Nat
  | .s i _ => [i]
  | .both a b => a.heads ++ b.heads
  | _ => []
def Tr.size : Tr → Nat
  | .done => 0
  | .q _ _ t => t.size + 1
  | .s _ t => t.size + 1
  | .both a _ => a.size
section
variable {P : Program} {N : Nat} {ops : Array Oper} {md : Region.Mode} {M0 σ0 : Mem} {K : Fr → Mem → Prop}
end

section
variable {P : Program} {N : Nat} {Q : Fr → Mem → Prop} {k : List Itm} {fr : Fr} {σ M0 : Mem}
end
end Go.Ew
namespace Go.Ew
open Go Go.RowKit

/-- Nothing from number n on is listed yet. -/
def noLate (n : Nat) (ops : Array Oper) (listed : Array Bool) : Prop := ∀ j oj, n ≤ j → ops[j]? = some oj → listed.getD j true = false
/-- Everything from number n on waits for number i. -/
def lateWait (md : Region.Mode) (n : Nat) (ops : Array Oper) (i : Nat) : Bool :=
  decide (i < n) && (List.range ops.size).all fun j => match ops[j]? with | some oj => decide (j < n) || oj.after.any (fun e => Region.binds md e && e.on == i) | none => true
def ordLate (md : Region.Mode) (ops : Array Oper) : List Nat → Array Bool → Bool
  | [], listed => (Region.ready md ops listed).isEmpty
  | i :: l, listed => Region.ready md ops listed == [i] && ordLate md ops l (listed.setIfInBounds i true)
def ordFromZ (md : Region.Mode) (n : Nat) (ops : Array Oper) (late : List Nat) : List Nat → Array Bool → Bool
  | [], listed => ordLate md ops late listed
  | i :: l, listed => (match ops[i]? with | some o => (if quietOp o.op then (Region.ready md ops listed).contains i && Region.free md ops listed i && lateWait md n ops i else Region.ready md ops listed == [i] && decide (i < n)) | none => false) && ordFromZ md n ops late l (listed.setIfInBounds i true)
def ordZ (md : Region.Mode) (n : Nat) (ops : Array Oper) (ord : List Nat) : Bool := decide (n ≤ ops.size) && decide (ord.length = n) && (ord.all fun i => decide (i < ops.size)) && ordFromZ md n ops ((List.range (ops.size - n)).map (n + ·)) ord (Array.replicate ops.size false)

section
variable {P : Program} {N : Nat} {ops : Array Oper} {md : Region.Mode} {M0 : Mem} {n : Nat} {K : Fr → Mem → Prop}
def anyZ (P : Program) (N : Nat) (md : Region.Mode) (n : Nat) (ops : Array Oper) (M0 : Mem) (K : Fr → Mem → Prop) : Nat → Array Bool → Fr → Mem → Prop
  | 0, listed, fr, σ => (noLate n ops listed → Sub M0 σ) ∧ Region.ready md ops listed = [] ∧ K fr σ
  | fuel + 1, listed, fr, σ => (noLate n ops listed → Sub M0 σ) ∧ (Region.ready md ops listed = [] → K fr σ) ∧ ∀ i ∈ Region.ready md ops listed, ∃ o, ops[i]? = some o ∧ stepA P N ops o (anyZ P N md n ops M0 K fuel (listed.setIfInBounds i true)) fr σ
theorem anyZ_head {fuel : Nat} {listed : Array Bool} {fr : Fr} {σ : Mem} (h : anyZ P N md n ops M0 K fuel listed fr σ) : noLate n ops listed → Sub M0 σ := by
  cases fuel with
  | zero => exact h.1
  | succ m => exact h.1
theorem anyA_of_anyZ : ∀ (fuel : Nat) (listed : Array Bool) (fr : Fr) (σ : Mem), anyZ P N md n ops M0 K fuel listed fr σ → anyA P N md ops Mem.empty K fuel listed fr σ
  | 0, _, _, σ, h => ⟨fun _ _ e => (by cases e), h.2.1, h.2.2⟩
  | fuel + 1, _, _, σ, h => ⟨fun _ _ e => (by cases e), h.2.1, fun i hi => by
    obtain ⟨o, ho, h1⟩ := h.2.2 i hi
    exact ⟨o, ho, stepA_mono (fun fr σ => anyA_of_anyZ fuel _ fr σ) h1⟩⟩
theorem noLate_set {listed : Array Bool} {i : Nat} (hi : i < n) : noLate n ops (listed.setIfInBounds i true) ↔ noLate n ops listed := by
  constructor
  · intro h j oj hj ho
    have := h j oj hj ho
    rwa [getD_set_ne true (by omega)] at this
  · intro h j oj hj ho
    rw [getD_set_ne true (by omega)]
    exact h j oj hj ho
theorem lateWait_spec {i : Nat} (h : lateWait md n ops i = true) : i < n ∧ ∀ j oj, n ≤ j → ops[j]? = some oj → ∃ e ∈ oj.after, Region.binds md e = true ∧ e.on = i := by
  simp only [lateWait, Bool.and_eq_true, decide_eq_true_eq] at h
  refine ⟨h.1, fun j oj hj ho => ?_⟩
  have := List.all_eq_true.1 h.2 j (by simpa using (Array.getElem?_eq_some_iff.1 ho).1)
  simp only [ho, Bool.or_eq_true, decide_eq_true_eq, Array.any_eq_true'] at this
  rcases this with h1 | ⟨e, he, h2⟩
  · omega
  · simp only [Bool.and_eq_true, beq_iff_eq] at h2
    exact ⟨e, he, h2.1, h2.2⟩
theorem anyZ_first {i : Nat} {oi : Oper} {x : AV} (hi : ops[i]? = some oi) (hin : i < n) (hlate : ∀ j oj, n ≤ j → ops[j]? = some oj → ∃ e ∈ oj.after, Region.binds md e = true ∧ e.on = i) : ∀ (fuel : Nat) (listed : Array Bool) (fr : Fr) (σ : Mem),
      (∀ j oj, ops[j]? = some oj → j ≠ i → listed.getD j true = false → (∀ e ∈ oj.after, Region.binds md e = true → e.on ≠ i) → oi.apart ops oj = true) →
      i ∈ Region.ready md ops listed → StillA P N ops M0 oi x fr → Sub M0 σ → noLate n ops listed → anyZ P N md n ops M0 K fuel (listed.setIfInBounds i true) (putA fr oi.dst x) σ → anyZ P N md n ops M0 K (fuel + 1) listed fr σ := by
  intro fuel
  induction fuel with
  | zero =>
    intro listed fr σ _ hr hy hs _ H
    refine ⟨fun _ => hs, fun h => (by rw [h] at hr; cases hr), fun j hj => ?_⟩
    by_cases hji : j = i
    · subst hji
      exact ⟨oi, hi, hy.step hs H⟩
    · have h1 := ready_mono hj hji
      rw [H.2.1] at h1
      cases h1
  | succ fuel ih =>
    intro listed fr σ hfree hr hy hs hL H
    refine ⟨fun _ => hs, fun h => (by rw [h] at hr; cases hr), fun j hj => ?_⟩
    by_cases hji : j = i
    · subst hji
      exact ⟨oi, hi, hy.step hs H⟩
    · obtain ⟨oj, hoj, h1⟩ := H.2.2 j (ready_mono hj hji)
      refine ⟨oj, hoj, ?_⟩
      obtain ⟨hjun, oj', hoj', hjall⟩ := mem_ready.1 hj
      have hiun := (mem_ready.1 hr).1
      rw [hoj] at hoj'
      cases hoj'
      have hnot : ∀ e ∈ oj.after, Region.binds md e = true → e.on ≠ i := fun e he hb hei => by
        have := hjall e he hb
        rw [hei] at this
        cases hg : listed[i]? <;> simp [Array.getD_eq_getD_getElem?, hg] at this hiun
        simp [this] at hiun
      have hjn : j < n := by
        by_cases hc : j < n
        · exact hc
        · obtain ⟨e, he1, he2, he3⟩ := hlate j oj (by omega) hoj
          exact absurd he3 (hnot e he1 he2)
      have hap := hfree j oj hoj hji hjun hnot
      obtain ⟨a1, a2, a3⟩ := Oper.apart_spec hap
      have hfree' : ∀ k ok, ops[k]? = some ok → k ≠ i → (listed.setIfInBounds j true).getD k true = false → (∀ e ∈ ok.after, Region.binds md e = true → e.on ≠ i) → oi.apart ops ok = true := fun k ok hk hki hun hno => by
        refine hfree k ok hk hki ?_ hno
        by_cases hjk : j = k
        · subst hjk; exact hjun
        · rw [getD_set_ne true hjk] at hun; exact hun
      refine stepA_put oj a1 a2 (fun y σ' hy' => ?_) h1
      have hL' : noLate n ops (listed.setIfInBounds j true) := (noLate_set hjn).2 hL
      refine ih _ _ _ hfree' (ready_mono hr (Ne.symm hji)) (hy.put a3) (anyZ_head hy' ((noLate_set hjn).2 ((noLate_set hin).2 hL))) hL' ?_
      rw [Array.setIfInBounds_comm _ _ hji]
      exact hy'
/-- The last operations in a row. -/
def rowA (P : Program) (N : Nat) (ops : Array Oper) (K : Fr → Mem → Prop) : List Oper → Fr → Mem → Prop
  | [], fr, σ => K fr σ
  | o :: l, fr, σ => stepA P N ops o (rowA P N ops K l) fr σ
theorem anyZ_row : ∀ (ord : List Nat) (l : List Oper) (listed : Array Bool) (fr : Fr) (σ : Mem), ord.map (fun i => ops[i]?) = l.map some → ordLate md ops ord listed = true → listed.size = ops.size → (∀ i ∈ ord, n ≤ i) → (noLate n ops listed → Sub M0 σ) → rowA P N ops K l fr σ → anyZ P N md n ops M0 K ord.length listed fr σ
  | [], [], listed, fr, σ, _, hB, _, _, hs, h => ⟨hs, by simpa [ordLate] using hB, h⟩
  | [], _ :: _, _, _, _, hl, _, _, _, _, _ => by simp at hl
  | _ :: _, [], _, _, _, hl, _, _, _, _, _ => by simp at hl
  | i :: ord, o :: l, listed, fr, σ, hl, hB, hsz, hn, hs, h => by
    simp only [List.map_cons, List.cons.injEq] at hl
    obtain ⟨h0, hl⟩ := hl
    simp only [ordLate, Bool.and_eq_true, beq_iff_eq] at hB
    obtain ⟨hrd, hB2⟩ := hB
    refine ⟨hs, fun e => (by rw [hrd] at e; cases e), fun j hj => ?_⟩
    rw [hrd] at hj
    have hji : j = i := by simpa using hj
    subst hji
    refine ⟨o, h0, stepA_mono (fun fr' σ' h' => anyZ_row ord l _ fr' σ' hl hB2 (by simpa using hsz) (fun i hi => hn i (by simp [hi])) (fun e => ?_) h') h⟩
    have := e j o (hn j (by simp)) h0
    have hlt : j < listed.size := by rw [hsz]; exact (Array.getElem?_eq_some_iff.1 h0).1
    rw [Array.getD_eq_getD_getElem?, Array.getElem?_setIfInBounds_self] at this
    simp [hlt] at this
theorem anyZ_list {late : List Nat} {l2 : List Oper} (hl2 : late.map (fun i => ops[i]?) = l2.map some) (hln : ∀ i ∈ late, n ≤ i) : ∀ (ord : List Nat) (l : List Oper) (listed : Array Bool) (fr : Fr) (σ : Mem), ord.map (fun i => ops[i]?) = l.map some → ordFromZ md n ops late ord listed = true → listed.size = ops.size → noLate n ops listed → Sub M0 σ →
      listA P N ops M0 (rowA P N ops K l2) l fr σ → anyZ P N md n ops M0 K (ord.length + late.length) listed fr σ
  | [], [], listed, fr, σ, _, hB, hsz, hL, hs, h => by
    rw [List.length_nil, Nat.zero_add]
    exact anyZ_row late l2 listed fr σ hl2 hB hsz hln (fun _ => hs) h
  | [], _ :: _, _, _, _, hl, _, _, _, _, _ => by simp at hl
  | _ :: _, [], _, _, _, hl, _, _, _, _, _ => by simp at hl
  | i :: ord, o :: l, listed, fr, σ, hl, hB, hsz, hL, hs, h => by
    simp only [List.map_cons, List.cons.injEq] at hl
    obtain ⟨h0, hl⟩ := hl
    simp only [ordFromZ, h0, Bool.and_eq_true] at hB
    obtain ⟨hB1, hB2⟩ := hB
    rw [List.length_cons, show ord.length + 1 + late.length = (ord.length + late.length) + 1 by omega]
    unfold listA at h
    by_cases hq : quietOp o.op = true
    · rw [if_pos hq] at h hB1
      obtain ⟨x, h1, h2⟩ := h
      simp only [Bool.and_eq_true] at hB1
      obtain ⟨w1, w2⟩ := lateWait_spec hB1.2
      exact anyZ_first h0 w1 w2 _ listed fr σ (Region.free_spec h0 hB1.1.2) (by simpa using hB1.1.1) h1 hs hL (anyZ_list hl2 hln ord l _ _ _ hl hB2 (by simpa using hsz) ((noLate_set w1).2 hL) hs h2)
    · rw [if_neg hq] at h hB1
      simp only [Bool.and_eq_true, beq_iff_eq, decide_eq_true_eq] at hB1
      obtain ⟨hrd, hin⟩ := hB1
      refine ⟨fun _ => hs, fun e => (by rw [hrd] at e; cases e), fun j hj => ?_⟩
      rw [hrd] at hj
      have hji : j = i := by simpa using hj
      subst hji
      exact ⟨o, h0, stepA_mono (fun fr' σ' h' => anyZ_list hl2 hln ord l _ fr' σ' hl hB2 (by simpa using hsz) ((noLate_set hin).2 hL) h'.1 h'.2) h⟩
end
section
variable {P : Program} {N : Nat} {Q : Fr → Mem → Prop} {k : List Itm} {fr : Fr} {σ M0 : Mem} {all : Array Oper} {o : Oper} {l : List Oper}
theorem step_of_EW (h : EW P N Q (.ops false (o :: l) all :: k) fr σ) : stepA P N all o (fun fr σ => EW P N Q (.ops false l all :: k) fr σ) fr σ := by
  rw [EW_ops] at h
  unfold stepA wantA
  have run : EW P N Q (.run false o l all :: k) fr σ → runA P N o (fun fr σ => EW P N Q (.ops false l all :: k) fr σ) fr σ := by
    intro h
    rw [EW_run] at h
    unfold runA
    cases he : evOp P o.op (evalA fr) σ with
    | ok x σ' => rw [he] at h; exact h
    | call f args => rw [he] at h; exact h
    | fail => rw [he] at h; exact h
  cases hg : guardA all o fr with
  | run => rw [hg] at h; exact run h
  | skip => rw [hg] at h; exact h
  | test x b =>
    rw [hg] at h
    obtain ⟨h1, h2, h3⟩ := h
    by_cases hx : x = b
    · simp only [wantG, hx, beq_self_eq_true]
      exact run (h2 hx)
    · simp only [wantG, show (x == b) = false by simpa using hx]
      exact ⟨h1, h3 hx⟩
  | fail => rw [hg] at h; exact h
theorem row_of_EW : ∀ (l : List Oper) (fr : Fr) (σ : Mem), EW P N Q (.ops false l all :: k) fr σ → rowA P N all (fun fr σ => EW P N Q k fr σ) l fr σ
  | [], _, _, h => by rw [EW_opsNil] at h; exact h
  | o :: l, _, _, h => stepA_mono (fun fr' σ' h' => row_of_EW l fr' σ' h') (step_of_EW h)
theorem listA_mono {K K' : Fr → Mem → Prop} (hK : ∀ fr σ, K fr σ → K' fr σ) : ∀ (l : List Oper) (fr : Fr) (σ : Mem), listA P N all M0 K l fr σ → listA P N all M0 K' l fr σ
  | [], _, _, h => hK _ _ h
  | o :: l, fr, σ, h => by
    unfold listA at h ⊢
    split at h
    · rename_i hq
      rw [if_pos hq]
      obtain ⟨x, h1, h2⟩ := h
      exact ⟨x, h1, listA_mono hK l _ _ h2⟩
    · rename_i hq
      rw [if_neg hq]
      exact stepA_mono (fun fr' σ' h' => ⟨h'.1, listA_mono hK l _ _ h'.2⟩) h
/-- The first n in an order that is named, as in 'EW_regionP', the rest in a row. -/
theorem EW_regionZ {id : Nat} {l : List Oper} (M0 : Mem) (n : Nat) (ord : List Nat) (h1 : P.follows .mixedOrders = true) (h2 : ordZ .any n l.toArray ord = true) (hs : Sub M0 σ) (h : (∀ i, σ.next ≤ i → σ.get i = none) → EWl M0 P N Q (.ops false (l.drop n) l.toArray :: k) l.toArray (ord.filterMap fun i => l[i]?) fr σ) :
    EW P N Q (.code (.region id l.toArray true) :: k) fr σ := by
  simp only [ordZ, Bool.and_eq_true, decide_eq_true_eq, List.size_toArray] at h2
  obtain ⟨⟨⟨hn, ho⟩, h3⟩, h2⟩ := h2
  have hl : ord.map (fun i => l.toArray[i]?) = (ord.filterMap fun i => l[i]?).map some := by
    have h4 : ∀ i ∈ ord, i < l.length := fun i hi => by simpa using List.all_eq_true.1 h3 i hi
    clear h h2 ho h3
    induction ord with
    | nil => rfl
    | cons i ord ih =>
      have hi := h4 i (by simp)
      have := ih (fun j hj => h4 j (by simp [hj]))
      simp only [List.getElem?_toArray] at this
      simp only [List.map_cons, List.getElem?_toArray, List.getElem?_eq_getElem hi, List.filterMap_cons]
      rw [this]
  have hl2 : ((List.range (l.length - n)).map (n + ·)).map (fun i => l.toArray[i]?) = (l.drop n).map some := by
    apply List.ext_getElem?
    intro i
    simp only [List.getElem?_map, List.getElem?_toArray, List.getElem?_drop]
    by_cases hi : i < l.length - n
    · rw [List.getElem?_range hi]
      simp [show n + i < l.length by omega]
    · rw [List.getElem?_eq_none (by simpa using hi), List.getElem?_eq_none (by omega)]
      rfl
  by_cases hfin : ∀ i, σ.next ≤ i → σ.get i = none
  · refine .raw (fun fr' σ' => EW P N Q k fr' σ') (fun φ w a hr hf hd hn' => ?_) (fun _ _ h => h)
    have hcls := Cls.drew w
    have hany := anyA_of_anyZ _ _ _ _ (anyZ_list (md := .any) (P := P) (N := N) (n := n) (M0 := M0) (K := fun fr σ => EW P N Q k fr σ) hl2 (fun i hi => by obtain ⟨j, _, rfl⟩ := List.mem_map.1 hi; omega) ord (ord.filterMap fun i => l[i]?) (Array.replicate l.toArray.size false) fr σ hl h2 (by simp)
      (fun j oj _ hj => by
        have hlt := (Array.getElem?_eq_some_iff.1 hj).1
        rw [Array.getD_eq_getD_getElem?, Array.getElem?_replicate, if_pos hlt]
        rfl) hs (listA_mono (fun fr' σ' h' => row_of_EW _ fr' σ' h') _ _ _ (h hfin)))
    rw [ho, List.length_map, List.length_range, show n + (l.length - n) = l.toArray.size by simp; omega] at hany
    refine Code.wp_mono ?_ (wp_region_any (Q := fun e a' w' => e = .normal ∧ St φ σ w N (fun fr σ => EW P N Q k fr σ) a' w') h1
      (wpAny_of_anyA (φ0 := φ) (σ0 := σ) (w0 := w) l.toArray.size _ fr σ φ _ a (hr.cls hcls) (hf.step (Cls.step hcls)) hd hn' (Cls.step hcls) hany))
    rintro e a' w' ⟨rfl, φ', σ', fr', k1, k2, k3, k4, k5, k6⟩
    exact ⟨rfl, φ', σ', fr', k1, k2, k3, k4, k5, k6⟩
  · refine .raw (fun _ _ => False) (fun φ w a hr _ _ _ => absurd (fun i hi => ?_) hfin) (fun _ _ h => h.elim)
    cases hg : σ.get i with
    | none => rfl
    | some cs => exact absurd (hr.live i cs hg) (by omega)
/-- A call with objects of the caller's own, met by a contract over data, in such a region. -/
theorem EWlc_frz {f : FuncId} {xs ys : List AV} {D : AV} {dst : Option Tmp} (h : PureA P f ys D) (hD : rigidA D = true) (hx : FrzL 0 σ xs ys) (hs : Sub M0 σ) (hk : EWl M0 P N Q k all l (putA fr dst D) σ) : EWlc M0 P N Q f xs dst l all k fr σ :=
  EWlc_of (callA_frz_args h hD hx) fun x σ' ⟨h1, h2⟩ => by subst h1; subst h2; exact ⟨hs, hk⟩
end
end Go.Ew
namespace Go.Ew
open Go Go.RowKit

section
variable {P : Program} {N : Nat} {Q Q' : Fr → Mem → Prop} {M : Fr → Mem → Prop} {k : List Itm}
end

/-! ### Plain functions that may fail -/
theorem obind {α β : Type} {o : Option α} {K : α → Option β} {r : β} (h : o.bind K = some r) : ∃ x, o = some x ∧ K x = some r := by
  cases o with
  | none => cases h
  | some x => exact ⟨x, rfl, h⟩
/-- What one round of a loop comes to. -/
inductive Ct (S R : Type) where
  | go (s : S)
  | brk (s : S)
  | ret (r : R)
/-- What a piece of code comes to: it goes on, or the function returns. -/
inductive Out (S R : Type) where
  | done (s : S)
  | ret (r : R)
def Out.on {S R T : Type} (o : Out S R) (f : S → Option T) (g : R → Option T) : Option T :=
  match o with
  | .done s => f s
  | .ret r => g r
/-- Behind one round. -/
def Ct.on {S R T : Type} (c : Ct S R) (f : S → Option T) (b : S → Option T) (g : R → Option T) : Option T :=
  match c with
  | .go s => f s
  | .brk s => b s
  | .ret r => g r
/-- n rounds, from number i on. -/
def forN {S R : Type} (body : Nat → S → Option (Ct S R)) : Nat → Nat → S → Option (Out S R)
  | 0, _, s => some (.done s)
  | n + 1, i, s => (body i s).bind fun c => c.on (fun s' => forN body n (i + 1) s') (fun s' => some (.done s')) (fun r => some (.ret r))
/-- At most F rounds. -/
def whileG {S R : Type} (body : S → Option (Ct S R)) : Nat → S → Option (Out S R)
  | 0, _ => none
  | F + 1, s => (body s).bind fun c => c.on (fun s' => whileG body F s') (fun s' => some (.done s')) (fun r => some (.ret r))
theorem forN_step {S R : Type} {body : Nat → S → Option (Ct S R)} {n k : Nat} {s : S} {o : Out S R} (h : forN body (n - k) k s = some o) (hk : k < n) :
    ∃ c, body k s = some c ∧ c.on (fun s' => forN body (n - (k + 1)) (k + 1) s') (fun s' => some (.done s')) (fun r => some (.ret r)) = some o := by
  rw [show n - k = (n - (k + 1)) + 1 by omega, forN] at h
  exact obind h
theorem forN_end {S R : Type} {body : Nat → S → Option (Ct S R)} {n k : Nat} {s : S} {o : Out S R} (h : forN body (n - k) k s = some o) (hk : ¬ k < n) : o = .done s := by
  rw [show n - k = 0 by omega, forN] at h
  exact (Option.some.inj h).symm
theorem whileG_step {S R : Type} {body : S → Option (Ct S R)} {F : Nat} {s : S} {o : Out S R} (h : whileG body F s = some o) :
    ∃ F' c, F = F' + 1 ∧ body s = some c ∧ c.on (fun s' => whileG body F' s') (fun s' => some (.done s')) (fun r => some (.ret r)) = some o := by
  cases F with
  | zero => cases h
  | succ F => obtain ⟨c, h1, h2⟩ := obind h; exact ⟨F, c, rfl, h1, h2⟩
/-- An element of a list. -/
def getN {α : Type} (l : List α) (i : Nat) : Option α := l[i]?
def getI {α : Type} (l : List α) (i : Int) : Option α := if 0 ≤ i then l[i.toNat]? else none
theorem getN_lt {α : Type} {l : List α} {i : Nat} {x : α} (h : getN l i = some x) : i < l.length := (List.getElem?_eq_some_iff.1 h).1
theorem getN_map {α : Type} {l : List α} {i : Nat} {x : α} (C : α → AV) (h : getN l i = some x) : (l.map C).drop i = C x :: (l.drop (i + 1)).map C := by
  obtain ⟨h1, h2⟩ := List.getElem?_eq_some_iff.1 h
  rw [← List.map_drop, List.drop_eq_getElem_cons h1, h2, List.map_cons]
theorem getN_flat {α : Type} {l : List α} {i : Nat} {x : α} (C : α → List AV) (sz : Nat) (hC : ∀ a, (C a).length = sz) (h : getN l i = some x) : (l.flatMap C).drop (i * sz) = C x ++ (l.drop (i + 1)).flatMap C := by
  obtain ⟨h1, h2⟩ := List.getElem?_eq_some_iff.1 h
  rw [drop_flatMap hC l i h1, h2]
theorem getI_pos {α : Type} {l : List α} {i : Int} {x : α} (h : getI l i = some x) : 0 ≤ i := by
  unfold getI at h
  split at h
  · assumption
  · cases h
theorem getI_N {α : Type} {l : List α} {i : Int} {x : α} (h : getI l i = some x) : getN l i.toNat = some x := by
  have hp := getI_pos h
  unfold getI at h
  rwa [if_pos hp] at h
theorem getI_lt {α : Type} {l : List α} {i : Int} {x : α} (h : getI l i = some x) : i < l.length := by
  have := getN_lt (getI_N h)
  have := getI_pos h
  omega
/-- The rounds from number i up to n. -/
def forR {S R : Type} (body : Nat → S → Option (Ct S R)) (i n : Nat) (s : S) : Option (Out S R) := if n ≤ 4294967296 then forN body (n - i) i s else none
theorem forR_run {S R : Type} {body : Nat → S → Option (Ct S R)} {i n : Nat} {s : S} {o : Out S R} (h : forR body i n s = some o) : n ≤ 4294967296 ∧ forN body (n - i) i s = some o := by
  unfold forR at h
  split at h
  · exact ⟨by assumption, h⟩
  · cases h
theorem condT {α : Type} {b : Bool} {x y : Option α} {r : α} (h : (bif b then x else y) = some r) (hb : b = true) : x = some r := by subst hb; exact h
theorem condF {α : Type} {b : Bool} {x y : Option α} {r : α} (h : (bif b then x else y) = some r) (hb : b = false) : y = some r := by subst hb; exact h
/-- 'append', where memory lasts. -/
def catL {α : Type} (l m : List α) : Option (List α) := if l.length + m.length ≤ 4294967296 then some (l ++ m) else none
theorem catL_spec {α : Type} {l m r : List α} (h : catL l m = some r) : l.length + m.length ≤ 4294967296 ∧ r = l ++ m := by
  unfold catL at h
  split at h
  · exact ⟨by assumption, (Option.some.inj h).symm⟩
  · cases h
/-- A new list of zeros. -/
def mkL {α : Type} (n : Int) (z : α) : Option (List α) := if 0 ≤ n ∧ n ≤ 4294967296 then some (List.replicate n.toNat z) else none
theorem mkL_spec {α : Type} {n : Int} {z : α} {r : List α} (h : mkL n z = some r) : 0 ≤ n ∧ n ≤ 4294967296 ∧ r = List.replicate n.toNat z := by
  unfold mkL at h
  split at h
  · rename_i hc
    exact ⟨hc.1, hc.2, (Option.some.inj h).symm⟩
  · cases h
theorem zerosA_map {α : Type} (f : α → AV) (z : α) : ∀ n : Nat, zerosA [f z] n = (List.replicate n z).map f
  | 0 => rfl
  | n + 1 => by rw [zerosA, zerosA_map f z n]; rfl
theorem set_map {α : Type} (f : α → AV) (x : α) : ∀ (l : List α) (i : Nat), i < l.length → (l.map f).take i ++ f x :: (l.map f).drop (i + 1) = (l.set i x).map f
  | [], i, h => by simp at h
  | a :: l, 0, h => by simp
  | a :: l, i + 1, h => by
    have := set_map f x l i (by simpa using h)
    simp only [List.map_cons, List.take_succ_cons, List.drop_succ_cons, List.cons_append, List.set_cons_succ, this]
/-! ### Memory -/
def idOf : AV → Option Nat
  | .arr id _ _ _ => some id
  | _ => none
/-- Two values that are no slices of one object. -/
def Apart (x y : AV) : Prop := ∀ i, idOf x = some i → idOf y ≠ some i
def cellAt (σ : Mem) (b i : Nat) : AV := ((σ.get b).getD []).getD i .undef
section
variable {P : Program} {σ τ : Mem} {n0 : Nat}
theorem get_alloc_ne (e : TypeId) (cs : List AV) (i : Nat) (h : i < σ.next) : (σ.alloc e cs).get i = σ.get i := by rw [get_alloc, if_neg (by omega)]
theorem get_set_ne (id : Nat) (cs : List AV) (i : Nat) (h : ¬ i = id) : (σ.set id cs).get i = σ.get i := by rw [get_set, if_neg h]
theorem get_kill_ne (id : Nat) (i : Nat) (h : ¬ i = id) : (σ.kill id).get i = σ.get i := by rw [get_kill, if_neg h]
theorem arrAt_lt {v : AV} {e : TypeId} {cs : List AV} {n sz : Nat} (h : ArrAt n0 σ v e cs n sz) (i : Nat) (hi : idOf v = some i) : n0 ≤ i ∧ i < σ.next := by
  rcases h with ⟨rfl, _⟩ | ⟨id, rfl, _, _, h5, h6⟩
  · cases hi
  · cases hi
    exact ⟨h5, h6⟩
theorem apart_symm {x y : AV} (h : Apart x y) : Apart y x := fun i h1 h2 => h i h2 h1
theorem apart_ne {x y : AV} {i j : Nat} (h : Apart x y) (hj : idOf y = some j) (hi : idOf x = some i := by rfl) : ¬ j = i := fun e => h i hi (by rw [hj, e])
theorem ArrAt.same' {v : AV} {e : TypeId} {cs : List AV} {n sz : Nat} (h : ArrAt n0 σ v e cs n sz) (hs : σ.next ≤ τ.next) (hg : ∀ i, idOf v = some i → τ.get i = σ.get i ∧ τ.ty i = σ.ty i) : ArrAt n0 τ v e cs n sz :=
  h.same (Nat.le_refl _) hs fun i m hi => hg i (by rw [hi]; rfl)
theorem frzL_n : FrzL n0 σ [] [] := ⟨rfl, fun j x y h => by simp at h⟩
theorem frzL_c {x y : AV} {xs ys : List AV} (h : Frz n0 σ x y) (k : FrzL n0 σ xs ys) : FrzL n0 σ (x :: xs) (y :: ys) := by rw [frzL_cons]; exact ⟨h, k⟩
theorem frz_aggL {xs ys : List AV} (h : FrzL n0 σ xs ys) : Frz n0 σ (.agg xs) (.agg ys) := .agg _ _ h.1 h.2
theorem frz_tupL {xs ys : List AV} (h : FrzL n0 σ xs ys) : Frz n0 σ (.tup xs) (.tup ys) := .tup _ _ h.1 h.2
theorem frz_fnL {f : FuncId} {xs ys : List AV} (h : FrzL n0 σ xs ys) : Frz n0 σ (.fn f xs) (.fn f ys) := .fn _ _ _ h.1 h.2
theorem frz_ptrL {id : Nat} {cs ys : List AV} (h0 : n0 ≤ id) (h1 : σ.get id = some cs) (h : FrzL n0 σ cs ys) : Frz n0 σ (.ptr id 0) (.iptr ys) := .ptr id 0 cs ys h0 h1 (by rw [Nat.zero_add, h.1]; exact Nat.le_refl _) (by simpa using h.2)
theorem frz_arrL {id n sz : Nat} {cs ys : List AV} (h0 : n0 ≤ id) (h1 : σ.get id = some cs) (h : FrzL n0 σ cs ys) : Frz n0 σ (.arr id 0 n sz) (.imm n ys) := .arr id 0 n sz cs ys h0 h1 (by rw [Nat.zero_add, h.1]; exact Nat.le_refl _) (by simpa using h.2)
theorem ArrAt.frzle {n1 : Nat} {x : AV} {e : TypeId} {cells : List AV} {n sz : Nat} (h : ArrAt n0 σ x e cells n sz) (hn : n1 ≤ n0) (hd : DataL cells) : Frz n1 σ x (.imm n cells) := (h.same hn (Nat.le_refl _) fun _ _ _ => ⟨rfl, rfl⟩).frz hd
end
end Go.Ew
namespace Go.Ew
open Go Go.RowKit

/-- What the stack K owes, from this state. -/
def SW (P : Program) (N : Nat) (Q : Fr → Mem → Prop) (K : List Itm) (fr : Fr) (σ : Mem) : Prop :=
  ∀ (φ0 : Nat → Nat) (σ0 : Mem) (w0 : World) (φ : Nat → Nat) (w : World) (a : Act), RelM φ σ w → RelF φ σ w fr a.tmps → a.defers = [] → a.tmps.size = N → Step φ0 σ0 w0 φ σ w → LK P φ0 σ0 w0 N Q K .normal a w

section
variable {P : Program} {N : Nat} {Q : Fr → Mem → Prop} {k : List Itm} {fr : Fr} {σ : Mem}
theorem SW.of (h : EW P N Q k fr σ) : SW P N Q k fr σ := fun _ _ _ φ w a hr hf hd hn hs => sound h φ w a hr hf hd hn hs
theorem SW.goal {K : Fr → Mem → Prop} (h : K fr σ) : SW P N Q (.goal K :: k) fr σ := fun _ _ _ φ _ _ hr hf hd hn hs => ⟨φ, _, _, hr, hf, hd, hn, hs, h⟩
theorem SW.blk {id : Nat} (h : SW P N Q k fr σ) : SW P N Q (.blk id :: k) fr σ := fun φ0 σ0 w0 φ w a hr hf hd hn hs => h φ0 σ0 w0 φ w a hr hf hd hn hs
theorem SW.skip (h : SW P N Q k fr σ) : SW P N Q (.code .skip :: k) fr σ := fun φ0 σ0 w0 φ w a hr hf hd hn hs => wp_skip (h φ0 σ0 w0 φ w a hr hf hd hn hs)
theorem SW.seq {x y : Code} (h : SW P N Q (.code x :: .code y :: k) fr σ) : SW P N Q (.code (.seq x y) :: k) fr σ := fun φ0 σ0 w0 φ w a hr hf hd hn hs => by
  have := h φ0 σ0 w0 φ w a hr hf hd hn hs
  simp only [LK] at this ⊢
  refine wp_seq ?_
  rw [← LK_code y k]
  exact this
theorem SW.cond {c : Operand} {x y : Code} (t : Bool) (hc : evalA fr c = .lit (.bool t)) (ht : t = true → SW P N Q (.code x :: k) fr σ) (hf : t = false → SW P N Q (.code y :: k) fr σ) : SW P N Q (.code (.cond c x y) :: k) fr σ := fun φ0 σ0 w0 φ w a hr hfr hd hn hs => by
  have hv := rv_eval hfr c
  rw [hc] at hv
  have hv' : a.eval c = .bool t := by
    cases he : a.eval c <;> rw [he] at hv <;> cases hv
    rfl
  exact wp_cond_split hv' (fun e => ht e φ0 σ0 w0 φ w a hr hfr hd hn hs) (fun e => hf e φ0 σ0 w0 φ w a hr hfr hd hn hs)
theorem SW.block {id : Nat} {c : Code} (h : SW P N Q (.code c :: .blk id :: k) fr σ) : SW P N Q (.code (.block id c) :: k) fr σ := fun φ0 σ0 w0 φ w a hr hf hd hn hs => by
  have := h φ0 σ0 w0 φ w a hr hf hd hn hs
  simp only [LK] at this ⊢
  refine wp_block ?_
  rw [← LK_blk id k]
  exact this
theorem SW.loop {c : Code} (I : Nat → Fr → Mem → Prop) (n : Nat) (h0 : I n fr σ) (h : ∀ n fr σ, I n fr σ → SW P N Q (.code c :: .goal (fun fr' σ' => ∃ m, m < n ∧ I m fr' σ') :: k) fr σ) : SW P N Q (.code (.loop c) :: k) fr σ := fun φ0 σ0 w0 φ w a hr hf hd hn hs => by
  simp only [LK]
  refine wp_loop_ghost (fun n a w => St φ0 σ0 w0 N (I n) a w) n ⟨φ, σ, fr, hr, hf, hd, hn, hs, h0⟩ ?_
  rintro n a w ⟨φ, σ, fr, hr, hf, hd, hn', hs, hI⟩
  have : c.wp P (LK P φ0 σ0 w0 N Q (.goal (fun fr' σ' => ∃ m, m < n ∧ I m fr' σ') :: k)) a w := h n fr σ hI φ0 σ0 w0 φ w a hr hf hd hn' hs
  rw [LK_goal] at this
  refine Code.wp_mono (fun e a w he => ?_) this
  cases e with
  | normal =>
    obtain ⟨φ, σ, fr, k1, k2, k3, k4, k5, m, k6, k7⟩ := he
    exact ⟨m, k6, φ, σ, fr, k1, k2, k3, k4, k5, k7⟩
  | _ => exact he
theorem SW.exit {id : Nat} {k' : List Itm} (hd : dropTo id k = some k') (h : SW P N Q k' fr σ) : SW P N Q (.code (.exit id) :: k) fr σ := fun φ0 σ0 w0 φ w a hr hf hde hn hs => wp_exit (LK_exit _ _ a w hd (h φ0 σ0 w0 φ w a hr hf hde hn hs))
theorem SW.ret (h : Q fr σ) : SW P N Q (.code .ret :: k) fr σ := fun _ _ _ φ w a hr hf hd hn hs => wp_ret (LK_ret _ a w ⟨φ, _, _, hr, hf, hd, hn, hs, h⟩)
/-- A cut behind a piece of code. -/
theorem SW.cut {c : Code} (M : Fr → Mem → Prop) (h : SW P N Q (.code c :: .goal M :: k) fr σ) (hM : ∀ fr σ, M fr σ → SW P N Q k fr σ) : SW P N Q (.code c :: k) fr σ := fun φ0 σ0 w0 φ w a hr hf hd hn hs => by
  have := h φ0 σ0 w0 φ w a hr hf hd hn hs
  simp only [LK] at this ⊢
  refine Code.wp_mono (fun e a w he => ?_) this
  cases e with
  | normal =>
    obtain ⟨φ, σ, fr, k1, k2, k3, k4, k5, k6⟩ := he
    exact hM fr σ k6 φ0 σ0 w0 φ w a k1 k2 k3 k4 k5
  | _ => exact he
/-- A region by itself. -/
theorem SW.reg {id : Nat} {ops : Array Oper} {d : Bool} (M : Fr → Mem → Prop) (h : EW P N (fun _ _ => False) [.code (.region id ops d), .goal M] fr σ) (hM : ∀ fr' σ', M fr' σ' → SW P N Q k fr' σ') : SW P N Q (.code (.region id ops d) :: k) fr σ := fun φ0 σ0 w0 φ w a hr hf hd hn hs => by
  have := sound (φ0 := φ0) (σ0 := σ0) (w0 := w0) h φ w a hr hf hd hn hs
  simp only [LK] at this ⊢
  refine Code.wp_mono (fun e a w he => ?_) this
  cases e with
  | normal =>
    obtain ⟨φ, σ, fr, k1, k2, k3, k4, k5, k6⟩ := he
    exact hM fr σ k6 φ0 σ0 w0 φ w a k1 k2 k3 k4 k5
  | ret => obtain ⟨φ, σ, fr, k1, k2, k3, k4, k5, k6⟩ := he; exact k6.elim
  | _ => exact he.elim

/-! ### Another view of a state -/
theorem SW.view {fr' : Fr} {σ' : Mem} (hv : ∀ (φ : Nat → Nat) (w : World) (t : Array Value), RelM φ σ w → RelF φ σ w fr t → RelM φ σ' w ∧ RelF φ σ' w fr' t ∧ Step φ σ w φ σ' w) (h : SW P N Q k fr' σ') : SW P N Q k fr σ := fun φ0 σ0 w0 φ w a hr hf hd hn hs => by
  obtain ⟨h1, h2, h3⟩ := hv φ w a.tmps hr hf
  exact h φ0 σ0 w0 φ w a h1 h2 hd hn (hs.trans h3)
/-- A fact that each state of the model has. -/
theorem SW.fact (K : Prop) (hv : ∀ (φ : Nat → Nat) (w : World) (t : Array Value), RelM φ σ w → RelF φ σ w fr t → K) (h : K → SW P N Q k fr σ) : SW P N Q k fr σ := fun φ0 σ0 w0 φ w a hr hf hd hn hs => h (hv φ w a.tmps hr hf) φ0 σ0 w0 φ w a hr hf hd hn hs
theorem len_rv {φ : Nat → Nat} {n : Nat} {L : Nat → Prop} {w : World} {m : Nat} {cs : List AV} {v : Value} (h : Rv φ n L w (.imm m cs) v) : m ≤ 9223372036854775807 := by
  cases h with
  | imm0 A c hc => omega
  | imm _ _ ad c vs k1 k2 k3 k4 k5 k6 => have : maxLen = 9223372036854775807 := rfl; omega
theorem len_rva {φ : Nat → Nat} {n : Nat} {L : Nat → Prop} {w : World} {id off m sz : Nat} {v : Value} (h : Rv φ n L w (.arr id off m sz) v) : m ≤ 9223372036854775807 := by
  cases h with
  | arr _ _ _ _ c k1 k2 k3 k4 => have : maxLen = 9223372036854775807 := rfl; omega
/-- The length of data is bounded. -/
theorem SW.len (t : Nat) {m : Nat} {cs : List AV} (hf : fr t = .imm m cs) (h : m ≤ 9223372036854775807 → SW P N Q k fr σ) : SW P N Q k fr σ :=
  .fact _ (fun _ _ _ _ hr => by have := hr t; rw [hf] at this; exact len_rv this) h
theorem SW.lenA (t : Nat) {n0 : Nat} {v : AV} {e : TypeId} {cs : List AV} {m sz : Nat} (hf : fr t = v) (ha : ArrAt n0 σ v e cs m sz) (h : m ≤ 9223372036854775807 → SW P N Q k fr σ) : SW P N Q k fr σ := by
  refine .fact _ (fun _ _ _ _ hr => ?_) h
  rcases ha with ⟨rfl, rfl, rfl⟩ | ⟨id, rfl, _⟩
  · omega
  · have := hr t; rw [hf] at this; exact len_rva this
/-- y stands for x where some own slices have become data (S: their objects), and nil slices slices of no elements. -/
inductive FrzS (S : Nat → Prop) (σ : Mem) : AV → AV → Prop
  | keep (x : AV) : FrzS S σ x x
  | nil : FrzS S σ .nils (.imm 0 [])
  | agg (xs ys : List AV) : xs.length = ys.length → (∀ (j : Nat) (x y : AV), xs[j]? = some x → ys[j]? = some y → FrzS S σ x y) → FrzS S σ (.agg xs) (.agg ys)
  | arr (id n sz : Nat) (cs ys : List AV) : S id → σ.get id = some cs → cs.length = ys.length → (∀ (j : Nat) (x y : AV), cs[j]? = some x → ys[j]? = some y → FrzS S σ x y) → FrzS S σ (.arr id 0 n sz) (.imm n ys)
theorem rv_frzS {φ : Nat → Nat} {σ σ' : Mem} {w : World} {S : Nat → Prop} (hr : RelM φ σ w) (hn : σ'.next = σ.next) (hL : ∀ i, (σ'.get i).isSome = true → (σ.get i).isSome = true ∧ ¬ S i) {x y : AV} (h : FrzS S σ x y) : ∀ v, RvM φ σ w x v → RvM φ σ' w y v := by
  have hl : ∀ b, Live φ σ' b → Live φ σ b := fun b ⟨i, h1, h2⟩ => ⟨i, (hL i h1).1, h2⟩
  have res : ∀ {x : AV} {v : Value}, RvM φ σ w x v → RvM φ σ' w x v := fun {x v} h => by
    have := h.restrict hl (wf_of_rv h)
    rw [← hn] at this
    exact this
  induction h with
  | keep => intro v hv; exact res hv
  | nil => intro v hv; cases hv; exact .imm0 none 0 (Nat.zero_le _)
  | agg xs ys hlen _ ih =>
    intro v hv
    cases hv with
    | agg _ vs k1 k2 k3 =>
      refine .agg ys vs (by rw [← hlen]; exact k1) (fun j y u hy hu => ?_) k3
      have hj : j < xs.length := by rw [hlen]; exact (List.getElem?_eq_some_iff.1 hy).1
      exact ih j _ y (List.getElem?_eq_getElem hj) hy u (k2 j _ u (List.getElem?_eq_getElem hj) hu)
  | arr id n sz cs ys hs hg hlen _ ih =>
    intro v hv
    cases hv with
    | arr _ _ _ _ c k1 k2 k3 k4 =>
      obtain ⟨cur, g1, g2, g3⟩ := hr.cell id cs hg
      refine .imm n ys ⟨φ id, 0, none⟩ c (fun j => cur.getD (0 + j) Go.undef) (fun j hj => ?_) (fun j y hy => ?_) (fun hl' => ?_) (Array.getElem?_eq_some_iff.1 g1).1 k2 k3
      · obtain ⟨u, g4, g5, _⟩ := g3 j _ (List.getElem?_eq_getElem (by omega))
        rw [Addr.add_lit, cell_of_row w (φ id) (0 + j) cur _ (0, 0) g1]
        simp only [Array.getD_eq_getD_getElem?, Nat.zero_add, g4, Option.getD_some]
        exact ⟨trivial, g5⟩
      · have hj : j < cs.length := by rw [hlen]; exact (List.getElem?_eq_some_iff.1 hy).1
        obtain ⟨u, g4, _, g6⟩ := g3 j _ (List.getElem?_eq_getElem hj)
        simp only [Array.getD_eq_getD_getElem?, Nat.zero_add, g4, Option.getD_some]
        exact ih j _ y (List.getElem?_eq_getElem hj) hy u g6
      · obtain ⟨i, q1, q2⟩ := hl'
        have := hr.inj i id (hL i q1).1 (by simp [hg]) q2
        subst this
        exact (hL i q1).2 hs
/-- SOME OWN SLICES BECOME DATA. -/
theorem SW.frz {fr' : Fr} {σ' : Mem} (S : Nat → Prop) (hn : σ'.next = σ.next) (hty : σ'.ty = σ.ty) (hf : ∀ t, FrzS S σ (fr t) (fr' t)) (hS : ∀ i, S i → σ'.get i = none)
    (hg : ∀ i cs', σ'.get i = some cs' → ∃ cs, σ.get i = some cs ∧ cs.length = cs'.length ∧ ∀ (j : Nat) (x y : AV), cs[j]? = some x → cs'[j]? = some y → FrzS S σ x y) (h : SW P N Q k fr' σ') : SW P N Q k fr σ := by
  refine .view (fun φ w t hr hrf => ?_) h
  have hL : ∀ i, (σ'.get i).isSome = true → (σ.get i).isSome = true ∧ ¬ S i := fun i hi => by
    obtain ⟨cs', hcs'⟩ := Option.isSome_iff_exists.1 hi
    obtain ⟨cs, hcs, _⟩ := hg i cs' hcs'
    exact ⟨by simp [hcs], fun hs => by rw [hS i hs] at hcs'; cases hcs'⟩
  have hl : ∀ b, Live φ σ' b → Live φ σ b := fun b ⟨i, h1, h2⟩ => ⟨i, (hL i h1).1, h2⟩
  refine ⟨⟨fun i cs' hcs' => ?_, fun i cs' hcs' => ?_, fun i j hi hj e => hr.inj i j (hL i hi).1 (hL j hj).1 e⟩, fun t => rv_frzS hr hn hL (hf t) _ (hrf t), ?_⟩
  · obtain ⟨cs, hcs, _⟩ := hg i cs' hcs'
    rw [hn]; exact hr.live i cs hcs
  · obtain ⟨cs, hcs, hlen, hp⟩ := hg i cs' hcs'
    obtain ⟨cur, g1, g2, g3⟩ := hr.cell i cs hcs
    refine ⟨cur, by rw [hty]; exact g1, by omega, fun j y hy => ?_⟩
    have hj : j < cs.length := by rw [hlen]; exact (List.getElem?_eq_some_iff.1 hy).1
    obtain ⟨v, g4, g5, g6⟩ := g3 j _ (List.getElem?_eq_getElem hj)
    exact ⟨v, g4, g5, rv_frzS hr hn hL (hp j _ y (List.getElem?_eq_getElem hj) hy) v g6⟩
  · exact ⟨by rw [hn]; exact Nat.le_refl _, fun _ _ => rfl, fun b hb => .inl (hl b hb), Nat.le_refl _, fun _ _ _ => rfl, fun b cur e fz hb => ⟨cur, fz, hb, rfl⟩, rfl, rfl, rfl⟩
/-- Memory without one object, if the value is a slice onto one. -/
def Mem.killA (σ : Mem) (v : AV) : Mem := match idOf v with | some i => σ.kill i | none => σ
theorem killA_next (v : AV) : (σ.killA v).next = σ.next := by unfold Mem.killA; split <;> rfl
theorem killA_ty (v : AV) : (σ.killA v).ty = σ.ty := by unfold Mem.killA; split <;> rfl
theorem killA_get (v : AV) (i : Nat) (h : idOf v = some i → False) : (σ.killA v).get i = σ.get i := by
  unfold Mem.killA
  split
  · rename_i j hj
    rw [get_kill, if_neg (fun e => h (by rw [hj, e]))]
  · rfl
/-- An own slice in a register becomes data. -/
theorem SW.frzT (t : Nat) {n0 : Nat} {v : AV} {e : TypeId} {cells : List AV} {n sz : Nat} (ha : ArrAt n0 σ v e cells n sz) (hf : fr t = v) (h : SW P N Q k (upd fr t (.imm n cells)) (σ.killA v)) : SW P N Q k fr σ := by
  refine .frz (fun i => idOf v = some i) (killA_next v) (killA_ty v) (fun t' => ?_) (fun i hi => ?_) (fun i cs' hcs' => ?_) h
  · by_cases ht : t' = t
    · subst ht
      simp only [upd, if_true]
      rcases ha with ⟨rfl, rfl, rfl⟩ | ⟨id, rfl, hg, _⟩
      · rw [hf]; exact .nil
      · rw [hf]; exact .arr id n sz cells cells rfl hg rfl fun j x y hx hy => by rw [hx] at hy; cases hy; exact .keep _
    · simp only [upd, ht, if_false]; exact .keep _
  · unfold Mem.killA; rw [hi]; simp [get_kill]
  · refine ⟨cs', ?_, rfl, fun j x y hx hy => by rw [hx] at hy; cases hy; exact .keep _⟩
    unfold Mem.killA at hcs'
    split at hcs'
    · rw [get_kill] at hcs'; split at hcs'
      · cases hcs'
      · exact hcs'
    · exact hcs'
def killAll (σ : Mem) (ids : List Nat) : Mem := ⟨σ.next, σ.ty, fun i => if i ∈ ids then none else σ.get i⟩
/-! ### From the rules to contracts -/
theorem callA_of_SW {f : FuncId} {fn : Func} {c : Code} {args : List AV} {R : AV → Mem → Prop} (hf : P.funcs[f]? = some fn) (hn : (fn.name == "runtime.NumGoroutine") = false) (hb : fn.body = some c) (hN : args.length + (fn.ntmps - args.length) = N)
    (h : SW P N (fun fr σ' => ∃ x, resA P fn.results.toList fr σ' = some x ∧ R x σ') [.code c] (initFr args) σ) : CallA P f args σ R := by
  subst hN
  refine ⟨⟨fn, hf, by simp [hb], hn⟩, fun φ w vs hr ha => calls_of_wp hf hb ?_⟩
  have hinit : RelF φ σ w (initFr args) (vs.toArray ++ Array.replicate (fn.ntmps - vs.toArray.size) Go.undef) := by
    intro k
    rw [Array.getD_eq_getD_getElem?]
    unfold initFr
    rw [List.getD_eq_getElem?_getD]
    by_cases hk : k < args.length
    · have hk' : k < vs.length := by rw [← ha.1]; exact hk
      rw [Array.getElem?_append_left (by simpa using hk'), List.getElem?_toArray, List.getElem?_eq_getElem hk, List.getElem?_eq_getElem hk']
      exact ha.2 k _ _ (List.getElem?_eq_getElem hk) (List.getElem?_eq_getElem hk')
    · have hk' : ¬ k < vs.length := by rw [← ha.1]; exact hk
      rw [List.getElem?_eq_none (by omega), Array.getElem?_append_right (by simp; omega)]
      have : ((Array.replicate (fn.ntmps - vs.toArray.size) Go.undef)[k - vs.toArray.size]?).getD Go.undef = Go.undef := by
        rw [Array.getElem?_replicate]; split <;> rfl
      rw [this]
      exact .tup [] [] rfl (fun j x v h => by simp at h)
  have hs := h φ σ w φ w ⟨vs.toArray ++ Array.replicate (fn.ntmps - vs.toArray.size) Go.undef, []⟩ hr hinit rfl (by simp [ha.1]) (Step.refl φ σ w)
  simp only [LK] at hs
  refine Code.wp_mono (fun e a w' he => ?_) hs
  have fin : St φ σ w (args.length + (fn.ntmps - args.length)) (fun fr σ' => ∃ x, resA P fn.results.toList fr σ' = some x ∧ R x σ') a w' → a.defers = [] ∧ ∃ v, (results fn a.tmps).run P w' = .ok v w' ∧ ∃ v' x φ' σ', Ending.returned v = .returned v' ∧ RelM φ' σ' w' ∧ RvM φ' σ' w' x v' ∧ Step φ σ w φ' σ' w' ∧ R x σ' := by
    rintro ⟨φ', σ', fr, h1, h2, h3, h4, h5, x, h6, h7⟩
    obtain ⟨v, h8, h9⟩ := run_results h1 h2 h6
    exact ⟨h3, v, h9, v, x, φ', σ', rfl, h1, h8, h5, h7⟩
  cases e with
  | normal => exact fin he
  | ret => exact fin he
  | _ => exact he.elim
/-- What was there before is as it was, with its type. -/
def Kept (σ0 σ : Mem) : Prop := ∀ i, i < σ0.next → σ.get i = σ0.get i ∧ σ.ty i = σ0.ty i
theorem Kept.refl (σ : Mem) : Kept σ σ := fun _ _ => ⟨rfl, rfl⟩
theorem Kept.keeps {σ0 : Mem} (h : Kept σ0 σ) : Keeps σ0 σ := fun i hi => (h i hi).1
theorem Kept.trans {σ0 σ1 : Mem} (h : Kept σ0 σ1) (k : Kept σ1 σ) (hn : σ0.next ≤ σ1.next) : Kept σ0 σ := fun i hi => ⟨(k i (by omega)).1.trans (h i hi).1, (k i (by omega)).2.trans (h i hi).2⟩
theorem pureA_of_SW {f : FuncId} {fn : Func} {c : Code} {args : List AV} {D : AV} (hf : P.funcs[f]? = some fn) (hn : (fn.name == "runtime.NumGoroutine") = false) (hb : fn.body = some c) (hN : args.length + (fn.ntmps - args.length) = N)
    (h : ∀ σ, SW P N (Ends P fn.results.toList σ D) [.code c] (initFr args) σ) : PureA P f args D := fun σ => callA_frz (callA_of_SW hf hn hb hN (h σ))
theorem Kept.killA {σ0 : Mem} {v : AV} {e : TypeId} {cs : List AV} {n sz : Nat} (h : Kept σ0 σ) (ha : ArrAt σ0.next σ v e cs n sz) : Kept σ0 (σ.killA v) := fun i hi =>
  ⟨(killA_get v i fun hv => by have := (arrAt_lt ha i hv).1; omega).trans (h i hi).1, by rw [killA_ty]; exact (h i hi).2⟩
theorem ArrAt.killA {n0 : Nat} {u v : AV} {e : TypeId} {cs : List AV} {n sz : Nat} (h : ArrAt n0 σ u e cs n sz) (hd : Apart u v) : ArrAt n0 (σ.killA v) u e cs n sz :=
  h.same' (by rw [killA_next]; exact Nat.le_refl _) fun i hi => ⟨killA_get v i fun hv => hd i hi hv, by rw [killA_ty]⟩
theorem ArrAt.set_ne {n0 : Nat} {u : AV} {e : TypeId} {cs : List AV} {n sz b : Nat} {xs : List AV} (h : ArrAt n0 σ u e cs n sz) (hd : ∀ i, idOf u = some i → ¬ i = b) : ArrAt n0 (σ.set b xs) u e cs n sz :=
  h.same' (Nat.le_refl _) fun i hi => ⟨by rw [get_set, if_neg (hd i hi)], rfl⟩
theorem Kept.set {σ0 : Mem} {b : Nat} {xs : List AV} (h : Kept σ0 σ) (hb : σ0.next ≤ b) : Kept σ0 (σ.set b xs) := fun i hi => ⟨by rw [get_set, if_neg (by omega)]; exact (h i hi).1, (h i hi).2⟩
theorem ArrAt.lo {n0 n1 : Nat} {u : AV} {e : TypeId} {cs : List AV} {n sz : Nat} (h : ArrAt n0 σ u e cs n sz) (hn : n1 ≤ n0) : ArrAt n1 σ u e cs n sz := h.same hn (Nat.le_refl _) fun _ _ _ => ⟨rfl, rfl⟩
theorem killAll_get (ids : List Nat) (i : Nat) (h : ¬ i ∈ ids) : (killAll σ ids).get i = σ.get i := by simp [killAll, h]
theorem Kept.killAll {σ0 : Mem} {ids : List Nat} (h : Kept σ0 σ) (hi : ∀ i ∈ ids, σ0.next ≤ i) : Kept σ0 (killAll σ ids) := fun i hl =>
  ⟨(killAll_get ids i fun hm => by have := hi i hm; omega).trans (h i hl).1, (h i hl).2⟩
theorem ArrAt.killAll {n0 : Nat} {u : AV} {e : TypeId} {cs : List AV} {n sz : Nat} {ids : List Nat} (h : ArrAt n0 σ u e cs n sz) (hd : ∀ i ∈ ids, idOf u = some i → False) : ArrAt n0 (killAll σ ids) u e cs n sz :=
  h.same' (Nat.le_refl _) fun i hi => ⟨killAll_get ids i fun hm => hd i hm hi, rfl⟩
theorem apart_of {n0 n1 : Nat} {τ : Mem} {u v : AV} {e e' : TypeId} {cs cs' : List AV} {n n' sz sz' : Nat} (ha : ArrAt n1 τ v e cs n sz) (hb : ArrAt n0 σ u e' cs' n' sz') (hle : σ.next ≤ n1) : Apart v u := fun i h1 h2 => by
  have := arrAt_lt ha i h1; have := arrAt_lt hb i h2; omega
end
end Go.Ew
namespace Go.Ew
open Go Go.RowKit

section
variable {P : Program} {N : Nat} {ops : Array Oper} {md : Region.Mode} {M0 : Mem} {n : Nat} {K : Fr → Mem → Prop}
/-- Operation o is a call that hands back the data x, wherever it comes up. -/
def StillP (P : Program) (N : Nat) (ops : Array Oper) (o : Oper) (x : AV) (fr : Fr) : Prop :=
  dstOk N o.dst = true ∧ wantA ops o fr = some true ∧ ∃ f args, (∀ σ, evOp P o.op (evalA fr) σ = .call f args) ∧ PureA P f args x
theorem StillP.step {o : Oper} {x : AV} {fr : Fr} {σ : Mem} (h : StillP P N ops o x fr) (hK : K (putA fr o.dst x) σ) : stepA P N ops o K fr σ := by
  obtain ⟨h0, h1, f, args, h2, h3⟩ := h
  simp only [stepA, h1, runA, h2]
  exact ⟨h0, _, h3 σ, fun y σ' ⟨e1, e2⟩ => by subst e1; subst e2; exact hK⟩
theorem StillP.put {o : Oper} {x : AV} {fr : Fr} {d : Option Tmp} {v : AV} (h : StillP P N ops o x fr) (h1 : ∀ e, d = some e → e ∉ o.looksAt ops) : StillP P N ops o x (putA fr d v) := by
  obtain ⟨a, b, f, args, c, e⟩ := h
  exact ⟨a, by rw [wantA_put o fr h1]; exact b, f, args, fun σ => by rw [evOp_put o fr σ h1]; exact c σ, e⟩
theorem anyZ_firstP {i : Nat} {oi : Oper} {x : AV} (hi : ops[i]? = some oi) (hin : i < n) (hlate : ∀ j oj, n ≤ j → ops[j]? = some oj → ∃ e ∈ oj.after, Region.binds md e = true ∧ e.on = i) : ∀ (fuel : Nat) (listed : Array Bool) (fr : Fr) (σ : Mem),
      (∀ j oj, ops[j]? = some oj → j ≠ i → listed.getD j true = false → (∀ e ∈ oj.after, Region.binds md e = true → e.on ≠ i) → oi.apart ops oj = true) →
      i ∈ Region.ready md ops listed → StillP P N ops oi x fr → Sub M0 σ → noLate n ops listed → anyZ P N md n ops M0 K fuel (listed.setIfInBounds i true) (putA fr oi.dst x) σ → anyZ P N md n ops M0 K (fuel + 1) listed fr σ := by
  intro fuel
  induction fuel with
  | zero =>
    intro listed fr σ _ hr hy hs _ H
    refine ⟨fun _ => hs, fun h => (by rw [h] at hr; cases hr), fun j hj => ?_⟩
    by_cases hji : j = i
    · subst hji
      exact ⟨oi, hi, hy.step H⟩
    · have h1 := ready_mono hj hji
      rw [H.2.1] at h1
      cases h1
  | succ fuel ih =>
    intro listed fr σ hfree hr hy hs hL H
    refine ⟨fun _ => hs, fun h => (by rw [h] at hr; cases hr), fun j hj => ?_⟩
    by_cases hji : j = i
    · subst hji
      exact ⟨oi, hi, hy.step H⟩
    · obtain ⟨oj, hoj, h1⟩ := H.2.2 j (ready_mono hj hji)
      refine ⟨oj, hoj, ?_⟩
      obtain ⟨hjun, oj', hoj', hjall⟩ := mem_ready.1 hj
      have hiun := (mem_ready.1 hr).1
      rw [hoj] at hoj'
      cases hoj'
      have hnot : ∀ e ∈ oj.after, Region.binds md e = true → e.on ≠ i := fun e he hb hei => by
        have := hjall e he hb
        rw [hei] at this
        cases hg : listed[i]? <;> simp [Array.getD_eq_getD_getElem?, hg] at this hiun
        simp [this] at hiun
      have hjn : j < n := by
        by_cases hc : j < n
        · exact hc
        · obtain ⟨e, he1, he2, he3⟩ := hlate j oj (by omega) hoj
          exact absurd he3 (hnot e he1 he2)
      have hap := hfree j oj hoj hji hjun hnot
      obtain ⟨a1, a2, a3⟩ := Oper.apart_spec hap
      have hfree' : ∀ k ok, ops[k]? = some ok → k ≠ i → (listed.setIfInBounds j true).getD k true = false → (∀ e ∈ ok.after, Region.binds md e = true → e.on ≠ i) → oi.apart ops ok = true := fun k ok hk hki hun hno => by
        refine hfree k ok hk hki ?_ hno
        by_cases hjk : j = k
        · subst hjk; exact hjun
        · rw [getD_set_ne true hjk] at hun; exact hun
      refine stepA_put oj a1 a2 (fun y σ' hy' => ?_) h1
      have hL' : noLate n ops (listed.setIfInBounds j true) := (noLate_set hjn).2 hL
      refine ih _ _ _ hfree' (ready_mono hr (Ne.symm hji)) (hy.put a3) (anyZ_head hy' ((noLate_set hjn).2 ((noLate_set hin).2 hL))) hL' ?_
      rw [Array.setIfInBounds_comm _ _ hji]
      exact hy'
end
def okTrZ (md : Region.Mode) (n : Nat) (ops : Array Oper) (late : List Nat) : Tr → Array Bool → Bool → Bool
  | .done, listed, ins => !ins && ordLate md ops late listed
  | .q e i t, listed, ins => !ins && (match ops[i]? with
    | some o => (e || quietOp o.op) && (Region.ready md ops listed).contains i && Region.free md ops listed i && lateWait md n ops i && okTrZ md n ops late t (listed.setIfInBounds i true) false
    | none => false)
  | .s i t, listed, ins => (ins || (!(Region.ready md ops listed).isEmpty && (Region.ready md ops listed).all fun j => j == i)) && decide (i < n) && (match ops[i]? with
    | some _ => okTrZ md n ops late t (listed.setIfInBounds i true) false
    | none => false)
  | .both a b, listed, ins => (ins || (!(Region.ready md ops listed).isEmpty && (Region.ready md ops listed).all fun j => (a.heads ++ b.heads).contains j)) && decide (a.size = b.size) && okTrZ md n ops late a listed true && okTrZ md n ops late b listed true

section
variable {P : Program} {N : Nat} {ops : Array Oper} {md : Region.Mode} {M0 : Mem} {n : Nat} {K : Fr → Mem → Prop}
def treeZ (P : Program) (N : Nat) (ops : Array Oper) (M0 : Mem) (K : Fr → Mem → Prop) : Tr → Fr → Mem → Prop
  | .done, fr, σ => K fr σ
  | .q e i t, fr, σ => ∃ o x, ops[i]? = some o ∧ (e = false → StillA P N ops M0 o x fr) ∧ (e = true → StillP P N ops o x fr) ∧ treeZ P N ops M0 K t (putA fr o.dst x) σ
  | .s i t, fr, σ => ∃ o, ops[i]? = some o ∧ stepA P N ops o (fun fr' σ' => Sub M0 σ' ∧ treeZ P N ops M0 K t fr' σ') fr σ
  | .both a b, fr, σ => treeZ P N ops M0 K a fr σ ∧ treeZ P N ops M0 K b fr σ
theorem anyZ_tree {late : List Nat} {l2 : List Oper} (hl2 : late.map (fun i => ops[i]?) = l2.map some) (hln : ∀ i ∈ late, n ≤ i) : ∀ (tr : Tr) (listed : Array Bool) (fr : Fr) (σ : Mem), listed.size = ops.size → noLate n ops listed → Sub M0 σ → treeZ P N ops M0 (rowA P N ops K l2) tr fr σ →
    (okTrZ md n ops late tr listed false = true → anyZ P N md n ops M0 K (tr.size + late.length) listed fr σ) ∧
    (okTrZ md n ops late tr listed true = true → ∀ i ∈ tr.heads, ∃ o, ops[i]? = some o ∧ ∃ m, tr.size = m + 1 ∧ stepA P N ops o (anyZ P N md n ops M0 K (m + late.length) (listed.setIfInBounds i true)) fr σ)
  | .done, listed, fr, σ, hsz, hL, hs, h => by
    refine ⟨fun hB => ?_, fun hB => by simp [okTrZ] at hB⟩
    simp only [okTrZ, Bool.not_false, Bool.true_and] at hB
    rw [Tr.size, Nat.zero_add]
    exact anyZ_row late l2 listed fr σ hl2 hB hsz hln (fun _ => hs) h
  | .q e i t, listed, fr, σ, hsz, hL, hs, h => by
    refine ⟨fun hB => ?_, fun hB => by simp [okTrZ] at hB⟩
    obtain ⟨o, x, ho, hst, hsp, ht⟩ := h
    simp only [okTrZ, ho, Bool.not_false, Bool.true_and, Bool.and_eq_true] at hB
    obtain ⟨⟨⟨⟨b1, b2⟩, b3⟩, b4⟩, b5⟩ := hB
    obtain ⟨w1, w2⟩ := lateWait_spec b4
    rw [show (Tr.q e i t).size + late.length = (t.size + late.length) + 1 by simp only [Tr.size]; omega]
    cases e with
    | true => exact anyZ_firstP ho w1 w2 _ listed fr σ (Region.free_spec ho b3) (by simpa using b2) (hsp rfl) hs hL ((anyZ_tree hl2 hln t _ _ _ (by simpa using hsz) ((noLate_set w1).2 hL) hs ht).1 b5)
    | false => exact anyZ_first ho w1 w2 _ listed fr σ (Region.free_spec ho b3) (by simpa using b2) (hst rfl) hs hL ((anyZ_tree hl2 hln t _ _ _ (by simpa using hsz) ((noLate_set w1).2 hL) hs ht).1 b5)
  | .s i t, listed, fr, σ, hsz, hL, hs, h => by
    obtain ⟨o, ho, hst⟩ := h
    have key : i < n → okTrZ md n ops late t (listed.setIfInBounds i true) false = true → stepA P N ops o (anyZ P N md n ops M0 K (t.size + late.length) (listed.setIfInBounds i true)) fr σ := fun hin b5 =>
      stepA_mono (fun fr' σ' h' => (anyZ_tree hl2 hln t _ fr' σ' (by simpa using hsz) ((noLate_set hin).2 hL) h'.1 h'.2).1 b5) hst
    constructor
    · intro hB
      simp only [okTrZ, ho, Bool.false_or, Bool.and_eq_true, decide_eq_true_eq] at hB
      obtain ⟨⟨⟨b1, b2⟩, b3⟩, b4⟩ := hB
      rw [show (Tr.s i t).size + late.length = (t.size + late.length) + 1 by simp only [Tr.size]; omega]
      refine ⟨fun _ => hs, fun e => (by rw [e] at b1; simp at b1), fun j hj => ?_⟩
      have hji : j = i := by simpa using List.all_eq_true.1 b2 j hj
      subst hji
      exact ⟨o, ho, key b3 b4⟩
    · intro hB j hj
      simp only [okTrZ, ho, Bool.true_or, Bool.true_and, Bool.and_eq_true, decide_eq_true_eq] at hB
      have hji : j = i := by simpa [Tr.heads] using hj
      subst hji
      exact ⟨o, ho, t.size, rfl, key hB.1 hB.2⟩
  | .both a b, listed, fr, σ, hsz, hL, hs, h => by
    obtain ⟨ha, hb⟩ := h
    have key : a.size = b.size → okTrZ md n ops late a listed true = true → okTrZ md n ops late b listed true = true → ∀ i ∈ (Tr.both a b).heads, ∃ o, ops[i]? = some o ∧ ∃ m, (Tr.both a b).size = m + 1 ∧ stepA P N ops o (anyZ P N md n ops M0 K (m + late.length) (listed.setIfInBounds i true)) fr σ := fun hsz' h1 h2 i hi => by
      simp only [Tr.heads, List.mem_append] at hi
      rcases hi with hi | hi
      · exact (anyZ_tree hl2 hln a listed fr σ hsz hL hs ha).2 h1 i hi
      · obtain ⟨o, e1, m, e2, e3⟩ := (anyZ_tree hl2 hln b listed fr σ hsz hL hs hb).2 h2 i hi
        exact ⟨o, e1, m, by simp only [Tr.size]; omega, e3⟩
    constructor
    · intro hB
      simp only [okTrZ, Bool.false_or, Bool.and_eq_true, decide_eq_true_eq] at hB
      obtain ⟨⟨⟨⟨b1, b2⟩, b3⟩, b4⟩, b5⟩ := hB
      have hpos : ∃ m, (Tr.both a b).size = m + 1 := by
        cases hr : Region.ready md ops listed with
        | nil => rw [hr] at b1; simp at b1
        | cons j r =>
          rw [hr] at b2
          have : (a.heads ++ b.heads).contains j = true := List.all_eq_true.1 b2 j (by simp)
          obtain ⟨o, _, m, hm, _⟩ := key b3 b4 b5 j (by simpa [Tr.heads] using this)
          exact ⟨m, hm⟩
      obtain ⟨m, hm⟩ := hpos
      rw [hm, show m + 1 + late.length = (m + late.length) + 1 by omega]
      refine ⟨fun _ => hs, fun e => (by rw [e] at b1; simp at b1), fun j hj => ?_⟩
      have : (a.heads ++ b.heads).contains j = true := List.all_eq_true.1 b2 j hj
      obtain ⟨o, e1, m', e2, e3⟩ := key b3 b4 b5 j (by simpa [Tr.heads] using this)
      have : m' = m := by omega
      subst this
      exact ⟨o, e1, e3⟩
    · intro hB
      simp only [okTrZ, Bool.true_or, Bool.true_and, Bool.and_eq_true, decide_eq_true_eq] at hB
      exact key hB.1.1 hB.1.2 hB.2
theorem treeZ_mono {K K' : Fr → Mem → Prop} (hK : ∀ fr σ, K fr σ → K' fr σ) : ∀ (t : Tr) (fr : Fr) (σ : Mem), treeZ P N ops M0 K t fr σ → treeZ P N ops M0 K' t fr σ
  | .done, _, _, h => hK _ _ h
  | .q _ _ t, _, _, h => by obtain ⟨o, x, h1, h2, h2', h3⟩ := h; exact ⟨o, x, h1, h2, h2', treeZ_mono hK t _ _ h3⟩
  | .s _ t, _, _, h => by obtain ⟨o, h1, h2⟩ := h; exact ⟨o, h1, stepA_mono (fun fr' σ' h' => ⟨h'.1, treeZ_mono hK t _ _ h'.2⟩) h2⟩
  | .both a b, _, _, h => ⟨treeZ_mono hK a _ _ h.1, treeZ_mono hK b _ _ h.2⟩
end

section
variable {P : Program} {N : Nat} {Q : Fr → Mem → Prop} {k : List Itm} {fr : Fr} {σ M0 : Mem} {all : Array Oper} {o : Oper} {l l2 : List Oper} {t : Tr}
/-- What is left of such a region: the tree of the first, then l2 in a row. -/
def EWz (M0 : Mem) (P : Program) (N : Nat) (Q : Fr → Mem → Prop) (k : List Itm) (l l2 : List Oper) (t : Tr) (fr : Fr) (σ : Mem) : Prop := treeZ P N l.toArray M0 (fun fr σ => EW P N Q (.ops false l2 l.toArray :: k) fr σ) t fr σ
@[congr] theorem EWz_congr {fr' : Fr} {σ' : Mem} (h2 : fr = fr') (h3 : σ = σ') : EWz M0 P N Q k l l2 t fr σ = EWz M0 P N Q k l l2 t fr' σ' := by rw [h2, h3]
/-- THE RULE: by each order of the tree. -/
theorem EW_regionY {id : Nat} {l : List Oper} (M0 : Mem) (n : Nat) (tr : Tr) (h1 : P.follows .mixedOrders = true)
    (h2 : (decide (n ≤ l.length) && decide (tr.size = n) && okTrZ .any n l.toArray ((List.range (l.length - n)).map (n + ·)) tr (Array.replicate l.toArray.size false) false) = true) (hs : Sub M0 σ) (h : (∀ i, σ.next ≤ i → σ.get i = none) → EWz M0 P N Q k l (l.drop n) tr fr σ) :
    EW P N Q (.code (.region id l.toArray true) :: k) fr σ := by
  simp only [Bool.and_eq_true, decide_eq_true_eq] at h2
  obtain ⟨⟨hn, ho⟩, h2⟩ := h2
  have hl2 : ((List.range (l.length - n)).map (n + ·)).map (fun i => l.toArray[i]?) = (l.drop n).map some := by
    apply List.ext_getElem?
    intro i
    simp only [List.getElem?_map, List.getElem?_toArray, List.getElem?_drop]
    by_cases hi : i < l.length - n
    · rw [List.getElem?_range hi]
      simp [show n + i < l.length by omega]
    · rw [List.getElem?_eq_none (by simpa using hi), List.getElem?_eq_none (by omega)]
      rfl
  by_cases hfin : ∀ i, σ.next ≤ i → σ.get i = none
  · refine .raw (fun fr' σ' => EW P N Q k fr' σ') (fun φ w a hr hf hd hn' => ?_) (fun _ _ h => h)
    have hcls := Cls.drew w
    have hany := anyA_of_anyZ _ _ _ _ ((anyZ_tree (md := .any) (P := P) (N := N) (n := n) (M0 := M0) (K := fun fr σ => EW P N Q k fr σ) hl2 (fun i hi => by obtain ⟨j, _, rfl⟩ := List.mem_map.1 hi; omega) tr (Array.replicate l.toArray.size false) fr σ (by simp)
      (fun j oj _ hj => by
        have hlt := (Array.getElem?_eq_some_iff.1 hj).1
        rw [Array.getD_eq_getD_getElem?, Array.getElem?_replicate, if_pos hlt]
        rfl) hs (treeZ_mono (fun fr' σ' h' => row_of_EW _ fr' σ' h') _ _ _ (h hfin))).1 h2)
    rw [ho, List.length_map, List.length_range, show n + (l.length - n) = l.toArray.size by simp; omega] at hany
    refine Code.wp_mono ?_ (wp_region_any (Q := fun e a' w' => e = .normal ∧ St φ σ w N (fun fr σ => EW P N Q k fr σ) a' w') h1
      (wpAny_of_anyA (φ0 := φ) (σ0 := σ) (w0 := w) l.toArray.size _ fr σ φ _ a (hr.cls hcls) (hf.step (Cls.step hcls)) hd hn' (Cls.step hcls) hany))
    rintro e a' w' ⟨rfl, φ', σ', fr', k1, k2, k3, k4, k5, k6⟩
    exact ⟨rfl, φ', σ', fr', k1, k2, k3, k4, k5, k6⟩
  · refine .raw (fun _ _ => False) (fun φ w a hr _ _ _ => absurd (fun i hi => ?_) hfin) (fun _ _ h => h.elim)
    cases hg : σ.get i with
    | none => rfl
    | some cs => exact absurd (hr.live i cs hg) (by omega)

/-- A call in it. -/
def EWzc (M0 : Mem) (P : Program) (N : Nat) (Q : Fr → Mem → Prop) (f : FuncId) (args : List AV) (dst : Option Tmp) (t : Tr) (l l2 : List Oper) (k : List Itm) (fr : Fr) (σ : Mem) : Prop :=
  ∃ R, CallA P f args σ R ∧ ∀ x σ', R x σ' → Sub M0 σ' ∧ EWz M0 P N Q k l l2 t (putA fr dst x) σ'
@[congr] theorem EWzc_congr {f f' : FuncId} {args args' : List AV} {dst : Option Tmp} {fr' : Fr} {σ' : Mem} (h0 : f = f') (h1 : args = args') (h2 : fr = fr') (h3 : σ = σ') :
    EWzc M0 P N Q f args dst t l l2 k fr σ = EWzc M0 P N Q f' args' dst t l l2 k fr' σ' := by rw [h0, h1, h2, h3]
theorem EWzc_pure {f : FuncId} {args : List AV} {D : AV} {dst : Option Tmp} (h : PureA P f args D) (hs : Sub M0 σ) (hk : EWz M0 P N Q k l l2 t (putA fr dst D) σ) : EWzc M0 P N Q f args dst t l l2 k fr σ :=
  ⟨_, h σ, fun x σ' ⟨h1, h2⟩ => by subst h1; subst h2; exact ⟨hs, hk⟩⟩
theorem EWzc_frz {f : FuncId} {xs ys : List AV} {D : AV} {dst : Option Tmp} (h : PureA P f ys D) (hD : rigidA D = true) (hx : FrzL 0 σ xs ys) (hs : Sub M0 σ) (hk : EWz M0 P N Q k l l2 t (putA fr dst D) σ) : EWzc M0 P N Q f xs dst t l l2 k fr σ :=
  ⟨_, callA_frz_args h hD hx, fun x σ' ⟨h1, h2⟩ => by subst h1; subst h2; exact ⟨hs, hk⟩⟩
def EWzq (n : NextA) (ok : Bool) (M0 : Mem) (P : Program) (N : Nat) (Q : Fr → Mem → Prop) (dst : Option Tmp) (t : Tr) (l l2 : List Oper) (k : List Itm) (fr : Fr) (σ : Mem) : Prop :=
  match n with
  | .ok x _ => ok = true ∧ EWz M0 P N Q k l l2 t (putA fr dst x) σ
  | _ => False
def EWzn (n : NextA) (ok : Bool) (M0 : Mem) (P : Program) (N : Nat) (Q : Fr → Mem → Prop) (dst : Option Tmp) (t : Tr) (l l2 : List Oper) (k : List Itm) (fr : Fr) : Mem → Prop := fun σ =>
  match n with
  | .ok x σ' => ok = true ∧ Sub M0 σ' ∧ EWz M0 P N Q k l l2 t (putA fr dst x) σ'
  | .call f args => ok = true ∧ EWzc M0 P N Q f args dst t l l2 k fr σ
  | .fail => False
def EWzg (g : GuardA) (ok q : Bool) (M0 : Mem) (P : Program) (N : Nat) (Q : Fr → Mem → Prop) (o : Oper) (t : Tr) (l l2 : List Oper) (k : List Itm) (fr : Fr) (σ : Mem) : Prop :=
  if q then (match wantG g with
    | some true => EWzq (evOp P o.op (evalA fr) M0) (ok && quietOp o.op) M0 P N Q o.dst t l l2 k fr σ
    | some false => ok = true ∧ EWz M0 P N Q k l l2 t (putA fr o.dst .undef) σ
    | none => False)
  else match wantG g with
    | some true => EWzn (evOp P o.op (evalA fr) σ) ok M0 P N Q o.dst t l l2 k fr σ
    | some false => ok = true ∧ Sub M0 σ ∧ EWz M0 P N Q k l l2 t (putA fr o.dst .undef) σ
    | none => False
/-- The operation with a number. -/
def EWzo (q : Bool) (o : Option Oper) (M0 : Mem) (P : Program) (N : Nat) (Q : Fr → Mem → Prop) (t : Tr) (l l2 : List Oper) (k : List Itm) (fr : Fr) (σ : Mem) : Prop :=
  match o with
  | some o => EWzg (guardA l.toArray o fr) (dstOk N o.dst) q M0 P N Q o t l l2 k fr σ
  | none => False
@[congr] theorem EWzg_congr {g g' : GuardA} {ok ok' q q' : Bool} {fr' : Fr} {σ' : Mem} (h0 : g = g') (h1 : ok = ok') (hq : q = q') (h2 : fr = fr') (h3 : σ = σ') :
    EWzg g ok q M0 P N Q o t l l2 k fr σ = EWzg g' ok' q' M0 P N Q o t l l2 k fr' σ' := by rw [h0, h1, hq, h2, h3]
@[congr] theorem EWzq_congr {n n' : NextA} {ok ok' : Bool} {dst : Option Tmp} {fr' : Fr} {σ' : Mem} (h0 : n = n') (h1 : ok = ok') (h2 : fr = fr') (h3 : σ = σ') :
    EWzq n ok M0 P N Q dst t l l2 k fr σ = EWzq n' ok' M0 P N Q dst t l l2 k fr' σ' := by rw [h0, h1, h2, h3]
@[congr] theorem EWzn_congr {n n' : NextA} {ok ok' : Bool} {dst : Option Tmp} {fr' : Fr} {σ' : Mem} (h0 : n = n') (h1 : ok = ok') (h2 : fr = fr') (h3 : σ = σ') :
    EWzn n ok M0 P N Q dst t l l2 k fr σ = EWzn n' ok' M0 P N Q dst t l l2 k fr' σ' := by rw [h0, h1, h2, h3]
@[congr] theorem EWzo_congr {q : Bool} {o o' : Option Oper} {fr' : Fr} {σ' : Mem} (h0 : o = o') (h2 : fr = fr') (h3 : σ = σ') :
    EWzo q o M0 P N Q t l l2 k fr σ = EWzo q o' M0 P N Q t l l2 k fr' σ' := by rw [h0, h2, h3]
theorem EWz_done : EWz M0 P N Q k l l2 .done fr σ = EW P N Q (.ops false l2 l.toArray :: k) fr σ := rfl
theorem EWz_both (a b : Tr) : EWz M0 P N Q k l l2 (.both a b) fr σ = (EWz M0 P N Q k l l2 a fr σ ∧ EWz M0 P N Q k l l2 b fr σ) := rfl
theorem EWz_q (i : Nat) : EWz M0 P N Q k l l2 (.q false i t) fr σ = EWzo true (l[i]?) M0 P N Q t l l2 k fr σ := by
  apply propext
  unfold EWz
  rw [treeZ]
  simp only [List.getElem?_toArray]
  cases ho : l[i]? with
  | none => exact ⟨(fun ⟨o, x, h, _⟩ => by cases h), fun h => h.elim⟩
  | some o =>
    constructor
    · rintro ⟨o', x, he, hst, _, ht⟩
      cases he
      obtain ⟨h0, ⟨h1, h2, τ, h3⟩ | ⟨h1, rfl⟩⟩ := hst trivial
      · have h1' : wantG (guardA l.toArray o fr) = some true := h1
        simp only [EWzo, EWzg, if_true, h1', EWzq, h3, h0, h2, Bool.and_self, true_and]
        exact ht
      · have h1' : wantG (guardA l.toArray o fr) = some false := h1
        simp only [EWzo, EWzg, if_true, h1', h0, true_and]
        exact ht
    · intro h
      simp only [EWzo, EWzg, if_true] at h
      cases hw : wantG (guardA l.toArray o fr) with
      | none => rw [hw] at h; exact h.elim
      | some b =>
        rw [hw] at h
        cases b with
        | true =>
          simp only [EWzq] at h
          split at h
          · rename_i x τ he
            simp only [Bool.and_eq_true] at h
            exact ⟨o, x, rfl, fun _ => ⟨h.1.1, .inl ⟨hw, h.1.2, τ, he⟩⟩, (fun e => by cases e), h.2⟩
          · exact h.elim
        | false => exact ⟨o, _, rfl, fun _ => ⟨h.1, .inr ⟨hw, rfl⟩⟩, (fun e => by cases e), h.2⟩
/-- A call that hands back data, taken first. -/
def EWzp (m : Mem → NextA) (g : GuardA) (ok : Bool) (M0 : Mem) (P : Program) (N : Nat) (Q : Fr → Mem → Prop) (dst : Option Tmp) (t : Tr) (l l2 : List Oper) (k : List Itm) (fr : Fr) (σ : Mem) : Prop :=
  ∃ f args x, (∀ τ, m τ = .call f args) ∧ wantG g = some true ∧ ok = true ∧ PureA P f args x ∧ EWz M0 P N Q k l l2 t (putA fr dst x) σ
def EWzpo (o : Option Oper) (M0 : Mem) (P : Program) (N : Nat) (Q : Fr → Mem → Prop) (t : Tr) (l l2 : List Oper) (k : List Itm) (fr : Fr) (σ : Mem) : Prop :=
  match o with
  | some o => EWzp (fun τ => evOp P o.op (evalA fr) τ) (guardA l.toArray o fr) (dstOk N o.dst) M0 P N Q o.dst t l l2 k fr σ
  | none => False
@[congr] theorem EWzp_congr {m m' : Mem → NextA} {g g' : GuardA} {ok ok' : Bool} {dst : Option Tmp} {fr' : Fr} {σ' : Mem} (hm : ∀ τ, m τ = m' τ) (h0 : g = g') (h1 : ok = ok') (h2 : fr = fr') (h3 : σ = σ') :
    EWzp m g ok M0 P N Q dst t l l2 k fr σ = EWzp m' g' ok' M0 P N Q dst t l l2 k fr' σ' := by rw [funext hm, h0, h1, h2, h3]
@[congr] theorem EWzpo_congr {o o' : Option Oper} {fr' : Fr} {σ' : Mem} (h0 : o = o') (h2 : fr = fr') (h3 : σ = σ') :
    EWzpo o M0 P N Q t l l2 k fr σ = EWzpo o' M0 P N Q t l l2 k fr' σ' := by rw [h0, h2, h3]
theorem EWz_p (i : Nat) : EWz M0 P N Q k l l2 (.q true i t) fr σ = EWzpo (l[i]?) M0 P N Q t l l2 k fr σ := by
  apply propext
  unfold EWz
  rw [treeZ]
  simp only [List.getElem?_toArray]
  cases ho : l[i]? with
  | none => exact ⟨(fun ⟨o, x, h, _⟩ => by cases h), fun h => h.elim⟩
  | some o =>
    constructor
    · rintro ⟨o', x, he, _, hsp, ht⟩
      cases he
      obtain ⟨a, b, f, args, c, d⟩ := hsp trivial
      exact ⟨f, args, x, c, b, a, d, ht⟩
    · rintro ⟨f, args, x, c, b, a, d, ht⟩
      exact ⟨o, x, rfl, (fun e => by cases e), fun _ => ⟨a, b, f, args, c, d⟩, ht⟩
theorem EWzpo_some (o : Oper) : EWzpo (some o) M0 P N Q t l l2 k fr σ = EWzp (fun τ => evOp P o.op (evalA fr) τ) (guardA l.toArray o fr) (dstOk N o.dst) M0 P N Q o.dst t l l2 k fr σ := rfl
theorem EWzp_pure {f : FuncId} {args : List AV} {D : AV} {dst : Option Tmp} (h : PureA P f args D) (hk : EWz M0 P N Q k l l2 t (putA fr dst D) σ) : EWzp (fun _ => .call f args) .run true M0 P N Q dst t l l2 k fr σ := ⟨f, args, D, fun _ => rfl, rfl, rfl, h, hk⟩
theorem EWz_s (i : Nat) : EWz M0 P N Q k l l2 (.s i t) fr σ = EWzo false (l[i]?) M0 P N Q t l l2 k fr σ := by
  apply propext
  unfold EWz
  rw [treeZ]
  simp only [List.getElem?_toArray]
  cases ho : l[i]? with
  | none => exact ⟨(fun ⟨o, h, _⟩ => by cases h), fun h => h.elim⟩
  | some o =>
    simp only [Option.some.injEq, exists_eq_left', EWzo, EWzg, Bool.false_eq_true, if_false]
    unfold stepA wantA
    cases hw : wantG (guardA l.toArray o fr) with
    | none => exact Iff.rfl
    | some b =>
      cases b with
      | false => exact Iff.rfl
      | true =>
        simp only [runA, EWzn, EWzc]
        cases evOp P o.op (evalA fr) σ <;> exact Iff.rfl
theorem EWzo_some (q : Bool) (o : Oper) : EWzo q (some o) M0 P N Q t l l2 k fr σ = EWzg (guardA l.toArray o fr) (dstOk N o.dst) q M0 P N Q o t l l2 k fr σ := rfl
theorem EWzg_q (g : GuardA) (ok : Bool) (h : wantG g = some true) : EWzg g ok true M0 P N Q o t l l2 k fr σ = EWzq (evOp P o.op (evalA fr) M0) (ok && quietOp o.op) M0 P N Q o.dst t l l2 k fr σ := by unfold EWzg; simp only [if_true, h]
theorem EWzg_n (g : GuardA) (ok : Bool) (h : wantG g = some true) : EWzg g ok false M0 P N Q o t l l2 k fr σ = EWzn (evOp P o.op (evalA fr) σ) ok M0 P N Q o.dst t l l2 k fr σ := by unfold EWzg; simp only [Bool.false_eq_true, if_false, h]
theorem EWzg_off (g : GuardA) (h : wantG g = some false) : EWzg g true true M0 P N Q o t l l2 k fr σ = EWz M0 P N Q k l l2 t (putA fr o.dst .undef) σ := by unfold EWzg; simp [h]
theorem EWzg_run_q (ok : Bool) : EWzg .run ok true M0 P N Q o t l l2 k fr σ = EWzq (evOp P o.op (evalA fr) M0) (ok && quietOp o.op) M0 P N Q o.dst t l l2 k fr σ := EWzg_q _ _ rfl
theorem EWzg_yes_q (ok : Bool) : EWzg (.test true true) ok true M0 P N Q o t l l2 k fr σ = EWzq (evOp P o.op (evalA fr) M0) (ok && quietOp o.op) M0 P N Q o.dst t l l2 k fr σ := EWzg_q _ _ rfl
theorem EWzg_no_q (ok : Bool) : EWzg (.test false false) ok true M0 P N Q o t l l2 k fr σ = EWzq (evOp P o.op (evalA fr) M0) (ok && quietOp o.op) M0 P N Q o.dst t l l2 k fr σ := EWzg_q _ _ rfl
theorem EWzg_skip_q : EWzg .skip true true M0 P N Q o t l l2 k fr σ = EWz M0 P N Q k l l2 t (putA fr o.dst .undef) σ := EWzg_off _ rfl
theorem EWzg_off_q : EWzg (.test true false) true true M0 P N Q o t l l2 k fr σ = EWz M0 P N Q k l l2 t (putA fr o.dst .undef) σ := EWzg_off _ rfl
theorem EWzg_off_q' : EWzg (.test false true) true true M0 P N Q o t l l2 k fr σ = EWz M0 P N Q k l l2 t (putA fr o.dst .undef) σ := EWzg_off _ rfl
theorem EWzg_run_n (ok : Bool) : EWzg .run ok false M0 P N Q o t l l2 k fr σ = EWzn (evOp P o.op (evalA fr) σ) ok M0 P N Q o.dst t l l2 k fr σ := EWzg_n _ _ rfl
theorem EWzq_ok (x : AV) (τ : Mem) (dst : Option Tmp) : EWzq (.ok x τ) true M0 P N Q dst t l l2 k fr σ = EWz M0 P N Q k l l2 t (putA fr dst x) σ := by simp [EWzq]
theorem EWzn_ok (x : AV) (σ' : Mem) (dst : Option Tmp) (hs : Sub M0 σ') : EWzn (.ok x σ') true M0 P N Q dst t l l2 k fr σ = EWz M0 P N Q k l l2 t (putA fr dst x) σ' := by simp [EWzn, hs]
theorem EWzn_call (f : FuncId) (args : List AV) (dst : Option Tmp) : EWzn (.call f args) true M0 P N Q dst t l l2 k fr σ = EWzc M0 P N Q f args dst t l l2 k fr σ := by simp [EWzn]
theorem sub_alloc (e : TypeId) (cs : List AV) (h : Sub M0 σ) (hn : M0.get σ.next = none) : Sub M0 (σ.alloc e cs) = True := eq_true fun i cs' hi => by
  rw [get_alloc]
  split
  · rename_i hin; rw [hin, hn] at hi; cases hi
  · exact h i cs' hi
theorem sub_killed (o : Nat) (h : Sub M0 σ) (hn : M0.get o = none) : Sub M0 (σ.kill o) = True := eq_true fun i cs' hi => by
  rw [get_kill]
  split
  · rename_i hin; rw [hin, hn] at hi; cases hi
  · exact h i cs' hi
theorem sub_set (o : Nat) (cs : List AV) (h : Sub M0 σ) (hn : M0.get o = none) : Sub M0 (σ.set o cs) = True := eq_true fun i cs' hi => by
  rw [get_set]
  split
  · rename_i hin; rw [hin, hn] at hi; cases hi
  · exact h i cs' hi
theorem Kept.sub {τ : Mem} (hfin : ∀ i, σ.next ≤ i → σ.get i = none) (k : Kept σ τ) : Sub σ τ := fun i cs hi => by
  by_cases hl : i < σ.next
  · rw [(k i hl).1]; exact hi
  · rw [hfin i (by omega)] at hi; cases hi
theorem sub_self_kill (o : Nat) : Sub (σ.kill o) σ = True := eq_true (sub_kill o (fun _ _ h => h))
end
attribute [go_sem] EWz_done EWz_both EWz_q EWz_p EWzpo_some EWz_s EWzo_some EWzg_run_q EWzg_yes_q EWzg_no_q EWzg_skip_q EWzg_off_q EWzg_off_q' EWzg_run_n EWzq_ok EWzn_ok EWzn_call sub_alloc sub_killed sub_self_kill
end Go.Ew
namespace Go.Ew
open Go Go.RowKit

/-- Values without data of others. -/
inductive Solid : AV → Prop
  | lit (v : Value) : Solid (.lit v)
  | nils : Solid .nils
  | arr (id off n sz : Nat) : Solid (.arr id off n sz)
  | agg (xs : List AV) : (∀ x ∈ xs, Solid x) → Solid (.agg xs)
  | tup (xs : List AV) : (∀ x ∈ xs, Solid x) → Solid (.tup xs)
def flatA : AV → Bool
  | .lit _ => true
  | .nils => true
  | _ => false
section
variable {P : Program} {φ : Nat → Nat} {σ τ : Mem} {w : World}
theorem Rv.solid {n : Nat} {L L' : Nat → Prop} {x : AV} {v : Value} (h : Rv φ n L w x v) (hs : Solid x) : Rv φ n L' w x v := by
  induction h with
  | lit v => exact .lit v
  | nils => exact .nils
  | imm0 A c hc => cases hs
  | imm m cs ad c vs h1 _ h3 h4 h5 h6 ih => cases hs
  | arr id off m sz c h1 h2 h3 h4 => exact .arr id off m sz c h1 h2 h3 h4
  | ptr id off h1 => cases hs
  | iptr cs ad vs h1 _ h3 h4 ih => cases hs
  | fn f xs vs h1 _ ih => cases hs
  | agg xs vs h1 _ h3 ih => cases hs with | agg _ k => exact .agg xs vs h1 (fun j x v hx hv => ih j x v hx hv (k x (List.mem_of_getElem? hx))) h3
  | tup xs vs h1 _ ih => cases hs with | tup _ k => exact .tup xs vs h1 (fun j x v hx hv => ih j x v hx hv (k x (List.mem_of_getElem? hx)))
theorem flat_solid {x : AV} (h : flatA x = true) : Solid x := by
  cases x <;> simp [flatA] at h
  · exact .lit _
  · exact .nils
/-- The caller's objects, with the plain ones that a call has made. -/
def joinM (σ τ : Mem) : Mem := ⟨τ.next, fun i => if i < σ.next then σ.ty i else τ.ty i, fun i => if i < σ.next then σ.get i else (τ.get i).bind fun cs => if cs.all flatA then some cs else none⟩
theorem callA_own_args {f : FuncId} {xs ys : List AV} {O : Nat → AV → Mem → Prop} (h : ∀ σ, CallA P f ys σ fun x τ => O σ.next x τ ∧ Kept σ τ ∧ σ.next ≤ τ.next) (hx : FrzL 0 σ xs ys)
    (hO : ∀ n x τ, O n x τ → Solid x ∧ ∀ τ', (∀ i cs, n ≤ i → τ.get i = some cs → cs.all flatA = true → τ'.get i = some cs ∧ τ'.ty i = τ.ty i) → τ'.next = τ.next → O n x τ') : CallA P f xs σ fun x τ => O σ.next x τ ∧ Kept σ τ ∧ σ.next ≤ τ.next := by
  refine ⟨(h σ).1, fun φ w vs hr hv => ?_⟩
  obtain ⟨σd, hσd⟩ : ∃ σd : Mem, σd = ⟨σ.next, σ.ty, fun _ => none⟩ := ⟨_, rfl⟩
  have hdn : σd.next = σ.next := by rw [hσd]
  have hdead : ∀ b, ¬ Live φ σd b := fun b ⟨id, h, _⟩ => by rw [hσd] at h; simp at h
  have hr0 : RelM φ σd w := ⟨fun id cs h => (by rw [hσd] at h; cases h), fun id cs h => (by rw [hσd] at h; cases h), fun i j hi _ _ => (by rw [hσd] at hi; cases hi)⟩
  have hv0 : RvL φ σd w ys vs := by
    refine ⟨by rw [← hx.1]; exact hv.1, fun j y v hy hvj => ?_⟩
    have hj : j < xs.length := by rw [hx.1]; exact (List.getElem?_eq_some_iff.1 hy).1
    have h1 := hv.2 j _ v (List.getElem?_eq_getElem hj) hvj
    have h2 := rv_frz (n0 := 0) (L := Live φ σd) hr (fun b hb => absurd hb (hdead b)) (hx.2 j _ y (List.getElem?_eq_getElem hj) hy) v h1
    exact h2.more (Nat.zero_le _)
  refine ((h σd).2 φ w vs hr0 hv0).mono ?_
  rintro e w' ⟨v, x, φ', τ, rfl, k1, k2, k3, k4, k5, k6⟩
  rw [hdn] at k4 k6
  obtain ⟨s1, s2⟩ := hO _ _ _ k4
  have jl : ∀ i, i < σ.next → (joinM σ τ).get i = σ.get i := fun i hi => by simp [joinM, hi]
  have jr : ∀ i cs, (joinM σ τ).get i = some cs → ¬ i < σ.next → τ.get i = some cs ∧ cs.all flatA = true := fun i cs hi hn => by
    simp only [joinM, hn, if_false] at hi
    cases hg : τ.get i with
    | none => rw [hg] at hi; cases hi
    | some cs' =>
      rw [hg] at hi
      simp only [Option.bind_some] at hi
      split at hi
      · cases hi; exact ⟨rfl, by assumption⟩
      · cases hi
  have hφ : ∀ i, i < σ.next → φ' i = φ i := fun i hi => k3.phi i (by rw [hdn]; exact hi)
  have st : Step φ σ w φ' (joinM σ τ) w' := by
    refine ⟨k6, hφ, fun b ⟨i, h1, h2⟩ => ?_, k3.size, fun b hb _ => k3.same b hb (hdead b), k3.shape, k3.os, k3.tape, k3.output⟩
    obtain ⟨cs, hcs⟩ := Option.isSome_iff_exists.1 h1
    by_cases hi : i < σ.next
    · rw [jl i hi] at h1
      exact .inl ⟨i, h1, by rw [← hφ i hi]; exact h2⟩
    · rcases k3.fresh b ⟨i, by rw [(jr i cs hcs hi).1]; rfl, h2⟩ with h | h
      · exact absurd h (hdead b)
      · exact .inr h
  have jg : ∀ i cs, σ.next ≤ i → τ.get i = some cs → cs.all flatA = true → (joinM σ τ).get i = some cs := fun i cs hi hg hf => by
    simp only [joinM, show ¬ i < σ.next by omega, if_false, hg, Option.bind_some]
    rw [if_pos hf]
  have jt : ∀ i, ¬ i < σ.next → (joinM σ τ).ty i = τ.ty i := fun i hi => by simp [joinM, hi]
  refine ⟨v, x, φ', joinM σ τ, rfl, ⟨fun i cs hi => ?_, fun i cs hi => ?_, fun i j hi hj e => ?_⟩, ?_, st, s2 (joinM σ τ) (fun i cs hi hg hf => ⟨jg i cs hi hg hf, jt i (by omega)⟩) rfl, fun i hi => ⟨jl i hi, by simp [joinM, hi]⟩, k6⟩
  · by_cases hn : i < σ.next
    · exact Nat.lt_of_lt_of_le hn k6
    · exact k1.live i cs (jr i cs hi hn).1
  · by_cases hn : i < σ.next
    · rw [jl i hn] at hi
      obtain ⟨cur, g1, g2, g3⟩ := hr.cell i cs hi
      refine ⟨cur, ?_, g2, fun j x hx => ?_⟩
      · rw [hφ i hn, k3.same (φ i) (Array.getElem?_eq_some_iff.1 g1).1 (hdead _), show (joinM σ τ).ty i = σ.ty i by simp [joinM, hn]]; exact g1
      · obtain ⟨u, g4, g5, g6⟩ := g3 j x hx
        exact ⟨u, g4, g5, g6.step st⟩
    · obtain ⟨hg, hf⟩ := jr i cs hi hn
      obtain ⟨cur, g1, g2, g3⟩ := k1.cell i cs hg
      refine ⟨cur, by rw [jt i hn]; exact g1, g2, fun j x hx => ?_⟩
      obtain ⟨u, g4, g5, g6⟩ := g3 j x hx
      exact ⟨u, g4, g5, g6.solid (flat_solid (List.all_eq_true.1 hf x (List.mem_of_getElem? hx)))⟩
  · obtain ⟨ci, hci⟩ := Option.isSome_iff_exists.1 hi
    obtain ⟨cj, hcj⟩ := Option.isSome_iff_exists.1 hj
    by_cases hin : i < σ.next
    · by_cases hjn : j < σ.next
      · rw [jl i hin] at hi; rw [jl j hjn] at hj
        exact hr.inj i j hi hj (by rw [← hφ i hin, ← hφ j hjn]; exact e)
      · exfalso
        rw [jl i hin] at hci
        obtain ⟨cur, g1, _⟩ := hr.cell i ci hci
        have hlt := (Array.getElem?_eq_some_iff.1 g1).1
        rcases k3.fresh (φ' j) ⟨j, by rw [(jr j cj hcj hjn).1]; rfl, rfl⟩ with h | h
        · exact hdead _ h
        · rw [hφ i hin] at e; omega
    · by_cases hjn : j < σ.next
      · exfalso
        rw [jl j hjn] at hcj
        obtain ⟨cur, g1, _⟩ := hr.cell j cj hcj
        have hlt := (Array.getElem?_eq_some_iff.1 g1).1
        rcases k3.fresh (φ' i) ⟨i, by rw [(jr i ci hci hin).1]; rfl, rfl⟩ with h | h
        · exact hdead _ h
        · rw [hφ j hjn] at e; omega
      · exact k1.inj i j (by rw [(jr i ci hci hin).1]; rfl) (by rw [(jr j cj hcj hjn).1]; rfl) e
  · exact k2.solid s1
theorem killAll_next (ids : List Nat) : (killAll σ ids).next = σ.next := rfl
theorem killAll_ty (ids : List Nat) : (killAll σ ids).ty = σ.ty := rfl
theorem killAll_get' (ids : List Nat) (i : Nat) : (killAll σ ids).get i = if i ∈ ids then none else σ.get i := rfl
theorem sub_killAll {M0 : Mem} (ids : List Nat) (h : Sub M0 σ) (hn : ∀ i ∈ ids, M0.get i = none) : Sub M0 (killAll σ ids) = True := eq_true fun i cs' hi => by
  rw [killAll_get']
  split
  · rename_i hin; rw [hn i hin] at hi; cases hi
  · exact h i cs' hi
theorem ArrAt.re {n0 : Nat} {v : AV} {e : TypeId} {cs : List AV} {n sz : Nat} (h : ArrAt n0 σ v e cs n sz) (hf : cs.all flatA = true) (hg : ∀ i cs, n0 ≤ i → σ.get i = some cs → cs.all flatA = true → τ.get i = some cs ∧ τ.ty i = σ.ty i) (hn : τ.next = σ.next) : ArrAt n0 τ v e cs n sz := by
  rcases h with h | ⟨id, h1, h2, h3, h4, h5⟩
  · exact .inl h
  · obtain ⟨a, b⟩ := hg id cs h4 h2 hf
    exact .inr ⟨id, h1, a, by rw [b]; exact h3, h4, by rw [hn]; exact h5⟩
theorem arrAt_solid {n0 : Nat} {v : AV} {e : TypeId} {cs : List AV} {n sz : Nat} (h : ArrAt n0 σ v e cs n sz) : Solid v := by
  rcases h with ⟨rfl, _⟩ | ⟨id, rfl, _⟩
  · exact .nils
  · exact .arr ..
theorem flat_map {α : Type} {f : α → AV} (hf : ∀ a, flatA (f a) = true) (l : List α) : (l.map f).all flatA = true := List.all_eq_true.2 fun x hx => by obtain ⟨a, _, rfl⟩ := List.mem_map.1 hx; exact hf a
theorem pureA_of_own' {f : FuncId} {args : List AV} {D : AV} {O : Nat → AV → Mem → Prop} (h : ∀ σ, CallA P f args σ fun x τ => O σ.next x τ ∧ Kept σ τ ∧ σ.next ≤ τ.next) (hR : ∀ n x τ, O n x τ → Frz n τ x D) : PureA P f args D := fun σ => callA_frz ((h σ).mono fun x τ hx => ⟨hR _ x τ hx.1, hx.2.1.keeps⟩)
end
attribute [go_sem] killAll_next killAll_ty
end Go.Ew
namespace Go.Ew
open Go Go.RowKit

/-- Where a number stands in a list. -/
def pos : List Nat → Nat → Option Nat
  | [], _ => none
  | j :: l, i => if i = j then some 0 else (pos l i).map (· + 1)
/-- New numbers in a value. -/
def ren (n : Nat) (ids : List Nat) : AV → AV
  | .ptr i o => match pos ids i with | some k => .ptr (n + k) o | none => .ptr i o
  | .arr i o m s => match pos ids i with | some k => .arr (n + k) o m s | none => .arr i o m s
  | x => x
section
variable {P : Program} {φ : Nat → Nat} {σ τ : Mem} {w : World}
/-! ### Boxes with slots -/
/-- A cell of an object that is written through a pointer: data, or an own slice. -/
inductive Slot where
  | dat (x : AV)
  | own (e : TypeId) (cells : List AV) (n sz : Nat)
/-- A cell that no number stands in. -/
def noId (x : AV) : Prop := ∀ n ids, ren n ids x = x
/-- The cells of slots are such. -/
def Slot.ok : Slot → Prop
  | .dat x => noId x ∧ idOf x = none
  | .own _ cells _ _ => ∀ x ∈ cells, noId x
/-! ### Single boxes -/
end

/-! ### A region in parts -/
section
variable {P : Program} {N : Nat} {Q : Fr → Mem → Prop} {k : List Itm} {fr : Fr} {σ : Mem}
theorem SW.region0 {id : Nat} {ops : Array Oper} (h : SW P N Q (.ops false ops.toList ops :: k) fr σ) : SW P N Q (.code (.region id ops false) :: k) fr σ := fun φ0 σ0 w0 φ w a hr hf hd hn hs => by
  have := h φ0 σ0 w0 φ w a hr hf hd hn hs
  simp only [LK]
  exact wp_region_list (by simpa [LK] using this)
theorem SW.opsEnd {l : List Oper} {all : Array Oper} (hl : l = []) (h : SW P N Q k fr σ) : SW P N Q (.ops false l all :: k) fr σ := fun φ0 σ0 w0 φ w a hr hf hd hn hs => by
  subst hl
  have := h φ0 σ0 w0 φ w a hr hf hd hn hs
  simpa [LK, wpList] using this
theorem operWp_mono2 {o : Oper} {a : Act} {w : World} {K K' : Act → World → Prop} {Q1 Q2 : Exit → Act → World → Prop} (h : ∀ a w, K a w → K' a w) (hq : ∀ e a w, e ≠ Exit.normal → Q1 e a w → Q2 e a w)
    (hh : o.wp P a w K Q1) : o.wp P a w K' Q2 := by
  unfold Oper.wp at *
  generalize (execOp a.eval o).run P w = r at *
  cases r with
  | ok n w' =>
    cases n <;> simp only [Oper.upon] at hh ⊢ <;>
      first
        | exact h _ _ hh
        | exact Calls.mono hh (fun e w'' he => by cases e <;> first | exact h _ _ he | exact hq _ _ _ (by simp) he | exact (show LetsOut Q2 from let ⟨a, w, hl⟩ := (show LetsOut Q1 from he); ⟨a, w, hq _ _ _ (by simp) hl⟩) | exact he)
        | exact Rows.mono hh (fun _ _ he => h _ _ he)
  | halt x w' => cases x <;> simp only [Oper.upon] at hh ⊢ <;> first | exact hq _ _ _ (by simp) hh | exact hh
theorem wpList_app {all : Array Oper} {Q1 Q2 : Exit → Act → World → Prop} {l2 : List Oper} (hn : ∀ a w, Q1 .normal a w → wpList P all Q2 l2 a w) (hq : ∀ e a w, e ≠ Exit.normal → Q1 e a w → Q2 e a w) :
    ∀ (l1 : List Oper) (a : Act) (w : World), wpList P all Q1 l1 a w → wpList P all Q2 (l1 ++ l2) a w
  | [], a, w, h => hn a w h
  | o :: l1, a, w, h => by
    simp only [wpList, List.cons_append] at h ⊢
    split
    · rename_i hw
      rw [if_pos hw] at h
      exact h.imp (operWp_mono2 (fun a w h => wpList_app hn hq l1 a w h) hq) fun ⟨h1, a', w', h2⟩ => ⟨h1, a', w', hq _ _ _ (by simp) h2⟩
    · rename_i hw
      rw [if_neg hw] at h
      exact wpList_app hn hq l1 _ w h
/-- A part of a region by itself. -/
theorem SW.opsCut {l : List Oper} {all : Array Oper} (n : Nat) (M : Fr → Mem → Prop) (h : EW P N (fun _ _ => False) [.ops false (l.take n) all, .goal M] fr σ) (hM : ∀ fr' σ', M fr' σ' → SW P N Q (.ops false (l.drop n) all :: k) fr' σ') :
    SW P N Q (.ops false l all :: k) fr σ := fun φ0 σ0 w0 φ w a hr hf hd hn hs => by
  have h1 := sound (φ0 := φ0) (σ0 := σ0) (w0 := w0) h φ w a hr hf hd hn hs
  simp only [LK, Bool.false_eq_true, if_false] at h1 ⊢
  rw [← List.take_append_drop n l]
  refine wpList_app (fun a w he => ?_) (fun e a w hne he => ?_) _ a w h1
  · obtain ⟨φ, σ, fr, k1, k2, k3, k4, k5, k6⟩ := he
    have := hM fr σ k6 φ0 σ0 w0 φ w a k1 k2 k3 k4 k5
    simpa only [LK, Bool.false_eq_true, if_false] using this
  · cases e with
    | normal => exact absurd rfl hne
    | ret => obtain ⟨φ, σ, fr, k1, k2, k3, k4, k5, k6⟩ := he; exact k6.elim
    | _ => exact he.elim
theorem SW.nil (h : Q fr σ) : SW P N Q [] fr σ := fun _ _ _ φ _ _ hr hf hd hn hs => ⟨φ, _, _, hr, hf, hd, hn, hs, h⟩
/-- The rules again, their middle states behind a name that simp leaves alone. -/
theorem SW.regX {id : Nat} {ops : Array Oper} {d : Bool} (K : Fr → Mem → Prop) (h : ∀ M : Fr → Mem → Prop, (∀ f t, M f t ↔ K f t) → EW P N (fun _ _ => False) [.code (.region id ops d), .goal M] fr σ) (hM : ∀ f t, K f t → SW P N Q k f t) : SW P N Q (.code (.region id ops d) :: k) fr σ :=
  .reg K (h K fun _ _ => Iff.rfl) hM
theorem SW.opsX {l : List Oper} {all : Array Oper} (n : Nat) (K : Fr → Mem → Prop) (h : ∀ M : Fr → Mem → Prop, (∀ f t, M f t ↔ K f t) → EW P N (fun _ _ => False) [.ops false (l.take n) all, .goal M] fr σ) (hM : ∀ f t, K f t → SW P N Q (.ops false (l.drop n) all :: k) f t) :
    SW P N Q (.ops false l all :: k) fr σ := .opsCut n K (h K fun _ _ => Iff.rfl) hM
end
end Go.Ew
namespace Go.Ew
open Go Go.RowKit

/-- v: a slice of the call's own whose elements vs are slices of its own: the rows (elements of one cell, by C). -/
structure GridAt {α : Type} (n0 : Nat) (σ : Mem) (v : AV) (vs : List AV) (eo ei : TypeId) (C : α → AV) (rows : List (List α)) : Prop where
  out : ArrAt n0 σ v eo vs vs.length 1
  len : vs.length = rows.length
  row : ∀ (j : Nat) (u : AV) (r : List α), vs[j]? = some u → rows[j]? = some r → ArrAt n0 σ u ei (r.map C) r.length 1
  far : ∀ u ∈ vs, Apart v u
  dis : ∀ (i j : Nat) (u w : AV), i ≠ j → vs[i]? = some u → vs[j]? = some w → Apart u w
/-- The numbers of its objects. -/
def InG (v : AV) (vs : List AV) (i : Nat) : Prop := idOf v = some i ∨ ∃ u ∈ vs, idOf u = some i
section
variable {α : Type} {n0 : Nat} {σ τ : Mem} {v v' : AV} {vs : List AV} {eo ei : TypeId} {C : α → AV} {rows : List (List α)}
theorem GridAt.nil : GridAt n0 σ .nils [] eo ei C ([] : List (List α)) :=
  ⟨.inl ⟨rfl, rfl, rfl⟩, rfl, (fun j u r h => by simp at h), (fun u h => by cases h), (fun i j u w _ h => by simp at h)⟩
theorem GridAt.lt (h : GridAt n0 σ v vs eo ei C rows) {i : Nat} (hi : InG v vs i) : n0 ≤ i ∧ i < σ.next := by
  rcases hi with hi | ⟨u, hu, hi⟩
  · exact arrAt_lt h.out i hi
  · obtain ⟨j, hj⟩ := List.mem_iff_getElem?.1 hu
    have hl : j < rows.length := by rw [← h.len]; exact (List.getElem?_eq_some_iff.1 hj).1
    exact arrAt_lt (h.row j u _ hj (List.getElem?_eq_getElem hl)) i hi
theorem GridAt.same (h : GridAt n0 σ v vs eo ei C rows) (hs : σ.next ≤ τ.next) (hg : ∀ i, InG v vs i → τ.get i = σ.get i ∧ τ.ty i = σ.ty i) : GridAt n0 τ v vs eo ei C rows :=
  ⟨h.out.same' hs fun i hi => hg i (.inl hi), h.len, fun j u r hu hr => (h.row j u r hu hr).same' hs fun i hi => hg i (.inr ⟨u, List.mem_of_getElem? hu, hi⟩), h.far, h.dis⟩
theorem GridAt.push {u : AV} {r : List α} (h : GridAt n0 σ v vs eo ei C rows) (hs : σ.next ≤ τ.next) (hold : ∀ w ∈ vs, ∀ i, idOf w = some i → τ.get i = σ.get i ∧ τ.ty i = σ.ty i)
    (hrow : ArrAt n0 τ u ei (r.map C) r.length 1) (hout : ArrAt n0 τ v' eo (vs ++ [u]) (vs.length + 1) 1) (hu : ∀ w ∈ vs, Apart w u) (hv : ∀ w ∈ vs ++ [u], Apart v' w) : GridAt n0 τ v' (vs ++ [u]) eo ei C (rows ++ [r]) := by
  refine ⟨by simpa using hout, by simp [h.len], fun j w q hw hq => ?_, hv, fun i j w x hij hw hx => ?_⟩
  · by_cases hj : j < vs.length
    · rw [List.getElem?_append_left hj] at hw
      rw [List.getElem?_append_left (by rw [← h.len]; exact hj)] at hq
      exact (h.row j w q hw hq).same' hs fun i hi => hold w (List.mem_of_getElem? hw) i hi
    · rw [List.getElem?_append_right (by omega)] at hw
      rw [List.getElem?_append_right (by rw [← h.len]; omega), ← h.len] at hq
      obtain ⟨hl, _⟩ := List.getElem?_eq_some_iff.1 hw
      have : j - vs.length = 0 := by simp at hl; omega
      rw [this] at hw hq
      simp at hw hq
      subst hw; subst hq
      exact hrow
  · by_cases hi : i < vs.length <;> by_cases hj : j < vs.length
    · rw [List.getElem?_append_left hi] at hw
      rw [List.getElem?_append_left hj] at hx
      exact h.dis i j w x hij hw hx
    · rw [List.getElem?_append_left hi] at hw
      have e : j = vs.length := by have := (List.getElem?_eq_some_iff.1 hx).1; simp at this; omega
      subst e
      simp at hx
      subst hx
      exact hu w (List.mem_of_getElem? hw)
    · rw [List.getElem?_append_left hj] at hx
      have e : i = vs.length := by have := (List.getElem?_eq_some_iff.1 hw).1; simp at this; omega
      subst e
      simp at hw
      subst hw
      exact apart_symm (hu x (List.mem_of_getElem? hx))
    · have e1 : i = vs.length := by have := (List.getElem?_eq_some_iff.1 hw).1; simp at this; omega
      have e2 : j = vs.length := by have := (List.getElem?_eq_some_iff.1 hx).1; simp at this; omega
      omega
/-- A row by its number. -/
theorem GridAt.at (h : GridAt n0 σ v vs eo ei C rows) {j : Nat} {r : List α} (hr : rows[j]? = some r) (hr0 : r ≠ []) : ∃ o iu, v = .arr o 0 rows.length 1 ∧ σ.get o = some vs ∧ σ.ty o = eo ∧ n0 ≤ o ∧ o < σ.next ∧
    vs[j]? = some (.arr iu 0 r.length 1) ∧ vs.drop j = .arr iu 0 r.length 1 :: vs.drop (j + 1) ∧ σ.get iu = some (r.map C) ∧ σ.ty iu = ei ∧ n0 ≤ iu ∧ iu < σ.next ∧ ¬ o = iu ∧ j < rows.length := by
  have hj : j < rows.length := (List.getElem?_eq_some_iff.1 hr).1
  have hjv : j < vs.length := by rw [h.len]; exact hj
  have hu := List.getElem?_eq_getElem hjv
  rcases h.out with ⟨_, e, _⟩ | ⟨o, h1, h2, h3, h4, h5⟩
  · omega
  · rcases h.row j _ r hu hr with ⟨_, e, _⟩ | ⟨iu, k1, k2, k3, k4, k5⟩
    · exact absurd (List.eq_nil_of_length_eq_zero e) hr0
    · refine ⟨o, iu, by rw [h1, h.len], h2, h3, h4, h5, by rw [hu, k1], by rw [List.drop_eq_getElem_cons hjv, k1], k2, k3, k4, k5, fun e => ?_, hj⟩
      have := h.far _ (List.mem_of_getElem? hu)
      rw [h1, k1] at this
      exact this o rfl (by rw [e]; rfl)
/-- A row turned in place. -/
theorem GridAt.turn (h : GridAt n0 σ v vs eo ei C rows) {j iu : Nat} {r r' : List α} (hr : rows[j]? = some r) (hu : vs[j]? = some (.arr iu 0 r.length 1)) (hl : r'.length = r.length) (hi : n0 ≤ iu) (hlt : iu < σ.next) (hty : σ.ty iu = ei) : GridAt n0 (σ.set iu (r'.map C)) v vs eo ei C (rows.set j r') := by
  have hj : j < rows.length := (List.getElem?_eq_some_iff.1 hr).1
  refine ⟨h.out.set_ne fun i hx e => ?_, by simp [h.len], fun k w q hw hq => ?_, h.far, h.dis⟩
  · subst e
    exact h.far _ (List.mem_of_getElem? hu) _ hx rfl
  · by_cases hk : k = j
    · subst hk
      rw [hu] at hw
      cases hw
      rw [List.getElem?_set_self hj] at hq
      cases hq
      exact .inr ⟨iu, by rw [hl], by simp [get_set], by rw [ty_set]; exact hty, hi, by rw [next_set]; exact hlt⟩
    · rw [List.getElem?_set_ne (fun e => hk e.symm)] at hq
      refine (h.row k w q hw hq).set_ne fun i hx e => ?_
      subst e
      exact h.dis k j w _ hk hw hu _ hx rfl
theorem GridAt.frz (h : GridAt n0 σ v vs eo ei C rows) (hd : ∀ r : List α, DataL (r.map C)) : Frz n0 σ v (.imm rows.length (rows.map fun r => .imm r.length (r.map C))) := by
  rcases h.out with ⟨rfl, e, e2⟩ | ⟨o, rfl, h2, h3, h4, h5⟩
  · have : rows = [] := List.eq_nil_of_length_eq_zero (by rw [← h.len, e])
    subst this
    exact .nils
  · rw [h.len]
    refine frz_arrL h4 h2 ⟨by simp [h.len], fun j x y hx hy => ?_⟩
    rw [List.getElem?_map] at hy
    cases hq : rows[j]? with
    | none => rw [hq] at hy; cases hy
    | some r => rw [hq] at hy; cases hy; exact (h.row j x r hx hq).frz (hd r)
end
end Go.Ew
namespace Go.Ew
open Go

section
variable {S R α β : Type}
/-- A loop that gathers. -/
def foldN (g : Nat → S → S) : Nat → Nat → S → S
  | 0, _, s => s
  | n + 1, i, s => foldN g n (i + 1) (g i s)
theorem forN_fold {body : Nat → S → Option (Ct S R)} (Inv : Nat → S → Prop) (g : Nat → S → S) : ∀ (n i : Nat) (s : S), Inv i s → (∀ j s, i ≤ j → j < i + n → Inv j s → body j s = some (.go (g j s)) ∧ Inv (j + 1) (g j s)) → forN body n i s = some (.done (foldN g n i s)) ∧ Inv (i + n) (foldN g n i s)
  | 0, _, _, h0, _ => ⟨rfl, h0⟩
  | n + 1, i, s, h0, h => by
    obtain ⟨a, b⟩ := h i s (Nat.le_refl _) (by omega) h0
    obtain ⟨c, d⟩ := forN_fold Inv g n (i + 1) (g i s) b fun j s k1 k2 k3 => h j s (by omega) (by omega) k3
    unfold forN foldN
    rw [a]
    refine ⟨c, ?_⟩
    rw [show i + (n + 1) = i + 1 + n by omega]
    exact d
theorem getN_some {l : List α} {i : Nat} (h : i < l.length) : getN l i = some l[i] := List.getElem?_eq_getElem h
theorem getI_of {l : List α} {i : Int} (h0 : 0 ≤ i) : getI l i = getN l i.toNat := by unfold getI; rw [if_pos h0]; rfl
theorem getI_some {l : List α} {i : Int} (h0 : 0 ≤ i) (h : i < l.length) : ∃ (hh : i.toNat < l.length), getI l i = some l[i.toNat] := ⟨by omega, by rw [getI_of h0]; exact getN_some (by omega)⟩
theorem catL_of {l m : List α} (h : l.length + m.length ≤ 4294967296) : catL l m = some (l ++ m) := by unfold catL; rw [if_pos h]
theorem bif_t {b : Bool} {x y : α} (h : b = true) : (bif b then x else y) = x := by rw [h]; rfl
theorem bif_f {b : Bool} {x y : α} (h : b = false) : (bif b then x else y) = y := by rw [h]; rfl
end
end Go.Ew
