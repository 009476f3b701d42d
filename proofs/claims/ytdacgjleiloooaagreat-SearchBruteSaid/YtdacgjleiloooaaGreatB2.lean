/-
  A region that draws its order, whatever its operations are: those that write or call in the one order that their edges leave, those that only read wherever they come up. Nothing here is about one program.
-/
import Derived.Test.YtdacgjleiloooaaGreatB1
set_option linter.unusedSimpArgs false
set_option linter.unusedVariables false
namespace Go.Ew
open Go Go.RowKit

/-- What is in M0 is in σ. -/
def Sub (M0 σ : Mem) : Prop := ∀ id cs, M0.get id = some cs → σ.get id = some cs

section
variable {P : Program} {N : Nat} {ops : Array Oper} {md : Region.Mode} {M0 : Mem} {K : Fr → Mem → Prop}

theorem evOp_congr {ρ ρ' : Operand → AV} (op : Op) (σ : Mem) (h : ∀ x ∈ op.operands, ρ x = ρ' x) : evOp P op ρ σ = evOp P op ρ' σ := by
  have pairs : ∀ ps : Array (Nat × Operand), (∀ x ∈ ps.map (·.2), ρ x = ρ' x) → (ps.toList.map fun (i, x) => (i, ρ x)) = (ps.toList.map fun (i, x) => (i, ρ' x)) := fun ps hp =>
    List.map_congr_left fun p hm => by
      obtain ⟨i, x⟩ := p
      simp only [hp x (Array.mem_map.2 ⟨(i, x), by simpa using hm, rfl⟩)]
  cases op <;> simp only [Op.operands] at h <;> simp only [evOp]
  case build t ps => rw [pairs ps fun x hx => h x (by simpa using hx)]
  case buildSlice t n ps => rw [pairs ps fun x hx => h x (by simpa using hx)]
  case makeFunc fn first captured =>
    have e : captured.toList.map ρ = captured.toList.map ρ' := List.map_congr_left fun x hx => h x (by simp only [Array.mem_append]; exact .inr (by simpa using hx))
    cases fn <;> simp only [e]
  case slice t x lo hi mx =>
    cases lo <;> cases hi <;> cases mx <;> simp_all
  case call c =>
    obtain ⟨callee, cargs, ats⟩ := c
    have e : cargs.toList.map ρ = cargs.toList.map ρ' := List.map_congr_left fun x hx => h x (by simp [Call.operands]; exact .inr (by simpa using hx))
    have e' : ∀ x ∈ cargs.toList, ρ x = ρ' x := fun x hx => h x (by simp [Call.operands]; exact .inr (by simpa using hx))
    cases callee with
    | value f =>
      have hf : ρ f = ρ' f := h f (by simp [Call.operands])
      simp only [e, hf]
    | invoke r m => rfl
    | builtin b =>
      cases b <;> simp only
      all_goals
        split <;> simp_all
  all_goals (first | rfl | (simp_all; done))
/-- An operation that only reads, in a part of the memory, reads the same in all of it. -/
theorem atPtr_sub {τ : Mem} (hs : Sub M0 τ) {x : AV} {cs : List AV} (h : atPtr M0 x = some cs) : atPtr τ x = some cs := by
  cases x <;> simp only [atPtr] at h ⊢ <;> first | exact h | skip
  rename_i id off
  cases hg : M0.get id with
  | none => rw [hg] at h; cases h
  | some c => rw [hg] at h; rw [hs id c hg]; exact h
theorem evOp_sub {τ σ' : Mem} {op : Op} {ρ : Operand → AV} {x : AV} (hs : Sub M0 τ) (hq : quietOp op = true) (h : evOp P op ρ M0 = .ok x σ') : evOp P op ρ τ = .ok x τ := by
  have fin : ∀ {q : Option AV}, NextA.val M0 q = .ok x σ' → NextA.val τ q = .ok x τ := fun {q} h => by rw [(val_ok h).1]; rfl
  cases op <;> first | (simp [quietOp] at hq; done) | skip
  case load t a =>
    simp only [evOp] at h ⊢
    have h1 := (val_ok h).1
    cases hp : atPtr M0 (ρ a) with
    | none => rw [hp] at h1; cases h1
    | some cs =>
      rw [hp] at h1
      rw [atPtr_sub hs hp, h1]
      rfl
  case makeFunc fn first captured =>
    cases fn <;> simp only [evOp] at h ⊢ <;> first | (cases h; done) | skip
    split at h <;> first | (cases h; done) | skip
    rename_i h0
    rw [if_pos h0]
    cases h
    rfl
  case slice t x lo hi mx =>
    cases mx <;> simp only [evOp] at h ⊢ <;> first | (cases h; done) | skip
    exact fin h
  case call c =>
    obtain ⟨callee, cargs, ats⟩ := c
    cases callee with
    | value f => simp [quietOp] at hq
    | invoke r m => simp [quietOp] at hq
    | builtin b =>
      cases b <;> first | (simp [quietOp] at hq; done) | skip
      all_goals
        simp only [evOp] at h ⊢
        split at h <;> first | (cases h; done) | skip
        exact fin h
  all_goals
    simp only [evOp] at h ⊢
    first
      | (cases h; rfl)
      | exact fin h

/-! ### Steps in any order -/
def wantG : GuardA → Option Bool
  | .run => some true
  | .skip => some false
  | .test x b => some (x == b)
  | .fail => none
def wantA (all : Array Oper) (o : Oper) (fr : Fr) : Option Bool := wantG (guardA all o fr)
def runA (P : Program) (N : Nat) (o : Oper) (K : Fr → Mem → Prop) (fr : Fr) (σ : Mem) : Prop :=
  match evOp P o.op (evalA fr) σ with
  | .ok x σ' => dstOk N o.dst = true ∧ K (putA fr o.dst x) σ'
  | .call f args => dstOk N o.dst = true ∧ ∃ R, CallA P f args σ R ∧ ∀ x σ', R x σ' → K (putA fr o.dst x) σ'
  | .fail => False
def stepA (P : Program) (N : Nat) (all : Array Oper) (o : Oper) (K : Fr → Mem → Prop) (fr : Fr) (σ : Mem) : Prop :=
  match wantA all o fr with
  | some true => runA P N o K fr σ
  | some false => dstOk N o.dst = true ∧ K (putA fr o.dst .undef) σ
  | none => False
def anyA (P : Program) (N : Nat) (md : Region.Mode) (ops : Array Oper) (M0 : Mem) (K : Fr → Mem → Prop) : Nat → Array Bool → Fr → Mem → Prop
  | 0, listed, fr, σ => Sub M0 σ ∧ Region.ready md ops listed = [] ∧ K fr σ
  | fuel + 1, listed, fr, σ => Sub M0 σ ∧ (Region.ready md ops listed = [] → K fr σ) ∧ ∀ i ∈ Region.ready md ops listed, ∃ o, ops[i]? = some o ∧ stepA P N ops o (anyA P N md ops M0 K fuel (listed.setIfInBounds i true)) fr σ

theorem anyA_sub {fuel : Nat} {listed : Array Bool} {fr : Fr} {σ : Mem} (h : anyA P N md ops M0 K fuel listed fr σ) : Sub M0 σ := by
  cases fuel with
  | zero => exact h.1
  | succ n => exact h.1

theorem putA_comm (fr : Fr) {x y : Option Tmp} (v u : AV) (h : ∀ d, x = some d → y ≠ some d) : putA (putA fr x v) y u = putA (putA fr y u) x v := by
  cases x with
  | none => rfl
  | some d =>
    cases y with
    | none => rfl
    | some e =>
      have hne : d ≠ e := fun he => h d rfl (he ▸ rfl)
      funext j
      simp only [putA, upd]
      by_cases h1 : j = e <;> by_cases h2 : j = d <;> simp_all
theorem evalA_put (fr : Fr) {d : Option Tmp} {v : AV} {x : Operand} (h : ∀ e, d = some e → x ≠ .tmp e) : evalA (putA fr d v) x = evalA fr x := by
  cases d with
  | none => rfl
  | some e =>
    cases x with
    | tmp t => 
      have hne : t ≠ e := fun he => h e rfl (he ▸ rfl)
      simp [evalA, putA, upd, hne]
    | _ => rfl
theorem wantA_put (o : Oper) (fr : Fr) {d : Option Tmp} {v : AV} (h : ∀ e, d = some e → e ∉ o.looksAt ops) : wantA ops o (putA fr d v) = wantA ops o fr := by
  have e : guardA ops o (putA fr d v) = guardA ops o fr := by
    unfold guardA
    cases hg : o.guard with
    | none => rfl
    | some jb =>
      obtain ⟨j, b⟩ := jb
      simp only
      cases hd : (ops[j]?).bind (·.dst) with
      | none => rfl
      | some t =>
        simp only
        cases d with
        | none => rfl
        | some e =>
          have hne : t ≠ e := fun he => h e rfl (by simp [Oper.looksAt, hg, hd, he])
          simp [putA, upd, hne]
  unfold wantA
  rw [e]
theorem evOp_put (o : Oper) (fr : Fr) (σ : Mem) {d : Option Tmp} {v : AV} (h : ∀ e, d = some e → e ∉ o.looksAt ops) : evOp P o.op (evalA (putA fr d v)) σ = evOp P o.op (evalA fr) σ :=
  evOp_congr o.op σ fun x hx => evalA_put fr fun e he hxe => h e he (by
    subst hxe
    exact List.mem_append_left _ (List.mem_filterMap.2 ⟨.tmp e, by simpa using hx, rfl⟩))
theorem runA_put (o : Oper) {K K' : Fr → Mem → Prop} {fr : Fr} {σ : Mem} {d : Option Tmp} {v : AV} (h1 : ∀ e, d = some e → e ∉ o.looksAt ops) (h2 : ∀ e, d = some e → o.dst ≠ some e)
    (hK : ∀ x σ', K (putA (putA fr o.dst x) d v) σ' → K' (putA fr o.dst x) σ') (h : runA P N o K (putA fr d v) σ) : runA P N o K' fr σ := by
  unfold runA at h ⊢
  rw [evOp_put o fr σ h1] at h
  split at h
  · rename_i x σ' he
    refine ⟨h.1, hK _ _ ?_⟩
    rw [← putA_comm fr v x h2]
    exact h.2
  · obtain ⟨k1, R, k2, k3⟩ := h
    refine ⟨k1, R, k2, fun x σ' hx => hK _ _ ?_⟩
    rw [← putA_comm fr v x h2]
    exact k3 x σ' hx
  · exact h
theorem stepA_put (o : Oper) {K K' : Fr → Mem → Prop} {fr : Fr} {σ : Mem} {d : Option Tmp} {v : AV} (h1 : ∀ e, d = some e → e ∉ o.looksAt ops) (h2 : ∀ e, d = some e → o.dst ≠ some e)
    (hK : ∀ x σ', K (putA (putA fr o.dst x) d v) σ' → K' (putA fr o.dst x) σ') (h : stepA P N ops o K (putA fr d v) σ) : stepA P N ops o K' fr σ := by
  unfold stepA at h ⊢
  rw [wantA_put o fr h1] at h
  split at h
  · exact runA_put o h1 h2 hK h
  · refine ⟨h.1, hK _ _ ?_⟩
    rw [← putA_comm fr v _ h2]
    exact h.2
  · exact h

/-- Operation o only reads, and comes to x, wherever it comes up. -/
def StillA (P : Program) (N : Nat) (ops : Array Oper) (M0 : Mem) (o : Oper) (x : AV) (fr : Fr) : Prop :=
  dstOk N o.dst = true ∧ ((wantA ops o fr = some true ∧ quietOp o.op = true ∧ ∃ τ, evOp P o.op (evalA fr) M0 = .ok x τ) ∨ (wantA ops o fr = some false ∧ x = .undef))
theorem StillA.step {o : Oper} {x : AV} {fr : Fr} {σ : Mem} (h : StillA P N ops M0 o x fr) (hs : Sub M0 σ) (hK : K (putA fr o.dst x) σ) : stepA P N ops o K fr σ := by
  obtain ⟨h0, ⟨h1, h2, τ, h3⟩ | ⟨h1, rfl⟩⟩ := h
  · simp only [stepA, h1, runA, evOp_sub hs h2 h3]
    exact ⟨h0, hK⟩
  · simp only [stepA, h1]
    exact ⟨h0, hK⟩
theorem StillA.put {o : Oper} {x : AV} {fr : Fr} {d : Option Tmp} {v : AV} (h : StillA P N ops M0 o x fr) (h1 : ∀ e, d = some e → e ∉ o.looksAt ops) : StillA P N ops M0 o x (putA fr d v) := by
  unfold StillA at h ⊢
  rw [wantA_put o fr h1, evOp_put o fr M0 h1]
  exact h

/-- A reading operation that may come up now may be taken first. -/
theorem anyA_first {i : Nat} {oi : Oper} {x : AV} (hi : ops[i]? = some oi) : ∀ (fuel : Nat) (listed : Array Bool) (fr : Fr) (σ : Mem),
      (∀ j oj, ops[j]? = some oj → j ≠ i → listed.getD j true = false → (∀ e ∈ oj.after, Region.binds md e = true → e.on ≠ i) → oi.apart ops oj = true) →
      i ∈ Region.ready md ops listed → StillA P N ops M0 oi x fr → Sub M0 σ → anyA P N md ops M0 K fuel (listed.setIfInBounds i true) (putA fr oi.dst x) σ → anyA P N md ops M0 K (fuel + 1) listed fr σ := by
  intro fuel
  induction fuel with
  | zero =>
    intro listed fr σ _ hr hy hs H
    refine ⟨hs, fun h => (by rw [h] at hr; cases hr), fun j hj => ?_⟩
    by_cases hji : j = i
    · subst hji
      exact ⟨oi, hi, hy.step hs H⟩
    · have h1 := ready_mono hj hji
      rw [H.2.1] at h1
      cases h1
  | succ fuel ih =>
    intro listed fr σ hfree hr hy hs H
    refine ⟨hs, fun h => (by rw [h] at hr; cases hr), fun j hj => ?_⟩
    by_cases hji : j = i
    · subst hji
      exact ⟨oi, hi, hy.step hs H⟩
    · obtain ⟨oj, hoj, h1⟩ := H.2.2 j (ready_mono hj hji)
      refine ⟨oj, hoj, ?_⟩
      obtain ⟨hjun, oj', hoj', hjall⟩ := mem_ready.1 hj
      have hiun := (mem_ready.1 hr).1
      rw [hoj] at hoj'
      cases hoj'
      have hnot : ∀ e ∈ oj.after, Region.binds md e = true → e.on ≠ i := fun e he hb hei => by
        have := hjall e he hb
        rw [hei] at this
        cases hg : listed[i]? <;> simp [Array.getD_eq_getD_getElem?, hg] at this hiun
        simp [this] at hiun
      have hap := hfree j oj hoj hji hjun hnot
      obtain ⟨a1, a2, a3⟩ := Oper.apart_spec hap
      have hfree' : ∀ k ok, ops[k]? = some ok → k ≠ i → (listed.setIfInBounds j true).getD k true = false → (∀ e ∈ ok.after, Region.binds md e = true → e.on ≠ i) → oi.apart ops ok = true := fun k ok hk hki hun hno => by
        refine hfree k ok hk hki ?_ hno
        by_cases hjk : j = k
        · subst hjk; exact hjun
        · rw [getD_set_ne true hjk] at hun; exact hun
      refine stepA_put oj a1 a2 (fun y σ' hy' => ?_) h1
      refine ih _ _ _ hfree' (ready_mono hr (Ne.symm hji)) (hy.put a3) (anyA_sub hy') ?_
      rw [Array.setIfInBounds_comm _ _ hji]
      exact hy'

/-- THE ORDER: each reading operation may come up and may be taken first; where another's turn is, it alone may come up. -/
def ordFrom (md : Region.Mode) (ops : Array Oper) : List Nat → Array Bool → Bool
  | [], listed => (Region.ready md ops listed).isEmpty
  | i :: l, listed => (match ops[i]? with | some o => (if quietOp o.op then (Region.ready md ops listed).contains i && Region.free md ops listed i else Region.ready md ops listed == [i]) | none => false) && ordFrom md ops l (listed.setIfInBounds i true)
def ordB (md : Region.Mode) (ops : Array Oper) (ord : List Nat) : Bool := decide (ord.length = ops.size) && ordFrom md ops ord (Array.replicate ops.size false)
/-- THE WALK in that order. -/
def listA (P : Program) (N : Nat) (ops : Array Oper) (M0 : Mem) (K : Fr → Mem → Prop) : List Oper → Fr → Mem → Prop
  | [], fr, σ => K fr σ
  | o :: l, fr, σ => if quietOp o.op then ∃ x, StillA P N ops M0 o x fr ∧ listA P N ops M0 K l (putA fr o.dst x) σ else stepA P N ops o (fun fr' σ' => Sub M0 σ' ∧ listA P N ops M0 K l fr' σ') fr σ

theorem stepA_mono {o : Oper} {K K' : Fr → Mem → Prop} {fr : Fr} {σ : Mem} (hK : ∀ fr σ, K fr σ → K' fr σ) (h : stepA P N ops o K fr σ) : stepA P N ops o K' fr σ := by
  unfold stepA runA at *
  split at h
  · split at h
    · exact ⟨h.1, hK _ _ h.2⟩
    · obtain ⟨k1, R, k2, k3⟩ := h
      exact ⟨k1, R, k2, fun x σ' hx => hK _ _ (k3 x σ' hx)⟩
    · exact h
  · exact ⟨h.1, hK _ _ h.2⟩
  · exact h

theorem anyA_list : ∀ (ord : List Nat) (l : List Oper) (listed : Array Bool) (fr : Fr) (σ : Mem), ord.map (fun i => ops[i]?) = l.map some → ordFrom md ops ord listed = true → Sub M0 σ → listA P N ops M0 K l fr σ → anyA P N md ops M0 K ord.length listed fr σ
  | [], [], listed, fr, σ, _, hB, hs, h => ⟨hs, by simpa [ordFrom] using hB, h⟩
  | [], _ :: _, _, _, _, hl, _, _, _ => by simp at hl
  | _ :: _, [], _, _, _, hl, _, _, _ => by simp at hl
  | i :: ord, o :: l, listed, fr, σ, hl, hB, hs, h => by
    simp only [List.map_cons, List.cons.injEq] at hl
    obtain ⟨h0, hl⟩ := hl
    simp only [ordFrom, h0, Bool.and_eq_true] at hB
    obtain ⟨hB1, hB2⟩ := hB
    unfold listA at h
    by_cases hq : quietOp o.op = true
    · rw [if_pos hq] at h hB1
      obtain ⟨x, h1, h2⟩ := h
      simp only [Bool.and_eq_true] at hB1
      exact anyA_first h0 ord.length listed fr σ (Region.free_spec h0 hB1.2) (by simpa using hB1.1) h1 hs (anyA_list ord l _ _ _ hl hB2 hs h2)
    · rw [if_neg hq] at h hB1
      have hrd : Region.ready md ops listed = [i] := by simpa using hB1
      refine ⟨hs, fun e => (by rw [hrd] at e; cases e), fun j hj => ?_⟩
      rw [hrd] at hj
      have hji : j = i := by simpa using hj
      subst hji
      exact ⟨o, h0, stepA_mono (fun fr' σ' h' => anyA_list ord l _ fr' σ' hl hB2 h'.1 h'.2) h⟩

/-! ### It is sound -/
theorem wantG_spec {g : GuardA} {b : Bool} (h : wantG g = some b) : (g = .run ∧ b = true) ∨ (g = .skip ∧ b = false) ∨ ∃ x c, g = .test x c ∧ b = (x == c) := by
  cases g <;> simp [wantG] at h
  · exact .inl ⟨rfl, h⟩
  · exact .inr (.inl ⟨rfl, h⟩)
  · exact .inr (.inr ⟨_, _, rfl, h.symm⟩)
theorem want_spec {φ : Nat → Nat} {σ : Mem} {w : World} {o : Oper} {fr : Fr} {t : Array Value} {b : Bool} (hf : RelF φ σ w fr t) (h : wantA ops o fr = some b) : Region.wanted o (yielded ops t) = b := by
  rcases wantG_spec h with ⟨hg, rfl⟩ | ⟨hg, rfl⟩ | ⟨x, c, hg, rfl⟩
  · exact guard_run hg
  · exact (guard_spec hf).1 hg
  · exact (guard_spec hf).2 x c hg
theorem wpAny_of_anyA {φ0 : Nat → Nat} {σ0 : Mem} {w0 : World} : ∀ (fuel : Nat) (listed : Array Bool) (fr : Fr) (σ : Mem) (φ : Nat → Nat) (w : World) (a : Act), RelM φ σ w → RelF φ σ w fr a.tmps → a.defers = [] → a.tmps.size = N → Step φ0 σ0 w0 φ σ w →
    anyA P N md ops M0 K fuel listed fr σ → wpAny P md ops (fun e a' w' => e = .normal ∧ St φ0 σ0 w0 N K a' w') fuel listed a w
  | 0, _, fr, σ, φ, w, a, hr, hf, hd, hn, hs, h => ⟨h.2.1, rfl, φ, σ, fr, hr, hf, hd, hn, hs, h.2.2⟩
  | fuel + 1, listed, fr, σ, φ, w, a, hr, hf, hd, hn, hs, h => by
    refine ⟨fun h0 => ⟨rfl, φ, σ, fr, hr, hf, hd, hn, hs, h.2.1 h0⟩, fun i hi => ?_⟩
    obtain ⟨o, ho, h1⟩ := h.2.2 i hi
    unfold wpOp
    simp only [ho]
    unfold stepA at h1
    split at h1
    · rename_i hw
      rw [if_pos (want_spec hf hw)]
      refine .inl ?_
      unfold runA at h1
      unfold Oper.wp
      split at h1
      · rename_i x σ' he
        obtain ⟨n, v, w', φ', k1, k2, k3, k4, k5⟩ := evOp_ok hr hf he
        have hf' : RelF φ' σ' w' (putA fr o.dst x) (a.put o.dst v).tmps := (hf.step k5).put k4 (by rw [hn]; exact h1.1)
        have := wpAny_of_anyA fuel _ _ σ' φ' w' (a.put o.dst v) k3 hf' (by cases o.dst <;> exact hd) (by rw [size_put]; exact hn) (hs.trans k5) h1.2
        rw [k1]
        rcases k2 with rfl | ⟨rfl, rfl⟩
        · rw [Oper.upon_value]; exact this
        · rw [Oper.upon_skip]; exact this
      · rename_i f args he
        obtain ⟨hdst, R, hc, hR⟩ := h1
        obtain ⟨vs, k1, k2⟩ := evOp_call hf he hc.1
        rw [k2 w, Oper.upon_enter]
        refine (hc.2 φ w vs hr k1).mono ?_
        rintro e w' ⟨v, x, φ', σ', rfl, k3, k4, k5, k6⟩
        have hf' : RelF φ' σ' w' (putA fr o.dst x) (a.put o.dst v).tmps := (hf.step k5).put k4 (by rw [hn]; exact hdst)
        exact wpAny_of_anyA fuel _ _ σ' φ' w' (a.put o.dst v) k3 hf' (by cases o.dst <;> exact hd) (by rw [size_put]; exact hn) (hs.trans k5) (hR x σ' k6)
      · exact h1.elim
    · rename_i hw
      rw [if_neg (by rw [want_spec hf hw]; simp)]
      have hf' : RelF φ σ w (putA fr o.dst .undef) (a.put o.dst Go.undef).tmps := hf.put (.tup [] [] rfl (fun j x v h => by simp at h)) (by rw [hn]; exact h1.1)
      exact wpAny_of_anyA fuel _ _ σ φ w (a.put o.dst Go.undef) hr hf' (by cases o.dst <;> exact hd) (by rw [size_put]; exact hn) hs h1.2
    · exact h1.elim
end

/-! ### The rule, and its equations for 'simp' -/
section
variable {P : Program} {N : Nat} {Q : Fr → Mem → Prop} {k : List Itm} {fr : Fr} {σ M0 : Mem} {all : Array Oper} {o : Oper} {l : List Oper}
def EWl (M0 : Mem) (P : Program) (N : Nat) (Q : Fr → Mem → Prop) (k : List Itm) (all : Array Oper) (l : List Oper) (fr : Fr) (σ : Mem) : Prop := listA P N all M0 (fun fr σ => EW P N Q k fr σ) l fr σ
@[congr] theorem EWl_congr {fr' : Fr} {σ' : Mem} (h2 : fr = fr') (h3 : σ = σ') : EWl M0 P N Q k all l fr σ = EWl M0 P N Q k all l fr' σ' := by rw [h2, h3]

theorem EW_regionL {id : Nat} (M0 : Mem) (ord : List Nat) (h1 : P.follows .mixedOrders = true) (h2 : ordB .any all ord = true) (hl : ord.map (fun i => all[i]?) = l.map some) (hs : Sub M0 σ) (h : (∀ i, σ.next ≤ i → σ.get i = none) → EWl M0 P N Q k all l fr σ) :
    EW P N Q (.code (.region id all true) :: k) fr σ := by
  simp only [ordB, Bool.and_eq_true, decide_eq_true_eq] at h2
  by_cases hfin : ∀ i, σ.next ≤ i → σ.get i = none
  · refine .raw (fun fr' σ' => EW P N Q k fr' σ') (fun φ w a hr hf hd hn => ?_) (fun _ _ h => h)
    have hcls := Cls.drew w
    have hany := anyA_list (md := .any) (P := P) (N := N) (K := fun fr σ => EW P N Q k fr σ) ord l _ fr σ hl h2.2 hs (h hfin)
    rw [h2.1] at hany
    refine Code.wp_mono ?_ (wp_region_any (Q := fun e a' w' => e = .normal ∧ St φ σ w N (fun fr σ => EW P N Q k fr σ) a' w') h1
      (wpAny_of_anyA (φ0 := φ) (σ0 := σ) (w0 := w) all.size _ fr σ φ _ a (hr.cls hcls) (hf.step (Cls.step hcls)) hd hn (Cls.step hcls) hany))
    rintro e a' w' ⟨rfl, φ', σ', fr', k1, k2, k3, k4, k5, k6⟩
    exact ⟨rfl, φ', σ', fr', k1, k2, k3, k4, k5, k6⟩
  · refine .raw (fun _ _ => False) (fun φ w a hr _ _ _ => absurd (fun i hi => ?_) hfin) (fun _ _ h => h.elim)
    cases hg : σ.get i with
    | none => rfl
    | some cs => exact absurd (hr.live i cs hg) (by omega)
/-- The same in index order. -/
theorem EW_regionI {id : Nat} {l : List Oper} (M0 : Mem) (h1 : P.follows .mixedOrders = true) (h2 : ordB .any l.toArray (List.range l.length) = true) (hs : Sub M0 σ) (h : (∀ i, σ.next ≤ i → σ.get i = none) → EWl M0 P N Q k l.toArray l fr σ) :
    EW P N Q (.code (.region id l.toArray true) :: k) fr σ := by
  refine EW_regionL M0 _ h1 h2 ?_ hs h
  apply List.ext_getElem?
  intro i
  simp only [List.getElem?_map, List.getElem?_toArray]
  by_cases hi : i < l.length
  · rw [List.getElem?_range hi]
    simp [hi]
  · rw [List.getElem?_eq_none (by simpa using hi), List.getElem?_eq_none (by omega)]
    rfl
def EWlc (M0 : Mem) (P : Program) (N : Nat) (Q : Fr → Mem → Prop) (f : FuncId) (args : List AV) (dst : Option Tmp) (l : List Oper) (all : Array Oper) (k : List Itm) (fr : Fr) (σ : Mem) : Prop :=
  ∃ R, CallA P f args σ R ∧ ∀ x σ', R x σ' → Sub M0 σ' ∧ EWl M0 P N Q k all l (putA fr dst x) σ'
@[congr] theorem EWlc_congr {f f' : FuncId} {args args' : List AV} {dst : Option Tmp} {fr' : Fr} {σ' : Mem} (h0 : f = f') (h1 : args = args') (h2 : fr = fr') (h3 : σ = σ') :
    EWlc M0 P N Q f args dst l all k fr σ = EWlc M0 P N Q f' args' dst l all k fr' σ' := by rw [h0, h1, h2, h3]
theorem EWlc_pure {f : FuncId} {args : List AV} {D : AV} {dst : Option Tmp} (h : PureA P f args D) (hs : Sub M0 σ) (hk : EWl M0 P N Q k all l (putA fr dst D) σ) : EWlc M0 P N Q f args dst l all k fr σ :=
  ⟨_, h σ, fun x σ' ⟨h1, h2⟩ => by subst h1; subst h2; exact ⟨hs, hk⟩⟩
theorem EWlc_of {f : FuncId} {args : List AV} {R : AV → Mem → Prop} {dst : Option Tmp} (h : CallA P f args σ R) (hk : ∀ x σ', R x σ' → Sub M0 σ' ∧ EWl M0 P N Q k all l (putA fr dst x) σ') : EWlc M0 P N Q f args dst l all k fr σ := ⟨R, h, hk⟩

def EWlq (n : NextA) (ok : Bool) (M0 : Mem) (P : Program) (N : Nat) (Q : Fr → Mem → Prop) (dst : Option Tmp) (l : List Oper) (all : Array Oper) (k : List Itm) (fr : Fr) (σ : Mem) : Prop :=
  match n with
  | .ok x _ => ok = true ∧ EWl M0 P N Q k all l (putA fr dst x) σ
  | _ => False
def EWln (n : NextA) (ok : Bool) (M0 : Mem) (P : Program) (N : Nat) (Q : Fr → Mem → Prop) (dst : Option Tmp) (l : List Oper) (all : Array Oper) (k : List Itm) (fr : Fr) : Mem → Prop := fun σ =>
  match n with
  | .ok x σ' => ok = true ∧ Sub M0 σ' ∧ EWl M0 P N Q k all l (putA fr dst x) σ'
  | .call f args => ok = true ∧ EWlc M0 P N Q f args dst l all k fr σ
  | .fail => False
/-- Behind a guard; behind a reading operation; behind another. -/
def EWlg (g : GuardA) (ok q : Bool) (M0 : Mem) (P : Program) (N : Nat) (Q : Fr → Mem → Prop) (o : Oper) (l : List Oper) (all : Array Oper) (k : List Itm) (fr : Fr) (σ : Mem) : Prop :=
  if q then ∃ x, (ok = true ∧ ((wantG g = some true ∧ ∃ τ, evOp P o.op (evalA fr) M0 = .ok x τ) ∨ (wantG g = some false ∧ x = .undef))) ∧ EWl M0 P N Q k all l (putA fr o.dst x) σ
  else match wantG g with
    | some true => EWln (evOp P o.op (evalA fr) σ) ok M0 P N Q o.dst l all k fr σ
    | some false => ok = true ∧ Sub M0 σ ∧ EWl M0 P N Q k all l (putA fr o.dst .undef) σ
    | none => False
@[congr] theorem EWlg_congr {g g' : GuardA} {ok ok' q q' : Bool} {fr' : Fr} {σ' : Mem} (h0 : g = g') (h1 : ok = ok') (hq : q = q') (h2 : fr = fr') (h3 : σ = σ') :
    EWlg g ok q M0 P N Q o l all k fr σ = EWlg g' ok' q' M0 P N Q o l all k fr' σ' := by rw [h0, h1, hq, h2, h3]
@[congr] theorem EWlq_congr {n n' : NextA} {ok ok' : Bool} {dst : Option Tmp} {fr' : Fr} {σ' : Mem} (h0 : n = n') (h1 : ok = ok') (h2 : fr = fr') (h3 : σ = σ') :
    EWlq n ok M0 P N Q dst l all k fr σ = EWlq n' ok' M0 P N Q dst l all k fr' σ' := by rw [h0, h1, h2, h3]
@[congr] theorem EWln_congr {n n' : NextA} {ok ok' : Bool} {dst : Option Tmp} {fr' : Fr} {σ' : Mem} (h0 : n = n') (h1 : ok = ok') (h2 : fr = fr') (h3 : σ = σ') :
    EWln n ok M0 P N Q dst l all k fr σ = EWln n' ok' M0 P N Q dst l all k fr' σ' := by rw [h0, h1, h2, h3]

theorem EWl_nil : EWl M0 P N Q k all [] fr σ = EW P N Q k fr σ := rfl
theorem EWl_cons : EWl M0 P N Q k all (o :: l) fr σ = EWlg (guardA all o fr) (dstOk N o.dst) (quietOp o.op) M0 P N Q o l all k fr σ := by
  apply propext
  unfold EWl EWlg listA
  cases hq : quietOp o.op with
  | true =>
    simp only [if_true]
    unfold StillA wantA
    simp only [hq, true_and]
    exact Iff.rfl
  | false =>
    simp only [Bool.false_eq_true, if_false]
    unfold stepA wantA
    cases wantG (guardA all o fr) with
    | none => exact Iff.rfl
    | some b =>
      cases b with
      | false => exact Iff.rfl
      | true =>
        simp only
        unfold runA EWln
        cases evOp P o.op (evalA fr) σ <;> exact Iff.rfl
theorem EWlg_q (g : GuardA) (ok : Bool) (M0 : Mem) (h : g = .run ∨ g = .test true true ∨ g = .test false false) : EWlg g ok true M0 P N Q o l all k fr σ = EWlq (evOp P o.op (evalA fr) M0) ok M0 P N Q o.dst l all k fr σ := by
  have e : wantG g = some true := by rcases h with rfl | rfl | rfl <;> rfl
  apply propext
  unfold EWlg EWlq
  simp only [if_true, e, true_and, Option.some.injEq, Bool.true_eq_false, false_and, or_false]
  constructor
  · rintro ⟨x, ⟨h1, τ, h2⟩, h3⟩
    rw [h2]
    exact ⟨h1, h3⟩
  · intro h
    split at h
    · rename_i x τ he
      exact ⟨x, ⟨h.1, τ, he⟩, h.2⟩
    · exact h.elim
theorem EWlg_n (g : GuardA) (ok : Bool) (M0 : Mem) (h : g = .run ∨ g = .test true true ∨ g = .test false false) : EWlg g ok false M0 P N Q o l all k fr σ = EWln (evOp P o.op (evalA fr) σ) ok M0 P N Q o.dst l all k fr σ := by
  have e : wantG g = some true := by rcases h with rfl | rfl | rfl <;> rfl
  unfold EWlg
  simp only [Bool.false_eq_true, if_false, e]
theorem EWlg_off (g : GuardA) (q : Bool) (M0 : Mem) (h : g = .skip ∨ g = .test true false ∨ g = .test false true) (hs : q = true ∨ Sub M0 σ) : EWlg g true q M0 P N Q o l all k fr σ = EWl M0 P N Q k all l (putA fr o.dst .undef) σ := by
  have e : wantG g = some false := by rcases h with rfl | rfl | rfl <;> rfl
  apply propext
  unfold EWlg
  cases q with
  | true => simp [e]
  | false =>
    simp only [Bool.false_eq_true, if_false, e, true_and]
    exact ⟨fun h => h.2, fun h => ⟨hs.resolve_left (by simp), h⟩⟩
theorem EWlg_run_q : EWlg .run true true M0 P N Q o l all k fr σ = EWlq (evOp P o.op (evalA fr) M0) true M0 P N Q o.dst l all k fr σ := EWlg_q _ _ _ (.inl rfl)
theorem EWlg_yes_q : EWlg (.test true true) true true M0 P N Q o l all k fr σ = EWlq (evOp P o.op (evalA fr) M0) true M0 P N Q o.dst l all k fr σ := EWlg_q _ _ _ (.inr (.inl rfl))
theorem EWlg_no_q : EWlg (.test false false) true true M0 P N Q o l all k fr σ = EWlq (evOp P o.op (evalA fr) M0) true M0 P N Q o.dst l all k fr σ := EWlg_q _ _ _ (.inr (.inr rfl))
theorem EWlg_skip_q : EWlg .skip true true M0 P N Q o l all k fr σ = EWl M0 P N Q k all l (putA fr o.dst .undef) σ := EWlg_off _ _ _ (.inl rfl) (.inl rfl)
theorem EWlg_off_q : EWlg (.test true false) true true M0 P N Q o l all k fr σ = EWl M0 P N Q k all l (putA fr o.dst .undef) σ := EWlg_off _ _ _ (.inr (.inl rfl)) (.inl rfl)
theorem EWlg_off_q' : EWlg (.test false true) true true M0 P N Q o l all k fr σ = EWl M0 P N Q k all l (putA fr o.dst .undef) σ := EWlg_off _ _ _ (.inr (.inr rfl)) (.inl rfl)
theorem EWlg_run_n : EWlg .run true false M0 P N Q o l all k fr σ = EWln (evOp P o.op (evalA fr) σ) true M0 P N Q o.dst l all k fr σ := EWlg_n _ _ _ (.inl rfl)
theorem EWlg_yes_n : EWlg (.test true true) true false M0 P N Q o l all k fr σ = EWln (evOp P o.op (evalA fr) σ) true M0 P N Q o.dst l all k fr σ := EWlg_n _ _ _ (.inr (.inl rfl))
theorem EWlg_no_n : EWlg (.test false false) true false M0 P N Q o l all k fr σ = EWln (evOp P o.op (evalA fr) σ) true M0 P N Q o.dst l all k fr σ := EWlg_n _ _ _ (.inr (.inr rfl))
theorem EWlg_skip_n (h : Sub M0 σ) : EWlg .skip true false M0 P N Q o l all k fr σ = EWl M0 P N Q k all l (putA fr o.dst .undef) σ := EWlg_off _ _ _ (.inl rfl) (.inr h)
theorem EWlg_off_n (h : Sub M0 σ) : EWlg (.test true false) true false M0 P N Q o l all k fr σ = EWl M0 P N Q k all l (putA fr o.dst .undef) σ := EWlg_off _ _ _ (.inr (.inl rfl)) (.inr h)
theorem EWlg_off_n' (h : Sub M0 σ) : EWlg (.test false true) true false M0 P N Q o l all k fr σ = EWl M0 P N Q k all l (putA fr o.dst .undef) σ := EWlg_off _ _ _ (.inr (.inr rfl)) (.inr h)
theorem EWlq_ok (x : AV) (τ : Mem) (dst : Option Tmp) : EWlq (.ok x τ) true M0 P N Q dst l all k fr σ = EWl M0 P N Q k all l (putA fr dst x) σ := by simp [EWlq]
theorem EWln_ok (x : AV) (σ' : Mem) (dst : Option Tmp) (hs : Sub M0 σ') : EWln (.ok x σ') true M0 P N Q dst l all k fr σ = EWl M0 P N Q k all l (putA fr dst x) σ' := by simp [EWln, hs]
theorem EWln_call (f : FuncId) (args : List AV) (dst : Option Tmp) : EWln (.call f args) true M0 P N Q dst l all k fr σ = EWlc M0 P N Q f args dst l all k fr σ := by simp [EWln]
theorem sub_empty : Sub Mem.empty σ = True := eq_true fun _ _ h => by cases h
theorem sub_self : Sub σ σ = True := eq_true fun _ _ h => h
theorem sub_kill (id : Nat) (h : Sub M0 σ) : Sub (M0.kill id) σ := fun i cs hi => h i cs (by rw [get_kill] at hi; split at hi; cases hi; exact hi)
end
attribute [go_sem] EWl_nil EWl_cons EWlg_run_q EWlg_yes_q EWlg_no_q EWlg_skip_q EWlg_off_q EWlg_off_q' EWlg_run_n EWlg_yes_n EWlg_no_n EWlg_skip_n EWlg_off_n EWlg_off_n' EWlq_ok EWln_ok EWln_call sub_empty sub_self
end Go.Ew
namespace Go.Ew
open Go Go.RowKit

section
variable {P : Program} {N : Nat} {Q : Fr → Mem → Prop} {φ : Nat → Nat} {σ : Mem} {w : World}

theorem Rv.more {n n' : Nat} {L : Nat → Prop} {x : AV} {v : Value} (h : Rv φ n L w x v) (hn : n ≤ n') : Rv φ n' L w x v := by
  induction h with
  | lit v => exact .lit v
  | nils => exact .nils
  | imm0 A c hc => exact .imm0 A c hc
  | imm m cs ad c vs h1 _ h3 h4 h5 h6 ih => exact .imm m cs ad c vs h1 ih h3 h4 h5 h6
  | arr id off m sz c h1 h2 h3 h4 => exact .arr id off m sz c (by omega) h2 h3 h4
  | ptr id off h1 => exact .ptr id off (by omega)
  | iptr cs ad vs h1 _ h3 h4 ih => exact .iptr cs ad vs h1 ih h3 h4
  | fn f xs vs h1 _ ih => exact .fn f xs vs h1 ih
  | agg xs vs h1 _ h3 ih => exact .agg xs vs h1 ih h3
  | tup xs vs h1 _ ih => exact .tup xs vs h1 ih

/-- Arguments with objects of the caller's own, read off as data. -/
theorem callA_frz_args {f : FuncId} {xs ys : List AV} {D : AV} (h : PureA P f ys D) (hD : rigidA D = true) (hx : FrzL 0 σ xs ys) : CallA P f xs σ fun x σ' => x = D ∧ σ' = σ := by
  refine ⟨(h σ).1, fun φ w vs hr hv => ?_⟩
  have hdead : ∀ b, ¬ Live φ ⟨σ.next, σ.ty, fun _ => none⟩ b := fun b ⟨id, h, _⟩ => by simp at h
  have hr0 : RelM φ ⟨σ.next, σ.ty, fun _ => none⟩ w := ⟨fun id cs h => (by cases h), fun id cs h => (by cases h), fun i j hi _ _ => (by cases hi)⟩
  have hv0 : RvL φ ⟨σ.next, σ.ty, fun _ => none⟩ w ys vs := by
    refine ⟨by rw [← hx.1]; exact hv.1, fun j y v hy hvj => ?_⟩
    have hj : j < xs.length := by rw [hx.1]; exact (List.getElem?_eq_some_iff.1 hy).1
    have h1 := hv.2 j _ v (List.getElem?_eq_getElem hj) hvj
    have h2 := rv_frz (n0 := 0) (L := Live φ ⟨σ.next, σ.ty, fun _ => none⟩) hr (fun b hb => absurd hb (hdead b)) (hx.2 j _ y (List.getElem?_eq_getElem hj) hy) v h1
    exact h2.more (Nat.zero_le _)
  refine ((h ⟨σ.next, σ.ty, fun _ => none⟩).2 φ w vs hr0 hv0).mono ?_
  rintro e w' ⟨v, x, φ', σ', rfl, h3, h4, h5, rfl, rfl⟩
  have hcls : Cls w w' := ⟨h5.os, h5.tape, h5.output, h5.size, fun b hb => h5.same b hb (hdead b)⟩
  exact ⟨v, _, φ, σ, rfl, hr.cls hcls, rigid_any hD h4, Cls.step hcls, rfl, rfl⟩
theorem EWcall_frz {f : FuncId} {xs ys : List AV} {D : AV} {dst : Option Tmp} {l : List Oper} {all : Array Oper} {k : List Itm} {fr : Fr} (h : PureA P f ys D) (hD : rigidA D = true) (hx : FrzL 0 σ xs ys) (hk : EW P N Q (.ops false l all :: k) (putA fr dst D) σ) :
    EWcall P N Q f xs dst l all k fr σ := EWcall_of (callA_frz_args h hD hx) fun x σ' ⟨h1, h2⟩ => by subst h1; subst h2; exact hk

/-- A slice of no elements: nil or not. -/
theorem callA_slice0 {f : FuncId} {R : AV → Mem → Prop} (h : ∀ (A : Option Addr) (c : Nat), c ≤ maxLen → CallA P f [.lit (.slice A 0 c)] σ R) : CallA P f [.imm 0 []] σ R := by
  refine ⟨(h none 0 (Nat.zero_le _)).1, fun φ w vs hr hv => ?_⟩
  have hl : vs.length = 1 := by rw [← hv.1]; rfl
  obtain ⟨v, rfl⟩ := List.length_eq_one_iff.1 hl
  have h0 := hv.2 0 _ v rfl rfl
  obtain ⟨A, c, rfl, hc⟩ : ∃ A c, v = .slice A 0 c ∧ c ≤ maxLen := by
    cases h0 with
    | imm0 A c hc => exact ⟨A, c, rfl, hc⟩
    | imm _ _ ad c vs k1 k2 k3 k4 k5 k6 => exact ⟨some ad, c, rfl, k6⟩
  refine (h A c hc).2 φ w [.slice A 0 c] hr ⟨rfl, fun j x u hx hu => ?_⟩
  match j with
  | 0 => simp at hx hu; subst hx; subst hu; exact .lit _
  | j + 1 => simp at hx
end
end Go.Ew
namespace Go.Ew
open Go Go.RowKit

section
variable {P : Program} {N : Nat} {Q : Fr → Mem → Prop} {M : Fr → Mem → Prop} {k : List Itm}
theorem dropTo_cut (id : Nat) : ∀ (l1 k' : List Itm), dropTo id (l1 ++ .goal M :: k) = some k' → (∃ l2, k' = l2 ++ .goal M :: k ∧ dropTo id (l1 ++ k) = some (l2 ++ k)) ∨ dropTo id (l1 ++ k) = some k'
  | [], k', h => .inr (by simpa [dropTo] using h)
  | .blk id' :: l1, k', h => by
    simp only [List.cons_append, dropTo] at h ⊢
    split at h
    · rename_i e
      cases h
      exact .inl ⟨l1, rfl, by rw [if_pos e]⟩
    · rename_i e
      rw [if_neg e]
      exact dropTo_cut id l1 k' h
  | .code _ :: l1, k', h => by simp only [List.cons_append, dropTo] at h ⊢; exact dropTo_cut id l1 k' h
  | .goal _ :: l1, k', h => by simp only [List.cons_append, dropTo] at h ⊢; exact dropTo_cut id l1 k' h
  | .ops _ _ _ :: l1, k', h => by simp only [List.cons_append, dropTo] at h ⊢; exact dropTo_cut id l1 k' h
  | .run _ _ _ _ :: l1, k', h => by simp only [List.cons_append, dropTo] at h ⊢; exact dropTo_cut id l1 k' h

theorem EW_cut_aux (hM : ∀ fr σ, M fr σ → EW P N Q k fr σ) {K : List Itm} {fr : Fr} {σ : Mem} (h : EW P N Q K fr σ) : ∀ l1, K = l1 ++ .goal M :: k → EW P N Q (l1 ++ k) fr σ := by
  induction h with
  | nil hq => intro l1 e; simp at e
  | @goal K' k' fr σ hk =>
    intro l1 e
    cases l1 with
    | nil => simp only [List.nil_append, List.cons.injEq, Itm.goal.injEq] at e; obtain ⟨rfl, rfl⟩ := e; exact hM _ _ hk
    | cons a l1 => simp only [List.cons_append, List.cons.injEq] at e; obtain ⟨rfl, rfl⟩ := e; exact .goal hk
  | blk _ ih =>
    intro l1 e
    cases l1 with
    | nil => simp at e
    | cons a l1 => simp only [List.cons_append, List.cons.injEq] at e; obtain ⟨rfl, rfl⟩ := e; exact .blk (ih l1 rfl)
  | skip _ ih =>
    intro l1 e
    cases l1 with
    | nil => simp at e
    | cons a l1 => simp only [List.cons_append, List.cons.injEq] at e; obtain ⟨rfl, rfl⟩ := e; exact .skip (ih l1 rfl)
  | @seq a b k' fr σ _ ih =>
    intro l1 e
    cases l1 with
    | nil => simp at e
    | cons x l1 => simp only [List.cons_append, List.cons.injEq] at e; obtain ⟨rfl, rfl⟩ := e; exact .seq (ih (.code a :: .code b :: l1) rfl)
  | @cond c a b k' fr σ t hc _ _ ih1 ih2 =>
    intro l1 e
    cases l1 with
    | nil => simp at e
    | cons x l1 => simp only [List.cons_append, List.cons.injEq] at e; obtain ⟨rfl, rfl⟩ := e; exact .cond t hc (fun ht => ih1 ht (.code a :: l1) rfl) (fun ht => ih2 ht (.code b :: l1) rfl)
  | @block id c k' fr σ _ ih =>
    intro l1 e
    cases l1 with
    | nil => simp at e
    | cons x l1 => simp only [List.cons_append, List.cons.injEq] at e; obtain ⟨rfl, rfl⟩ := e; exact .block (ih (.code c :: .blk id :: l1) rfl)
  | @loop c k' fr σ I n h0 _ ih =>
    intro l1 e
    cases l1 with
    | nil => simp at e
    | cons x l1 => simp only [List.cons_append, List.cons.injEq] at e; obtain ⟨rfl, rfl⟩ := e; exact .loop I n h0 (fun n fr σ hI => ih n fr σ hI (.code c :: .goal _ :: l1) rfl)
  | @exit id k' k'' fr σ hd hw ih =>
    intro l1 e
    cases l1 with
    | nil => simp at e
    | cons x l1 =>
      simp only [List.cons_append, List.cons.injEq] at e
      obtain ⟨rfl, rfl⟩ := e
      rcases dropTo_cut id l1 k'' hd with ⟨l2, rfl, h2⟩ | h2
      · exact .exit h2 (ih l2 rfl)
      · exact .exit h2 hw
  | ret hq =>
    intro l1 e
    cases l1 with
    | nil => simp at e
    | cons x l1 => simp only [List.cons_append, List.cons.injEq] at e; obtain ⟨rfl, rfl⟩ := e; exact .ret hq
  | @region id ops k' fr σ _ ih =>
    intro l1 e
    cases l1 with
    | nil => simp at e
    | cons x l1 => simp only [List.cons_append, List.cons.injEq] at e; obtain ⟨rfl, rfl⟩ := e; exact .region (ih (.ops false ops.toList ops :: l1) rfl)
  | @regionD id ops k' fr σ h1 h2 _ ih =>
    intro l1 e
    cases l1 with
    | nil => simp at e
    | cons x l1 => simp only [List.cons_append, List.cons.injEq] at e; obtain ⟨rfl, rfl⟩ := e; exact .regionD h1 h2 (ih (.ops true ops.toList ops :: l1) rfl)
  | @raw id ops k' fr σ K h1 _ ih =>
    intro l1 e
    cases l1 with
    | nil => simp at e
    | cons x l1 => simp only [List.cons_append, List.cons.injEq] at e; obtain ⟨rfl, rfl⟩ := e; exact .raw K h1 (fun fr' σ' hk => ih fr' σ' hk l1 rfl)
  | opsNil _ ih =>
    intro l1 e
    cases l1 with
    | nil => simp at e
    | cons x l1 => simp only [List.cons_append, List.cons.injEq] at e; obtain ⟨rfl, rfl⟩ := e; exact .opsNil (ih l1 rfl)
  | @opsRun q o l all k' fr σ hg _ ih =>
    intro l1 e
    cases l1 with
    | nil => simp at e
    | cons x l1 => simp only [List.cons_append, List.cons.injEq] at e; obtain ⟨rfl, rfl⟩ := e; exact .opsRun hg (ih (.run q o l all :: l1) rfl)
  | @opsSkip q o l all k' fr σ hg hd _ ih =>
    intro l1 e
    cases l1 with
    | nil => simp at e
    | cons x l1 => simp only [List.cons_append, List.cons.injEq] at e; obtain ⟨rfl, rfl⟩ := e; exact .opsSkip hg hd (ih (.ops q l all :: l1) rfl)
  | @opsTest q o l all k' fr σ x b hg hd _ _ ih1 ih2 =>
    intro l1 e
    cases l1 with
    | nil => simp at e
    | cons y l1 => simp only [List.cons_append, List.cons.injEq] at e; obtain ⟨rfl, rfl⟩ := e; exact .opsTest x b hg hd (fun h => ih1 h (.run q o l all :: l1) rfl) (fun h => ih2 h (.ops q l all :: l1) rfl)
  | @op q o l all k' fr σ x σ' he hd hq _ ih =>
    intro l1 e
    cases l1 with
    | nil => simp at e
    | cons y l1 => simp only [List.cons_append, List.cons.injEq] at e; obtain ⟨rfl, rfl⟩ := e; exact .op x σ' he hd hq (ih (.ops q l all :: l1) rfl)
  | @call o l all k' fr σ f args R he hd hc _ ih =>
    intro l1 e
    cases l1 with
    | nil => simp at e
    | cons y l1 => simp only [List.cons_append, List.cons.injEq] at e; obtain ⟨rfl, rfl⟩ := e; exact .call f args R he hd hc (fun x σ' hR => ih x σ' hR (.ops false l all :: l1) rfl)
  | @qcall o l all k' fr σ f args D he hd hc hr _ ih =>
    intro l1 e
    cases l1 with
    | nil => simp at e
    | cons y l1 => simp only [List.cons_append, List.cons.injEq] at e; obtain ⟨rfl, rfl⟩ := e; exact .qcall f args D he hd hc hr (ih (.ops true l all :: l1) rfl)

/-- THE CUT behind a piece of code. -/
theorem EW_cut {c : Code} {fr : Fr} {σ : Mem} (M : Fr → Mem → Prop) (h : EW P N Q (.code c :: .goal M :: k) fr σ) (hM : ∀ fr σ, M fr σ → EW P N Q k fr σ) : EW P N Q (.code c :: k) fr σ := EW_cut_aux hM h [.code c] rfl
/-- THE CUT behind a test. -/
theorem EWc_cut {x : AV} {a b : Code} {fr : Fr} {σ : Mem} (M : Fr → Mem → Prop) (h : EWc x P N Q a b (.goal M :: k) fr σ) (hM : ∀ fr σ, M fr σ → EW P N Q k fr σ) : EWc x P N Q a b k fr σ := by
  obtain ⟨t, h1, h2, h3⟩ := h
  exact ⟨t, h1, fun ht => EW_cut M (h2 ht) hM, fun ht => EW_cut M (h3 ht) hM⟩
end
/-! ### A slice of the call's own, nil or not -/
def ArrAt (n0 : Nat) (σ : Mem) (x : AV) (e : TypeId) (cells : List AV) (n sz : Nat) : Prop :=
  (x = .nils ∧ n = 0 ∧ cells = []) ∨ ∃ id, x = .arr id 0 n sz ∧ σ.get id = some cells ∧ σ.ty id = e ∧ n0 ≤ id ∧ id < σ.next
theorem ArrAt.frz {n0 : Nat} {σ : Mem} {x : AV} {e : TypeId} {cells : List AV} {n sz : Nat} (h : ArrAt n0 σ x e cells n sz) (hd : DataL cells) : Frz n0 σ x (.imm n cells) := by
  rcases h with ⟨rfl, rfl, rfl⟩ | ⟨id, rfl, h1, _, h3, _⟩
  · exact .nils
  · exact frz_arr h3 h1 hd
theorem ArrAt.same {n0 n1 : Nat} {σ σ' : Mem} {x : AV} {e : TypeId} {cells : List AV} {n sz : Nat} (h : ArrAt n0 σ x e cells n sz) (hn : n1 ≤ n0) (hs : σ.next ≤ σ'.next) (hg : ∀ i m, x = .arr i 0 m sz → σ'.get i = σ.get i ∧ σ'.ty i = σ.ty i) : ArrAt n1 σ' x e cells n sz := by
  rcases h with h | ⟨id, h0, h1, h2, h3, h4⟩
  · exact .inl h
  · obtain ⟨a, b⟩ := hg id n h0
    exact .inr ⟨id, h0, by rw [a]; exact h1, by rw [b]; exact h2, by omega, by omega⟩
end Go.Ew
namespace Go.Ew
open Go Go.RowKit

/-- No operation that writes or calls is listed yet. -/
def noSync (ops : Array Oper) (listed : Array Bool) : Prop := ∀ j oj, ops[j]? = some oj → quietOp oj.op = false → listed.getD j true = false
/-- Every operation that writes or calls waits for number i. -/
def early (md : Region.Mode) (ops : Array Oper) (i : Nat) : Bool :=
  (List.range ops.size).all fun j => match ops[j]? with | some oj => quietOp oj.op || oj.after.any (fun e => Region.binds md e && e.on == i) | none => true
def isLoad : Op → Bool
  | .load _ _ => true
  | _ => false

section
variable {P : Program} {N : Nat} {ops : Array Oper} {md : Region.Mode} {M0 σ0 : Mem} {K : Fr → Mem → Prop}
theorem early_spec {i j : Nat} {oj : Oper} (h : early md ops i = true) (hj : ops[j]? = some oj) (hq : quietOp oj.op = false) : ∃ e ∈ oj.after, Region.binds md e = true ∧ e.on = i := by
  have := List.all_eq_true.1 h j (by simpa using (Array.getElem?_eq_some_iff.1 hj).1)
  simp only [hj, hq, Bool.false_or, Array.any_eq_true'] at this
  obtain ⟨e, he, h2⟩ := this
  simp only [Bool.and_eq_true, beq_iff_eq] at h2
  exact ⟨e, he, h2.1, h2.2⟩
/-- An operation that only reads and is no load comes to the same in any memory. -/
theorem evOp_nomem {σ τ σ' : Mem} {op : Op} {ρ : Operand → AV} {x : AV} (hl : isLoad op = false) (hq : quietOp op = true) (h : evOp P op ρ σ = .ok x σ') : evOp P op ρ τ = .ok x τ := by
  have fin : ∀ {q : Option AV}, NextA.val σ q = .ok x σ' → NextA.val τ q = .ok x τ := fun {q} h => by rw [(val_ok h).1]; rfl
  cases op <;> first | (simp [quietOp] at hq; done) | (simp [isLoad] at hl; done) | skip
  case makeFunc fn first captured =>
    cases fn <;> simp only [evOp] at h ⊢ <;> first | (cases h; done) | skip
    split at h <;> first | (cases h; done) | skip
    rename_i h0
    rw [if_pos h0]
    cases h
    rfl
  case slice t x lo hi mx =>
    cases mx <;> simp only [evOp] at h ⊢ <;> first | (cases h; done) | skip
    exact fin h
  case call c =>
    obtain ⟨callee, cargs, ats⟩ := c
    cases callee with
    | value f => simp [quietOp] at hq
    | invoke r m => simp [quietOp] at hq
    | builtin b =>
      cases b <;> first | (simp [quietOp] at hq; done) | skip
      all_goals
        simp only [evOp] at h ⊢
        split at h <;> first | (cases h; done) | skip
        exact fin h
  all_goals
    simp only [evOp] at h ⊢
    first
      | (cases h; rfl)
      | exact fin h

def anyE (P : Program) (N : Nat) (md : Region.Mode) (ops : Array Oper) (M0 σ0 : Mem) (K : Fr → Mem → Prop) : Nat → Array Bool → Fr → Mem → Prop
  | 0, listed, fr, σ => Sub M0 σ ∧ (noSync ops listed → σ = σ0) ∧ Region.ready md ops listed = [] ∧ K fr σ
  | fuel + 1, listed, fr, σ => Sub M0 σ ∧ (noSync ops listed → σ = σ0) ∧ (Region.ready md ops listed = [] → K fr σ) ∧ ∀ i ∈ Region.ready md ops listed, ∃ o, ops[i]? = some o ∧ stepA P N ops o (anyE P N md ops M0 σ0 K fuel (listed.setIfInBounds i true)) fr σ
theorem anyE_head {fuel : Nat} {listed : Array Bool} {fr : Fr} {σ : Mem} (h : anyE P N md ops M0 σ0 K fuel listed fr σ) : Sub M0 σ ∧ (noSync ops listed → σ = σ0) := by
  cases fuel with
  | zero => exact ⟨h.1, h.2.1⟩
  | succ n => exact ⟨h.1, h.2.1⟩
theorem anyA_of_anyE : ∀ (fuel : Nat) (listed : Array Bool) (fr : Fr) (σ : Mem), anyE P N md ops M0 σ0 K fuel listed fr σ → anyA P N md ops M0 K fuel listed fr σ
  | 0, _, _, _, h => ⟨h.1, h.2.2.1, h.2.2.2⟩
  | fuel + 1, _, _, _, h => ⟨h.1, h.2.2.1, fun i hi => by
    obtain ⟨o, ho, h1⟩ := h.2.2.2 i hi
    exact ⟨o, ho, stepA_mono (fun fr σ => anyA_of_anyE fuel _ fr σ) h1⟩⟩

theorem noSync_more {listed : Array Bool} {i : Nat} {oi : Oper} (hi : ops[i]? = some oi) (hq : quietOp oi.op = true) (h : noSync ops listed) : noSync ops (listed.setIfInBounds i true) := fun j oj hj hqj => by
  by_cases hji : i = j
  · subst hji; rw [hi] at hj; cases hj; rw [hq] at hqj; cases hqj
  · rw [getD_set_ne true hji]; exact h j oj hj hqj
theorem anyE_first {i : Nat} {oi : Oper} {x : AV} (hi : ops[i]? = some oi) (hq : quietOp oi.op = true) : ∀ (fuel : Nat) (listed : Array Bool) (fr : Fr) (σ : Mem),
      (∀ j oj, ops[j]? = some oj → j ≠ i → listed.getD j true = false → (∀ e ∈ oj.after, Region.binds md e = true → e.on ≠ i) → oi.apart ops oj = true) →
      i ∈ Region.ready md ops listed → (StillA P N ops M0 oi x fr ∨ early md ops i = true ∧ noSync ops listed ∧ StillA P N ops σ0 oi x fr) → Sub M0 σ → (noSync ops listed → σ = σ0) →
      anyE P N md ops M0 σ0 K fuel (listed.setIfInBounds i true) (putA fr oi.dst x) σ → anyE P N md ops M0 σ0 K (fuel + 1) listed fr σ := by
  intro fuel
  have now : ∀ (listed : Array Bool) (fr : Fr) (σ : Mem) (K' : Fr → Mem → Prop), (StillA P N ops M0 oi x fr ∨ early md ops i = true ∧ noSync ops listed ∧ StillA P N ops σ0 oi x fr) → Sub M0 σ → (noSync ops listed → σ = σ0) → K' (putA fr oi.dst x) σ → stepA P N ops oi K' fr σ := by
    intro listed fr σ K' hy hs hn hK
    rcases hy with hy | ⟨_, hns, hy⟩
    · exact hy.step hs hK
    · have := hn hns
      subst this
      exact hy.step (fun _ _ h => h) hK
  induction fuel with
  | zero =>
    intro listed fr σ _ hr hy hs hn H
    refine ⟨hs, hn, fun h => (by rw [h] at hr; cases hr), fun j hj => ?_⟩
    by_cases hji : j = i
    · subst hji
      exact ⟨oi, hi, now _ _ _ _ hy hs hn H⟩
    · have h1 := ready_mono hj hji
      rw [H.2.2.1] at h1
      cases h1
  | succ fuel ih =>
    intro listed fr σ hfree hr hy hs hn H
    refine ⟨hs, hn, fun h => (by rw [h] at hr; cases hr), fun j hj => ?_⟩
    by_cases hji : j = i
    · subst hji
      exact ⟨oi, hi, now _ _ _ _ hy hs hn H⟩
    · obtain ⟨oj, hoj, h1⟩ := H.2.2.2 j (ready_mono hj hji)
      refine ⟨oj, hoj, ?_⟩
      obtain ⟨hjun, oj', hoj', hjall⟩ := mem_ready.1 hj
      have hiun := (mem_ready.1 hr).1
      rw [hoj] at hoj'
      cases hoj'
      have hnot : ∀ e ∈ oj.after, Region.binds md e = true → e.on ≠ i := fun e he hb hei => by
        have := hjall e he hb
        rw [hei] at this
        cases hg : listed[i]? <;> simp [Array.getD_eq_getD_getElem?, hg] at this hiun
        simp [this] at hiun
      have hap := hfree j oj hoj hji hjun hnot
      obtain ⟨a1, a2, a3⟩ := Oper.apart_spec hap
      have hfree' : ∀ k ok, ops[k]? = some ok → k ≠ i → (listed.setIfInBounds j true).getD k true = false → (∀ e ∈ ok.after, Region.binds md e = true → e.on ≠ i) → oi.apart ops ok = true := fun k ok hk hki hun hno => by
        refine hfree k ok hk hki ?_ hno
        by_cases hjk : j = k
        · subst hjk; exact hjun
        · rw [getD_set_ne true hjk] at hun; exact hun
      refine stepA_put oj a1 a2 (fun y σ' hy' => ?_) h1
      obtain ⟨b1, b2⟩ := anyE_head hy'
      refine ih _ _ _ hfree' (ready_mono hr (Ne.symm hji)) ?_ b1 (fun h => b2 ?_) ?_
      · rcases hy with hy | ⟨he, hns, hy⟩
        · exact .inl (hy.put a3)
        · refine .inr ⟨he, ?_, hy.put a3⟩
          refine noSync_more hoj ?_ hns
          cases hqj : quietOp oj.op with
          | true => rfl
          | false =>
            obtain ⟨e, he1, he2, he3⟩ := early_spec he hoj hqj
            exact absurd he3 (hnot e he1 he2)
      · rw [Array.setIfInBounds_comm _ _ (Ne.symm hji)]
        exact noSync_more hi hq h
      · rw [Array.setIfInBounds_comm _ _ hji]
        exact hy'

/-- THE ORDER: as 'ordFrom'; ahead of the first that writes or calls each load is one for which all these wait. -/
def ordFromE (md : Region.Mode) (ops : Array Oper) : List Nat → Array Bool → Bool
  | [], listed => (Region.ready md ops listed).isEmpty
  | i :: l, listed => match ops[i]? with
    | some o => if quietOp o.op then (Region.ready md ops listed).contains i && Region.free md ops listed i && (!isLoad o.op || early md ops i) && ordFromE md ops l (listed.setIfInBounds i true)
      else Region.ready md ops listed == [i] && ordFrom md ops l (listed.setIfInBounds i true)
    | none => false
def ordE (md : Region.Mode) (ops : Array Oper) (ord : List Nat) : Bool := decide (ord.length = ops.size) && ordFromE md ops ord (Array.replicate ops.size false)
def listE (P : Program) (N : Nat) (ops : Array Oper) (M0 : Mem) (K : Fr → Mem → Prop) : List Oper → Fr → Mem → Prop
  | [], fr, σ => K fr σ
  | o :: l, fr, σ => if quietOp o.op then ∃ x, StillA P N ops σ o x fr ∧ listE P N ops M0 K l (putA fr o.dst x) σ else stepA P N ops o (fun fr' σ' => Sub M0 σ' ∧ listA P N ops M0 K l fr' σ') fr σ

theorem still_any {o : Oper} {x : AV} {fr : Fr} {σ τ : Mem} (hl : isLoad o.op = false) (h : StillA P N ops σ o x fr) : StillA P N ops τ o x fr := by
  obtain ⟨h0, ⟨h1, h2, τ', h3⟩ | h1⟩ := h
  · exact ⟨h0, .inl ⟨h1, h2, τ, evOp_nomem hl h2 h3⟩⟩
  · exact ⟨h0, .inr h1⟩
/-- Once one that writes or calls is listed, the start counts no more. -/
theorem anyE_late : ∀ (ord : List Nat) (l : List Oper) (listed : Array Bool) (fr : Fr) (σ : Mem), ord.map (fun i => ops[i]?) = l.map some → ordFrom md ops ord listed = true → Sub M0 σ → ¬ noSync ops listed → listA P N ops M0 K l fr σ → anyE P N md ops M0 σ0 K ord.length listed fr σ
  | [], [], listed, fr, σ, _, hB, hs, hn, h => ⟨hs, fun e => absurd e hn, by simpa [ordFrom] using hB, h⟩
  | [], _ :: _, _, _, _, hl, _, _, _, _ => by simp at hl
  | _ :: _, [], _, _, _, hl, _, _, _, _ => by simp at hl
  | i :: ord, o :: l, listed, fr, σ, hl, hB, hs, hn, h => by
    simp only [List.map_cons, List.cons.injEq] at hl
    obtain ⟨h0, hl⟩ := hl
    simp only [ordFrom, h0, Bool.and_eq_true] at hB
    obtain ⟨hB1, hB2⟩ := hB
    have hn' : ¬ noSync ops (listed.setIfInBounds i true) := fun e => hn fun j oj hj hq => by
      have := e j oj hj hq
      by_cases hij : i = j
      · subst hij
        have hlt := (Array.getElem?_eq_some_iff.1 hj).1
        rw [Array.getD_eq_getD_getElem?, Array.getElem?_setIfInBounds_self] at this
        by_cases hs' : i < listed.size <;> simp [hs'] at this
      · rw [getD_set_ne true hij] at this; exact this
    unfold listA at h
    by_cases hq : quietOp o.op = true
    · rw [if_pos hq] at h hB1
      obtain ⟨x, h1, h2⟩ := h
      simp only [Bool.and_eq_true] at hB1
      exact anyE_first h0 hq ord.length listed fr σ (Region.free_spec h0 hB1.2) (by simpa using hB1.1) (.inl h1) hs (fun e => absurd e hn) (anyE_late ord l _ _ _ hl hB2 hs hn' h2)
    · rw [if_neg hq] at h hB1
      have hrd : Region.ready md ops listed = [i] := by simpa using hB1
      refine ⟨hs, fun e => absurd e hn, fun e => (by rw [hrd] at e; cases e), fun j hj => ?_⟩
      rw [hrd] at hj
      have hji : j = i := by simpa using hj
      subst hji
      exact ⟨o, h0, stepA_mono (fun fr' σ' h' => anyE_late ord l _ fr' σ' hl hB2 h'.1 hn' h'.2) h⟩
theorem anyE_list : ∀ (ord : List Nat) (l : List Oper) (listed : Array Bool) (fr : Fr), ord.map (fun i => ops[i]?) = l.map some → ordFromE md ops ord listed = true → listed.size = ops.size → Sub M0 σ0 → noSync ops listed → listE P N ops M0 K l fr σ0 → anyE P N md ops M0 σ0 K ord.length listed fr σ0
  | [], [], listed, fr, _, hB, _, hs, _, h => ⟨hs, fun _ => rfl, by simpa [ordFromE] using hB, h⟩
  | [], _ :: _, _, _, hl, _, _, _, _, _ => by simp at hl
  | _ :: _, [], _, _, hl, _, _, _, _, _ => by simp at hl
  | i :: ord, o :: l, listed, fr, hl, hB, hsz, hs, hn, h => by
    simp only [List.map_cons, List.cons.injEq] at hl
    obtain ⟨h0, hl⟩ := hl
    unfold listE at h
    by_cases hq : quietOp o.op = true
    · rw [if_pos hq] at h
      simp only [ordFromE, h0, hq, if_true, Bool.and_eq_true, Bool.or_eq_true, Bool.not_eq_true'] at hB
      obtain ⟨⟨⟨b1, b2⟩, b3⟩, b4⟩ := hB
      obtain ⟨x, h1, h2⟩ := h
      refine anyE_first h0 hq ord.length listed fr σ0 (Region.free_spec h0 b2) (by simpa using b1) ?_ hs (fun _ => rfl) (anyE_list ord l _ _ hl b4 (by simpa using hsz) hs (noSync_more h0 hq hn) h2)
      rcases b3 with b3 | b3
      · exact .inl (still_any b3 h1)
      · exact .inr ⟨b3, hn, h1⟩
    · rw [if_neg hq] at h
      simp only [ordFromE, h0, hq, Bool.false_eq_true, if_false, Bool.and_eq_true, beq_iff_eq] at hB
      obtain ⟨hrd, hB2⟩ := hB
      refine ⟨hs, fun _ => rfl, fun e => (by rw [hrd] at e; cases e), fun j hj => ?_⟩
      rw [hrd] at hj
      have hji : j = i := by simpa using hj
      subst hji
      refine ⟨o, h0, stepA_mono (fun fr' σ' h' => anyE_late ord l _ fr' σ' hl hB2 h'.1 (fun e => ?_) h'.2) h⟩
      have := e j o h0 (by simpa using hq)
      have hlt : j < listed.size := by rw [hsz]; exact (Array.getElem?_eq_some_iff.1 h0).1
      rw [Array.getD_eq_getD_getElem?, Array.getElem?_setIfInBounds_self] at this
      simp [hlt] at this
end

/-! ### The rule, and its equations for 'simp' -/
section
variable {P : Program} {N : Nat} {Q : Fr → Mem → Prop} {k : List Itm} {fr : Fr} {σ M0 : Mem} {all : Array Oper} {o : Oper} {l : List Oper}
def EWe (M0 : Mem) (P : Program) (N : Nat) (Q : Fr → Mem → Prop) (k : List Itm) (all : Array Oper) (l : List Oper) (fr : Fr) (σ : Mem) : Prop := listE P N all M0 (fun fr σ => EW P N Q k fr σ) l fr σ
@[congr] theorem EWe_congr {fr' : Fr} {σ' : Mem} (h2 : fr = fr') (h3 : σ = σ') : EWe M0 P N Q k all l fr σ = EWe M0 P N Q k all l fr' σ' := by rw [h2, h3]
theorem EW_regionE {id : Nat} {l : List Oper} (M0 : Mem) (h1 : P.follows .mixedOrders = true) (h2 : ordE .any l.toArray (List.range l.length) = true) (hs : Sub M0 σ) (h : (∀ i, σ.next ≤ i → σ.get i = none) → EWe M0 P N Q k l.toArray l fr σ) :
    EW P N Q (.code (.region id l.toArray true) :: k) fr σ := by
  simp only [ordE, Bool.and_eq_true, decide_eq_true_eq] at h2
  have hl : (List.range l.length).map (fun i => l.toArray[i]?) = l.map some := by
    apply List.ext_getElem?
    intro i
    simp only [List.getElem?_map, List.getElem?_toArray]
    by_cases hi : i < l.length
    · rw [List.getElem?_range hi]
      simp [hi]
    · rw [List.getElem?_eq_none (by simpa using hi), List.getElem?_eq_none (by omega)]
      rfl
  by_cases hfin : ∀ i, σ.next ≤ i → σ.get i = none
  · refine .raw (fun fr' σ' => EW P N Q k fr' σ') (fun φ w a hr hf hd hn => ?_) (fun _ _ h => h)
    have hcls := Cls.drew w
    have hany := anyA_of_anyE _ _ _ _ (anyE_list (md := .any) (P := P) (N := N) (M0 := M0) (σ0 := σ) (K := fun fr σ => EW P N Q k fr σ) (List.range l.length) l (Array.replicate l.toArray.size false) fr hl h2.2 (by simp) hs
      (fun j oj hj _ => by
        have hlt := (Array.getElem?_eq_some_iff.1 hj).1
        rw [Array.getD_eq_getD_getElem?, Array.getElem?_replicate, if_pos hlt]
        rfl) (h hfin))
    rw [h2.1] at hany
    refine Code.wp_mono ?_ (wp_region_any (Q := fun e a' w' => e = .normal ∧ St φ σ w N (fun fr σ => EW P N Q k fr σ) a' w') h1
      (wpAny_of_anyA (φ0 := φ) (σ0 := σ) (w0 := w) l.toArray.size _ fr σ φ _ a (hr.cls hcls) (hf.step (Cls.step hcls)) hd hn (Cls.step hcls) hany))
    rintro e a' w' ⟨rfl, φ', σ', fr', k1, k2, k3, k4, k5, k6⟩
    exact ⟨rfl, φ', σ', fr', k1, k2, k3, k4, k5, k6⟩
  · refine .raw (fun _ _ => False) (fun φ w a hr _ _ _ => absurd (fun i hi => ?_) hfin) (fun _ _ h => h.elim)
    cases hg : σ.get i with
    | none => rfl
    | some cs => exact absurd (hr.live i cs hg) (by omega)
/-- Behind a reading operation ahead of the first that writes or calls. -/
def EWeq (n : NextA) (ok : Bool) (M0 : Mem) (P : Program) (N : Nat) (Q : Fr → Mem → Prop) (dst : Option Tmp) (l : List Oper) (all : Array Oper) (k : List Itm) (fr : Fr) (σ : Mem) : Prop :=
  match n with
  | .ok x _ => ok = true ∧ EWe M0 P N Q k all l (putA fr dst x) σ
  | _ => False
def EWeg (g : GuardA) (ok q : Bool) (M0 : Mem) (P : Program) (N : Nat) (Q : Fr → Mem → Prop) (o : Oper) (l : List Oper) (all : Array Oper) (k : List Itm) (fr : Fr) (σ : Mem) : Prop :=
  if q then (match wantG g with
    | some true => EWeq (evOp P o.op (evalA fr) σ) ok M0 P N Q o.dst l all k fr σ
    | some false => ok = true ∧ EWe M0 P N Q k all l (putA fr o.dst .undef) σ
    | none => False)
  else match wantG g with
    | some true => EWln (evOp P o.op (evalA fr) σ) ok M0 P N Q o.dst l all k fr σ
    | some false => ok = true ∧ Sub M0 σ ∧ EWl M0 P N Q k all l (putA fr o.dst .undef) σ
    | none => False
@[congr] theorem EWeg_congr {g g' : GuardA} {ok ok' q q' : Bool} {fr' : Fr} {σ' : Mem} (h0 : g = g') (h1 : ok = ok') (hq : q = q') (h2 : fr = fr') (h3 : σ = σ') :
    EWeg g ok q M0 P N Q o l all k fr σ = EWeg g' ok' q' M0 P N Q o l all k fr' σ' := by rw [h0, h1, hq, h2, h3]
@[congr] theorem EWeq_congr {n n' : NextA} {ok ok' : Bool} {dst : Option Tmp} {fr' : Fr} {σ' : Mem} (h0 : n = n') (h1 : ok = ok') (h2 : fr = fr') (h3 : σ = σ') :
    EWeq n ok M0 P N Q dst l all k fr σ = EWeq n' ok' M0 P N Q dst l all k fr' σ' := by rw [h0, h1, h2, h3]
theorem EWe_nil : EWe M0 P N Q k all [] fr σ = EW P N Q k fr σ := rfl
theorem EWe_cons : EWe M0 P N Q k all (o :: l) fr σ = EWeg (guardA all o fr) (dstOk N o.dst) (quietOp o.op) M0 P N Q o l all k fr σ := by
  apply propext
  unfold EWe EWeg listE
  cases hq : quietOp o.op with
  | true =>
    simp only [if_true]
    unfold StillA wantA
    simp only [hq, true_and]
    cases hw : wantG (guardA all o fr) with
    | none => simp
    | some b =>
      cases b with
      | true =>
        simp only [EWeq, Option.some.injEq, Bool.true_eq_false, false_and, or_false, true_and]
        constructor
        · rintro ⟨x, ⟨h1, τ, h2⟩, h3⟩
          rw [h2]
          exact ⟨h1, h3⟩
        · intro h
          split at h
          · rename_i x τ he
            exact ⟨x, ⟨h.1, τ, he⟩, h.2⟩
          · exact h.elim
      | false =>
        simp only [Option.some.injEq, Bool.false_eq_true, false_and, false_or, true_and]
        constructor
        · rintro ⟨x, ⟨h1, rfl⟩, h3⟩
          exact ⟨h1, h3⟩
        · rintro ⟨h1, h3⟩
          exact ⟨_, ⟨h1, rfl⟩, h3⟩
  | false =>
    simp only [Bool.false_eq_true, if_false]
    unfold stepA wantA
    cases wantG (guardA all o fr) with
    | none => exact Iff.rfl
    | some b =>
      cases b with
      | false => exact Iff.rfl
      | true =>
        simp only
        unfold runA EWln
        cases evOp P o.op (evalA fr) σ <;> exact Iff.rfl
theorem EWeg_q (g : GuardA) (ok : Bool) (h : wantG g = some true) : EWeg g ok true M0 P N Q o l all k fr σ = EWeq (evOp P o.op (evalA fr) σ) ok M0 P N Q o.dst l all k fr σ := by unfold EWeg; simp only [if_true, h]
theorem EWeg_n (g : GuardA) (ok : Bool) (h : wantG g = some true) : EWeg g ok false M0 P N Q o l all k fr σ = EWln (evOp P o.op (evalA fr) σ) ok M0 P N Q o.dst l all k fr σ := by unfold EWeg; simp only [Bool.false_eq_true, if_false, h]
theorem EWeg_off (g : GuardA) (h : wantG g = some false) : EWeg g true true M0 P N Q o l all k fr σ = EWe M0 P N Q k all l (putA fr o.dst .undef) σ := by unfold EWeg; simp [h]
theorem EWeg_run_q (ok : Bool) : EWeg .run ok true M0 P N Q o l all k fr σ = EWeq (evOp P o.op (evalA fr) σ) ok M0 P N Q o.dst l all k fr σ := EWeg_q _ _ rfl
theorem EWeg_yes_q (ok : Bool) : EWeg (.test true true) ok true M0 P N Q o l all k fr σ = EWeq (evOp P o.op (evalA fr) σ) ok M0 P N Q o.dst l all k fr σ := EWeg_q _ _ rfl
theorem EWeg_no_q (ok : Bool) : EWeg (.test false false) ok true M0 P N Q o l all k fr σ = EWeq (evOp P o.op (evalA fr) σ) ok M0 P N Q o.dst l all k fr σ := EWeg_q _ _ rfl
theorem EWeg_skip_q : EWeg .skip true true M0 P N Q o l all k fr σ = EWe M0 P N Q k all l (putA fr o.dst .undef) σ := EWeg_off _ rfl
theorem EWeg_off_q : EWeg (.test true false) true true M0 P N Q o l all k fr σ = EWe M0 P N Q k all l (putA fr o.dst .undef) σ := EWeg_off _ rfl
theorem EWeg_off_q' : EWeg (.test false true) true true M0 P N Q o l all k fr σ = EWe M0 P N Q k all l (putA fr o.dst .undef) σ := EWeg_off _ rfl
theorem EWeg_run_n (ok : Bool) : EWeg .run ok false M0 P N Q o l all k fr σ = EWln (evOp P o.op (evalA fr) σ) ok M0 P N Q o.dst l all k fr σ := EWeg_n _ _ rfl
theorem EWeg_yes_n (ok : Bool) : EWeg (.test true true) ok false M0 P N Q o l all k fr σ = EWln (evOp P o.op (evalA fr) σ) ok M0 P N Q o.dst l all k fr σ := EWeg_n _ _ rfl
theorem EWeg_no_n (ok : Bool) : EWeg (.test false false) ok false M0 P N Q o l all k fr σ = EWln (evOp P o.op (evalA fr) σ) ok M0 P N Q o.dst l all k fr σ := EWeg_n _ _ rfl
theorem EWeq_ok (x : AV) (τ : Mem) (dst : Option Tmp) : EWeq (.ok x τ) true M0 P N Q dst l all k fr σ = EWe M0 P N Q k all l (putA fr dst x) σ := by simp [EWeq]
end
attribute [go_sem] EWe_nil EWe_cons EWeg_run_q EWeg_yes_q EWeg_no_q EWeg_skip_q EWeg_off_q EWeg_off_q' EWeg_run_n EWeg_yes_n EWeg_no_n EWeq_ok
end Go.Ew
namespace Go.Ew
open Go Go.RowKit

/-- The orders: 'q': one that only reads (true: it reads the memory at the region's head); 's': one that writes or calls; 'both': either way. -/
inductive Tr where
  | done
  | q (e : Bool) (i : Nat) (t : Tr)
  | s (i : Nat) (t : Tr)
  | both (a b : Tr)
def Tr.heads : Tr → List Nat
  | .s i _ => [i]
  | .both a b => a.heads ++ b.heads
  | _ => []
def Tr.size : Tr → Nat
  | .done => 0
  | .q _ _ t => t.size + 1
  | .s _ t => t.size + 1
  | .both a _ => a.size
section
variable {P : Program} {N : Nat} {ops : Array Oper} {md : Region.Mode} {M0 σ0 : Mem} {K : Fr → Mem → Prop}
end

section
variable {P : Program} {N : Nat} {Q : Fr → Mem → Prop} {k : List Itm} {fr : Fr} {σ M0 : Mem}
end
end Go.Ew
namespace Go.Ew
open Go Go.RowKit

/-- Nothing from number n on is listed yet. -/
def noLate (n : Nat) (ops : Array Oper) (listed : Array Bool) : Prop := ∀ j oj, n ≤ j → ops[j]? = some oj → listed.getD j true = false
/-- Everything from number n on waits for number i. -/
def lateWait (md : Region.Mode) (n : Nat) (ops : Array Oper) (i : Nat) : Bool :=
  decide (i < n) && (List.range ops.size).all fun j => match ops[j]? with | some oj => decide (j < n) || oj.after.any (fun e => Region.binds md e && e.on == i) | none => true
def ordLate (md : Region.Mode) (ops : Array Oper) : List Nat → Array Bool → Bool
  | [], listed => (Region.ready md ops listed).isEmpty
  | i :: l, listed => Region.ready md ops listed == [i] && ordLate md ops l (listed.setIfInBounds i true)
def ordFromZ (md : Region.Mode) (n : Nat) (ops : Array Oper) (late : List Nat) : List Nat → Array Bool → Bool
  | [], listed => ordLate md ops late listed
  | i :: l, listed => (match ops[i]? with | some o => (if quietOp o.op then (Region.ready md ops listed).contains i && Region.free md ops listed i && lateWait md n ops i else Region.ready md ops listed == [i] && decide (i < n)) | none => false) && ordFromZ md n ops late l (listed.setIfInBounds i true)
def ordZ (md : Region.Mode) (n : Nat) (ops : Array Oper) (ord : List Nat) : Bool := decide (n ≤ ops.size) && decide (ord.length = n) && (ord.all fun i => decide (i < ops.size)) && ordFromZ md n ops ((List.range (ops.size - n)).map (n + ·)) ord (Array.replicate ops.size false)

section
variable {P : Program} {N : Nat} {ops : Array Oper} {md : Region.Mode} {M0 : Mem} {n : Nat} {K : Fr → Mem → Prop}
def anyZ (P : Program) (N : Nat) (md : Region.Mode) (n : Nat) (ops : Array Oper) (M0 : Mem) (K : Fr → Mem → Prop) : Nat → Array Bool → Fr → Mem → Prop
  | 0, listed, fr, σ => (noLate n ops listed → Sub M0 σ) ∧ Region.ready md ops listed = [] ∧ K fr σ
  | fuel + 1, listed, fr, σ => (noLate n ops listed → Sub M0 σ) ∧ (Region.ready md ops listed = [] → K fr σ) ∧ ∀ i ∈ Region.ready md ops listed, ∃ o, ops[i]? = some o ∧ stepA P N ops o (anyZ P N md n ops M0 K fuel (listed.setIfInBounds i true)) fr σ
theorem anyZ_head {fuel : Nat} {listed : Array Bool} {fr : Fr} {σ : Mem} (h : anyZ P N md n ops M0 K fuel listed fr σ) : noLate n ops listed → Sub M0 σ := by
  cases fuel with
  | zero => exact h.1
  | succ m => exact h.1
theorem anyA_of_anyZ : ∀ (fuel : Nat) (listed : Array Bool) (fr : Fr) (σ : Mem), anyZ P N md n ops M0 K fuel listed fr σ → anyA P N md ops Mem.empty K fuel listed fr σ
  | 0, _, _, σ, h => ⟨fun _ _ e => (by cases e), h.2.1, h.2.2⟩
  | fuel + 1, _, _, σ, h => ⟨fun _ _ e => (by cases e), h.2.1, fun i hi => by
    obtain ⟨o, ho, h1⟩ := h.2.2 i hi
    exact ⟨o, ho, stepA_mono (fun fr σ => anyA_of_anyZ fuel _ fr σ) h1⟩⟩
theorem noLate_set {listed : Array Bool} {i : Nat} (hi : i < n) : noLate n ops (listed.setIfInBounds i true) ↔ noLate n ops listed := by
  constructor
  · intro h j oj hj ho
    have := h j oj hj ho
    rwa [getD_set_ne true (by omega)] at this
  · intro h j oj hj ho
    rw [getD_set_ne true (by omega)]
    exact h j oj hj ho
theorem lateWait_spec {i : Nat} (h : lateWait md n ops i = true) : i < n ∧ ∀ j oj, n ≤ j → ops[j]? = some oj → ∃ e ∈ oj.after, Region.binds md e = true ∧ e.on = i := by
  simp only [lateWait, Bool.and_eq_true, decide_eq_true_eq] at h
  refine ⟨h.1, fun j oj hj ho => ?_⟩
  have := List.all_eq_true.1 h.2 j (by simpa using (Array.getElem?_eq_some_iff.1 ho).1)
  simp only [ho, Bool.or_eq_true, decide_eq_true_eq, Array.any_eq_true'] at this
  rcases this with h1 | ⟨e, he, h2⟩
  · omega
  · simp only [Bool.and_eq_true, beq_iff_eq] at h2
    exact ⟨e, he, h2.1, h2.2⟩
theorem anyZ_first {i : Nat} {oi : Oper} {x : AV} (hi : ops[i]? = some oi) (hin : i < n) (hlate : ∀ j oj, n ≤ j → ops[j]? = some oj → ∃ e ∈ oj.after, Region.binds md e = true ∧ e.on = i) : ∀ (fuel : Nat) (listed : Array Bool) (fr : Fr) (σ : Mem),
      (∀ j oj, ops[j]? = some oj → j ≠ i → listed.getD j true = false → (∀ e ∈ oj.after, Region.binds md e = true → e.on ≠ i) → oi.apart ops oj = true) →
      i ∈ Region.ready md ops listed → StillA P N ops M0 oi x fr → Sub M0 σ → noLate n ops listed → anyZ P N md n ops M0 K fuel (listed.setIfInBounds i true) (putA fr oi.dst x) σ → anyZ P N md n ops M0 K (fuel + 1) listed fr σ := by
  intro fuel
  induction fuel with
  | zero =>
    intro listed fr σ _ hr hy hs _ H
    refine ⟨fun _ => hs, fun h => (by rw [h] at hr; cases hr), fun j hj => ?_⟩
    by_cases hji : j = i
    · subst hji
      exact ⟨oi, hi, hy.step hs H⟩
    · have h1 := ready_mono hj hji
      rw [H.2.1] at h1
      cases h1
  | succ fuel ih =>
    intro listed fr σ hfree hr hy hs hL H
    refine ⟨fun _ => hs, fun h => (by rw [h] at hr; cases hr), fun j hj => ?_⟩
    by_cases hji : j = i
    · subst hji
      exact ⟨oi, hi, hy.step hs H⟩
    · obtain ⟨oj, hoj, h1⟩ := H.2.2 j (ready_mono hj hji)
      refine ⟨oj, hoj, ?_⟩
      obtain ⟨hjun, oj', hoj', hjall⟩ := mem_ready.1 hj
      have hiun := (mem_ready.1 hr).1
      rw [hoj] at hoj'
      cases hoj'
      have hnot : ∀ e ∈ oj.after, Region.binds md e = true → e.on ≠ i := fun e he hb hei => by
        have := hjall e he hb
        rw [hei] at this
        cases hg : listed[i]? <;> simp [Array.getD_eq_getD_getElem?, hg] at this hiun
        simp [this] at hiun
      have hjn : j < n := by
        by_cases hc : j < n
        · exact hc
        · obtain ⟨e, he1, he2, he3⟩ := hlate j oj (by omega) hoj
          exact absurd he3 (hnot e he1 he2)
      have hap := hfree j oj hoj hji hjun hnot
      obtain ⟨a1, a2, a3⟩ := Oper.apart_spec hap
      have hfree' : ∀ k ok, ops[k]? = some ok → k ≠ i → (listed.setIfInBounds j true).getD k true = false → (∀ e ∈ ok.after, Region.binds md e = true → e.on ≠ i) → oi.apart ops ok = true := fun k ok hk hki hun hno => by
        refine hfree k ok hk hki ?_ hno
        by_cases hjk : j = k
        · subst hjk; exact hjun
        · rw [getD_set_ne true hjk] at hun; exact hun
      refine stepA_put oj a1 a2 (fun y σ' hy' => ?_) h1
      have hL' : noLate n ops (listed.setIfInBounds j true) := (noLate_set hjn).2 hL
      refine ih _ _ _ hfree' (ready_mono hr (Ne.symm hji)) (hy.put a3) (anyZ_head hy' ((noLate_set hjn).2 ((noLate_set hin).2 hL))) hL' ?_
      rw [Array.setIfInBounds_comm _ _ hji]
      exact hy'
/-- The last operations in a row. -/
def rowA (P : Program) (N : Nat) (ops : Array Oper) (K : Fr → Mem → Prop) : List Oper → Fr → Mem → Prop
  | [], fr, σ => K fr σ
  | o :: l, fr, σ => stepA P N ops o (rowA P N ops K l) fr σ
theorem anyZ_row : ∀ (ord : List Nat) (l : List Oper) (listed : Array Bool) (fr : Fr) (σ : Mem), ord.map (fun i => ops[i]?) = l.map some → ordLate md ops ord listed = true → listed.size = ops.size → (∀ i ∈ ord, n ≤ i) → (noLate n ops listed → Sub M0 σ) → rowA P N ops K l fr σ → anyZ P N md n ops M0 K ord.length listed fr σ
  | [], [], listed, fr, σ, _, hB, _, _, hs, h => ⟨hs, by simpa [ordLate] using hB, h⟩
  | [], _ :: _, _, _, _, hl, _, _, _, _, _ => by simp at hl
  | _ :: _, [], _, _, _, hl, _, _, _, _, _ => by simp at hl
  | i :: ord, o :: l, listed, fr, σ, hl, hB, hsz, hn, hs, h => by
    simp only [List.map_cons, List.cons.injEq] at hl
    obtain ⟨h0, hl⟩ := hl
    simp only [ordLate, Bool.and_eq_true, beq_iff_eq] at hB
    obtain ⟨hrd, hB2⟩ := hB
    refine ⟨hs, fun e => (by rw [hrd] at e; cases e), fun j hj => ?_⟩
    rw [hrd] at hj
    have hji : j = i := by simpa using hj
    subst hji
    refine ⟨o, h0, stepA_mono (fun fr' σ' h' => anyZ_row ord l _ fr' σ' hl hB2 (by simpa using hsz) (fun i hi => hn i (by simp [hi])) (fun e => ?_) h') h⟩
    have := e j o (hn j (by simp)) h0
    have hlt : j < listed.size := by rw [hsz]; exact (Array.getElem?_eq_some_iff.1 h0).1
    rw [Array.getD_eq_getD_getElem?, Array.getElem?_setIfInBounds_self] at this
    simp [hlt] at this
theorem anyZ_list {late : List Nat} {l2 : List Oper} (hl2 : late.map (fun i => ops[i]?) = l2.map some) (hln : ∀ i ∈ late, n ≤ i) : ∀ (ord : List Nat) (l : List Oper) (listed : Array Bool) (fr : Fr) (σ : Mem), ord.map (fun i => ops[i]?) = l.map some → ordFromZ md n ops late ord listed = true → listed.size = ops.size → noLate n ops listed → Sub M0 σ →
      listA P N ops M0 (rowA P N ops K l2) l fr σ → anyZ P N md n ops M0 K (ord.length + late.length) listed fr σ
  | [], [], listed, fr, σ, _, hB, hsz, hL, hs, h => by
    rw [List.length_nil, Nat.zero_add]
    exact anyZ_row late l2 listed fr σ hl2 hB hsz hln (fun _ => hs) h
  | [], _ :: _, _, _, _, hl, _, _, _, _, _ => by simp at hl
  | _ :: _, [], _, _, _, hl, _, _, _, _, _ => by simp at hl
  | i :: ord, o :: l, listed, fr, σ, hl, hB, hsz, hL, hs, h => by
    simp only [List.map_cons, List.cons.injEq] at hl
    obtain ⟨h0, hl⟩ := hl
    simp only [ordFromZ, h0, Bool.and_eq_true] at hB
    obtain ⟨hB1, hB2⟩ := hB
    rw [List.length_cons, show ord.length + 1 + late.length = (ord.length + late.length) + 1 by omega]
    unfold listA at h
    by_cases hq : quietOp o.op = true
    · rw [if_pos hq] at h hB1
      obtain ⟨x, h1, h2⟩ := h
      simp only [Bool.and_eq_true] at hB1
      obtain ⟨w1, w2⟩ := lateWait_spec hB1.2
      exact anyZ_first h0 w1 w2 _ listed fr σ (Region.free_spec h0 hB1.1.2) (by simpa using hB1.1.1) h1 hs hL (anyZ_list hl2 hln ord l _ _ _ hl hB2 (by simpa using hsz) ((noLate_set w1).2 hL) hs h2)
    · rw [if_neg hq] at h hB1
      simp only [Bool.and_eq_true, beq_iff_eq, decide_eq_true_eq] at hB1
      obtain ⟨hrd, hin⟩ := hB1
      refine ⟨fun _ => hs, fun e => (by rw [hrd] at e; cases e), fun j hj => ?_⟩
      rw [hrd] at hj
      have hji : j = i := by simpa using hj
      subst hji
      exact ⟨o, h0, stepA_mono (fun fr' σ' h' => anyZ_list hl2 hln ord l _ fr' σ' hl hB2 (by simpa using hsz) ((noLate_set hin).2 hL) h'.1 h'.2) h⟩
end
section
variable {P : Program} {N : Nat} {Q : Fr → Mem → Prop} {k : List Itm} {fr : Fr} {σ M0 : Mem} {all : Array Oper} {o : Oper} {l : List Oper}
theorem step_of_EW (h : EW P N Q (.ops false (o :: l) all :: k) fr σ) : stepA P N all o (fun fr σ => EW P N Q (.ops false l all :: k) fr σ) fr σ := by
  rw [EW_ops] at h
  unfold stepA wantA
  have run : EW P N Q (.run false o l all :: k) fr σ → runA P N o (fun fr σ => EW P N Q (.ops false l all :: k) fr σ) fr σ := by
    intro h
    rw [EW_run] at h
    unfold runA
    cases he : evOp P o.op (evalA fr) σ with
    | ok x σ' => rw [he] at h; exact h
    | call f args => rw [he] at h; exact h
    | fail => rw [he] at h; exact h
  cases hg : guardA all o fr with
  | run => rw [hg] at h; exact run h
  | skip => rw [hg] at h; exact h
  | test x b =>
    rw [hg] at h
    obtain ⟨h1, h2, h3⟩ := h
    by_cases hx : x = b
    · simp only [wantG, hx, beq_self_eq_true]
      exact run (h2 hx)
    · simp only [wantG, show (x == b) = false by simpa using hx]
      exact ⟨h1, h3 hx⟩
  | fail => rw [hg] at h; exact h
theorem row_of_EW : ∀ (l : List Oper) (fr : Fr) (σ : Mem), EW P N Q (.ops false l all :: k) fr σ → rowA P N all (fun fr σ => EW P N Q k fr σ) l fr σ
  | [], _, _, h => by rw [EW_opsNil] at h; exact h
  | o :: l, _, _, h => stepA_mono (fun fr' σ' h' => row_of_EW l fr' σ' h') (step_of_EW h)
theorem listA_mono {K K' : Fr → Mem → Prop} (hK : ∀ fr σ, K fr σ → K' fr σ) : ∀ (l : List Oper) (fr : Fr) (σ : Mem), listA P N all M0 K l fr σ → listA P N all M0 K' l fr σ
  | [], _, _, h => hK _ _ h
  | o :: l, fr, σ, h => by
    unfold listA at h ⊢
    split at h
    · rename_i hq
      rw [if_pos hq]
      obtain ⟨x, h1, h2⟩ := h
      exact ⟨x, h1, listA_mono hK l _ _ h2⟩
    · rename_i hq
      rw [if_neg hq]
      exact stepA_mono (fun fr' σ' h' => ⟨h'.1, listA_mono hK l _ _ h'.2⟩) h
/-- The first n in an order that is named, as in 'EW_regionP', the rest in a row. -/
theorem EW_regionZ {id : Nat} {l : List Oper} (M0 : Mem) (n : Nat) (ord : List Nat) (h1 : P.follows .mixedOrders = true) (h2 : ordZ .any n l.toArray ord = true) (hs : Sub M0 σ) (h : (∀ i, σ.next ≤ i → σ.get i = none) → EWl M0 P N Q (.ops false (l.drop n) l.toArray :: k) l.toArray (ord.filterMap fun i => l[i]?) fr σ) :
    EW P N Q (.code (.region id l.toArray true) :: k) fr σ := by
  simp only [ordZ, Bool.and_eq_true, decide_eq_true_eq, List.size_toArray] at h2
  obtain ⟨⟨⟨hn, ho⟩, h3⟩, h2⟩ := h2
  have hl : ord.map (fun i => l.toArray[i]?) = (ord.filterMap fun i => l[i]?).map some := by
    have h4 : ∀ i ∈ ord, i < l.length := fun i hi => by simpa using List.all_eq_true.1 h3 i hi
    clear h h2 ho h3
    induction ord with
    | nil => rfl
    | cons i ord ih =>
      have hi := h4 i (by simp)
      have := ih (fun j hj => h4 j (by simp [hj]))
      simp only [List.getElem?_toArray] at this
      simp only [List.map_cons, List.getElem?_toArray, List.getElem?_eq_getElem hi, List.filterMap_cons]
      rw [this]
  have hl2 : ((List.range (l.length - n)).map (n + ·)).map (fun i => l.toArray[i]?) = (l.drop n).map some := by
    apply List.ext_getElem?
    intro i
    simp only [List.getElem?_map, List.getElem?_toArray, List.getElem?_drop]
    by_cases hi : i < l.length - n
    · rw [List.getElem?_range hi]
      simp [show n + i < l.length by omega]
    · rw [List.getElem?_eq_none (by simpa using hi), List.getElem?_eq_none (by omega)]
      rfl
  by_cases hfin : ∀ i, σ.next ≤ i → σ.get i = none
  · refine .raw (fun fr' σ' => EW P N Q k fr' σ') (fun φ w a hr hf hd hn' => ?_) (fun _ _ h => h)
    have hcls := Cls.drew w
    have hany := anyA_of_anyZ _ _ _ _ (anyZ_list (md := .any) (P := P) (N := N) (n := n) (M0 := M0) (K := fun fr σ => EW P N Q k fr σ) hl2 (fun i hi => by obtain ⟨j, _, rfl⟩ := List.mem_map.1 hi; omega) ord (ord.filterMap fun i => l[i]?) (Array.replicate l.toArray.size false) fr σ hl h2 (by simp)
      (fun j oj _ hj => by
        have hlt := (Array.getElem?_eq_some_iff.1 hj).1
        rw [Array.getD_eq_getD_getElem?, Array.getElem?_replicate, if_pos hlt]
        rfl) hs (listA_mono (fun fr' σ' h' => row_of_EW _ fr' σ' h') _ _ _ (h hfin)))
    rw [ho, List.length_map, List.length_range, show n + (l.length - n) = l.toArray.size by simp; omega] at hany
    refine Code.wp_mono ?_ (wp_region_any (Q := fun e a' w' => e = .normal ∧ St φ σ w N (fun fr σ => EW P N Q k fr σ) a' w') h1
      (wpAny_of_anyA (φ0 := φ) (σ0 := σ) (w0 := w) l.toArray.size _ fr σ φ _ a (hr.cls hcls) (hf.step (Cls.step hcls)) hd hn' (Cls.step hcls) hany))
    rintro e a' w' ⟨rfl, φ', σ', fr', k1, k2, k3, k4, k5, k6⟩
    exact ⟨rfl, φ', σ', fr', k1, k2, k3, k4, k5, k6⟩
  · refine .raw (fun _ _ => False) (fun φ w a hr _ _ _ => absurd (fun i hi => ?_) hfin) (fun _ _ h => h.elim)
    cases hg : σ.get i with
    | none => rfl
    | some cs => exact absurd (hr.live i cs hg) (by omega)
/-- A call with objects of the caller's own, met by a contract over data, in such a region. -/
theorem EWlc_frz {f : FuncId} {xs ys : List AV} {D : AV} {dst : Option Tmp} (h : PureA P f ys D) (hD : rigidA D = true) (hx : FrzL 0 σ xs ys) (hs : Sub M0 σ) (hk : EWl M0 P N Q k all l (putA fr dst D) σ) : EWlc M0 P N Q f xs dst l all k fr σ :=
  EWlc_of (callA_frz_args h hD hx) fun x σ' ⟨h1, h2⟩ => by subst h1; subst h2; exact ⟨hs, hk⟩
end
end Go.Ew
namespace Go.Ew
open Go Go.RowKit

section
variable {P : Program} {N : Nat} {Q Q' : Fr → Mem → Prop} {M : Fr → Mem → Prop} {k : List Itm}
end

/-! ### Plain functions that may fail -/
theorem obind {α β : Type} {o : Option α} {K : α → Option β} {r : β} (h : o.bind K = some r) : ∃ x, o = some x ∧ K x = some r := by
  cases o with
  | none => cases h
  | some x => exact ⟨x, rfl, h⟩
/-- What one round of a loop comes to. -/
inductive Ct (S R : Type) where
  | go (s : S)
  | brk (s : S)
  | ret (r : R)
/-- What a piece of code comes to: it goes on, or the function returns. -/
inductive Out (S R : Type) where
  | done (s : S)
  | ret (r : R)
def Out.on {S R T : Type} (o : Out S R) (f : S → Option T) (g : R → Option T) : Option T :=
  match o with
  | .done s => f s
  | .ret r => g r
/-- Behind one round. -/
def Ct.on {S R T : Type} (c : Ct S R) (f : S → Option T) (b : S → Option T) (g : R → Option T) : Option T :=
  match c with
  | .go s => f s
  | .brk s => b s
  | .ret r => g r
/-- n rounds, from number i on. -/
def forN {S R : Type} (body : Nat → S → Option (Ct S R)) : Nat → Nat → S → Option (Out S R)
  | 0, _, s => some (.done s)
  | n + 1, i, s => (body i s).bind fun c => c.on (fun s' => forN body n (i + 1) s') (fun s' => some (.done s')) (fun r => some (.ret r))
/-- At most F rounds. -/
def whileG {S R : Type} (body : S → Option (Ct S R)) : Nat → S → Option (Out S R)
  | 0, _ => none
  | F + 1, s => (body s).bind fun c => c.on (fun s' => whileG body F s') (fun s' => some (.done s')) (fun r => some (.ret r))
theorem forN_step {S R : Type} {body : Nat → S → Option (Ct S R)} {n k : Nat} {s : S} {o : Out S R} (h : forN body (n - k) k s = some o) (hk : k < n) :
    ∃ c, body k s = some c ∧ c.on (fun s' => forN body (n - (k + 1)) (k + 1) s') (fun s' => some (.done s')) (fun r => some (.ret r)) = some o := by
  rw [show n - k = (n - (k + 1)) + 1 by omega, forN] at h
  exact obind h
theorem forN_end {S R : Type} {body : Nat → S → Option (Ct S R)} {n k : Nat} {s : S} {o : Out S R} (h : forN body (n - k) k s = some o) (hk : ¬ k < n) : o = .done s := by
  rw [show n - k = 0 by omega, forN] at h
  exact (Option.some.inj h).symm
theorem whileG_step {S R : Type} {body : S → Option (Ct S R)} {F : Nat} {s : S} {o : Out S R} (h : whileG body F s = some o) :
    ∃ F' c, F = F' + 1 ∧ body s = some c ∧ c.on (fun s' => whileG body F' s') (fun s' => some (.done s')) (fun r => some (.ret r)) = some o := by
  cases F with
  | zero => cases h
  | succ F => obtain ⟨c, h1, h2⟩ := obind h; exact ⟨F, c, rfl, h1, h2⟩
/-- An element of a list. -/
def getN {α : Type} (l : List α) (i : Nat) : Option α := l[i]?
def getI {α : Type} (l : List α) (i : Int) : Option α := if 0 ≤ i then l[i.toNat]? else none
theorem getN_lt {α : Type} {l : List α} {i : Nat} {x : α} (h : getN l i = some x) : i < l.length := (List.getElem?_eq_some_iff.1 h).1
theorem getN_map {α : Type} {l : List α} {i : Nat} {x : α} (C : α → AV) (h : getN l i = some x) : (l.map C).drop i = C x :: (l.drop (i + 1)).map C := by
  obtain ⟨h1, h2⟩ := List.getElem?_eq_some_iff.1 h
  rw [← List.map_drop, List.drop_eq_getElem_cons h1, h2, List.map_cons]
theorem getN_flat {α : Type} {l : List α} {i : Nat} {x : α} (C : α → List AV) (sz : Nat) (hC : ∀ a, (C a).length = sz) (h : getN l i = some x) : (l.flatMap C).drop (i * sz) = C x ++ (l.drop (i + 1)).flatMap C := by
  obtain ⟨h1, h2⟩ := List.getElem?_eq_some_iff.1 h
  rw [drop_flatMap hC l i h1, h2]
theorem getI_pos {α : Type} {l : List α} {i : Int} {x : α} (h : getI l i = some x) : 0 ≤ i := by
  unfold getI at h
  split at h
  · assumption
  · cases h
theorem getI_N {α : Type} {l : List α} {i : Int} {x : α} (h : getI l i = some x) : getN l i.toNat = some x := by
  have hp := getI_pos h
  unfold getI at h
  rwa [if_pos hp] at h
theorem getI_lt {α : Type} {l : List α} {i : Int} {x : α} (h : getI l i = some x) : i < l.length := by
  have := getN_lt (getI_N h)
  have := getI_pos h
  omega
theorem sum_len {α : Type} {f : α → List AV} {sz : Nat} (hf : ∀ a, (f a).length = sz) (l : List α) : (l.map fun a => (f a).length).sum = l.length * sz := by
  rw [← List.length_flatMap]; exact length_flatMap hf l
/-- The rounds from number i up to n. -/
def forR {S R : Type} (body : Nat → S → Option (Ct S R)) (i n : Nat) (s : S) : Option (Out S R) := if n ≤ 4294967296 then forN body (n - i) i s else none
theorem forR_run {S R : Type} {body : Nat → S → Option (Ct S R)} {i n : Nat} {s : S} {o : Out S R} (h : forR body i n s = some o) : n ≤ 4294967296 ∧ forN body (n - i) i s = some o := by
  unfold forR at h
  split at h
  · exact ⟨by assumption, h⟩
  · cases h
theorem condT {α : Type} {b : Bool} {x y : Option α} {r : α} (h : (bif b then x else y) = some r) (hb : b = true) : x = some r := by subst hb; exact h
theorem condF {α : Type} {b : Bool} {x y : Option α} {r : α} (h : (bif b then x else y) = some r) (hb : b = false) : y = some r := by subst hb; exact h
/-- 'append', where memory lasts. -/
def catL {α : Type} (l m : List α) : Option (List α) := if l.length + m.length ≤ 4294967296 then some (l ++ m) else none
theorem catL_spec {α : Type} {l m r : List α} (h : catL l m = some r) : l.length + m.length ≤ 4294967296 ∧ r = l ++ m := by
  unfold catL at h
  split at h
  · exact ⟨by assumption, (Option.some.inj h).symm⟩
  · cases h
/-- A part of a list. -/
def cutL {α : Type} (l : List α) (lo hi : Int) : Option (List α) := if 0 ≤ lo ∧ lo ≤ hi ∧ hi ≤ l.length then some ((l.drop lo.toNat).take (hi.toNat - lo.toNat)) else none
theorem cutL_spec {α : Type} {l r : List α} {lo hi : Int} (h : cutL l lo hi = some r) : 0 ≤ lo ∧ lo ≤ hi ∧ hi ≤ l.length ∧ r = (l.drop lo.toNat).take (hi.toNat - lo.toNat) := by
  unfold cutL at h
  split at h
  · rename_i hc
    exact ⟨hc.1, hc.2.1, hc.2.2, (Option.some.inj h).symm⟩
  · cases h
/-- A new list of zeros. -/
def mkL {α : Type} (n : Int) (z : α) : Option (List α) := if 0 ≤ n ∧ n ≤ 4294967296 then some (List.replicate n.toNat z) else none
theorem mkL_spec {α : Type} {n : Int} {z : α} {r : List α} (h : mkL n z = some r) : 0 ≤ n ∧ n ≤ 4294967296 ∧ r = List.replicate n.toNat z := by
  unfold mkL at h
  split at h
  · rename_i hc
    exact ⟨hc.1, hc.2, (Option.some.inj h).symm⟩
  · cases h
theorem zerosA_map {α : Type} (f : α → AV) (z : α) : ∀ n : Nat, zerosA [f z] n = (List.replicate n z).map f
  | 0 => rfl
  | n + 1 => by rw [zerosA, zerosA_map f z n]; rfl
theorem set_map {α : Type} (f : α → AV) (x : α) : ∀ (l : List α) (i : Nat), i < l.length → (l.map f).take i ++ f x :: (l.map f).drop (i + 1) = (l.set i x).map f
  | [], i, h => by simp at h
  | a :: l, 0, h => by simp
  | a :: l, i + 1, h => by
    have := set_map f x l i (by simpa using h)
    simp only [List.map_cons, List.take_succ_cons, List.drop_succ_cons, List.cons_append, List.set_cons_succ, this]
def nzI (n : Int) : Option Unit := if n = 0 then none else some ()
theorem nzI_spec {n : Int} {u : Unit} (h : nzI n = some u) : ¬ n = 0 := by
  unfold nzI at h
  split at h
  · cases h
  · assumption

/-! ### Memory -/
def idOf : AV → Option Nat
  | .arr id _ _ _ => some id
  | _ => none
/-- Two values that are no slices of one object. -/
def Apart (x y : AV) : Prop := ∀ i, idOf x = some i → idOf y ≠ some i
def cellAt (σ : Mem) (b i : Nat) : AV := ((σ.get b).getD []).getD i .undef
section
variable {P : Program} {σ τ : Mem} {n0 : Nat}
theorem get_alloc_ne (e : TypeId) (cs : List AV) (i : Nat) (h : i < σ.next) : (σ.alloc e cs).get i = σ.get i := by rw [get_alloc, if_neg (by omega)]
theorem get_set_ne (id : Nat) (cs : List AV) (i : Nat) (h : ¬ i = id) : (σ.set id cs).get i = σ.get i := by rw [get_set, if_neg h]
theorem get_kill_ne (id : Nat) (i : Nat) (h : ¬ i = id) : (σ.kill id).get i = σ.get i := by rw [get_kill, if_neg h]
theorem arrAt_lt {v : AV} {e : TypeId} {cs : List AV} {n sz : Nat} (h : ArrAt n0 σ v e cs n sz) (i : Nat) (hi : idOf v = some i) : n0 ≤ i ∧ i < σ.next := by
  rcases h with ⟨rfl, _⟩ | ⟨id, rfl, _, _, h5, h6⟩
  · cases hi
  · cases hi
    exact ⟨h5, h6⟩
theorem apart_symm {x y : AV} (h : Apart x y) : Apart y x := fun i h1 h2 => h i h2 h1
theorem apart_ne {x y : AV} {i j : Nat} (h : Apart x y) (hj : idOf y = some j) (hi : idOf x = some i := by rfl) : ¬ j = i := fun e => h i hi (by rw [hj, e])
theorem ArrAt.same' {v : AV} {e : TypeId} {cs : List AV} {n sz : Nat} (h : ArrAt n0 σ v e cs n sz) (hs : σ.next ≤ τ.next) (hg : ∀ i, idOf v = some i → τ.get i = σ.get i ∧ τ.ty i = σ.ty i) : ArrAt n0 τ v e cs n sz :=
  h.same (Nat.le_refl _) hs fun i m hi => hg i (by rw [hi]; rfl)
theorem frzL_n : FrzL n0 σ [] [] := ⟨rfl, fun j x y h => by simp at h⟩
theorem frzL_c {x y : AV} {xs ys : List AV} (h : Frz n0 σ x y) (k : FrzL n0 σ xs ys) : FrzL n0 σ (x :: xs) (y :: ys) := by rw [frzL_cons]; exact ⟨h, k⟩
theorem frz_aggL {xs ys : List AV} (h : FrzL n0 σ xs ys) : Frz n0 σ (.agg xs) (.agg ys) := .agg _ _ h.1 h.2
theorem frz_tupL {xs ys : List AV} (h : FrzL n0 σ xs ys) : Frz n0 σ (.tup xs) (.tup ys) := .tup _ _ h.1 h.2
theorem frz_fnL {f : FuncId} {xs ys : List AV} (h : FrzL n0 σ xs ys) : Frz n0 σ (.fn f xs) (.fn f ys) := .fn _ _ _ h.1 h.2
theorem frz_ptrL {id : Nat} {cs ys : List AV} (h0 : n0 ≤ id) (h1 : σ.get id = some cs) (h : FrzL n0 σ cs ys) : Frz n0 σ (.ptr id 0) (.iptr ys) := .ptr id 0 cs ys h0 h1 (by rw [Nat.zero_add, h.1]; exact Nat.le_refl _) (by simpa using h.2)
theorem frz_arrL {id n sz : Nat} {cs ys : List AV} (h0 : n0 ≤ id) (h1 : σ.get id = some cs) (h : FrzL n0 σ cs ys) : Frz n0 σ (.arr id 0 n sz) (.imm n ys) := .arr id 0 n sz cs ys h0 h1 (by rw [Nat.zero_add, h.1]; exact Nat.le_refl _) (by simpa using h.2)
theorem ArrAt.frzle {n1 : Nat} {x : AV} {e : TypeId} {cells : List AV} {n sz : Nat} (h : ArrAt n0 σ x e cells n sz) (hn : n1 ≤ n0) (hd : DataL cells) : Frz n1 σ x (.imm n cells) := (h.same hn (Nat.le_refl _) fun _ _ _ => ⟨rfl, rfl⟩).frz hd
/-- Arguments in which nil slices stand for slices of no elements. -/
theorem callA_frzN {f : FuncId} {xs ys : List AV} {R : AV → Mem → Prop} (h : CallA P f ys σ R) (hx : FrzL σ.next σ xs ys) : CallA P f xs σ R := by
  refine ⟨h.1, fun φ w vs hr hv => h.2 φ w vs hr ?_⟩
  refine ⟨by rw [← hx.1]; exact hv.1, fun j y v hy hvj => ?_⟩
  have hj : j < xs.length := by rw [hx.1]; exact (List.getElem?_eq_some_iff.1 hy).1
  exact rv_frz (n0 := σ.next) (L := Live φ σ) hr (fun b ⟨id, h1, h2⟩ => ⟨id, by obtain ⟨cs, hcs⟩ := Option.isSome_iff_exists.1 h1; exact hr.live id cs hcs, h1, h2⟩) (hx.2 j _ y (List.getElem?_eq_getElem hj) hy) v (hv.2 j _ v (List.getElem?_eq_getElem hj) hvj)
end
end Go.Ew
namespace Go.Ew
open Go

section
variable {S R α β : Type}
/-- The first hit among n numbers from i on. -/
def hitF (f : Nat → Option R) : Nat → Nat → Option R
  | 0, _ => none
  | n + 1, i => match f i with
    | some r => some r
    | none => hitF f n (i + 1)
theorem hitF_none {f : Nat → Option R} : ∀ {n i : Nat}, hitF f n i = none ↔ ∀ j, i ≤ j → j < i + n → f j = none
  | 0, i => ⟨fun _ j h1 h2 => by omega, fun _ => rfl⟩
  | n + 1, i => by
    unfold hitF
    cases hf : f i with
    | some r => exact ⟨fun h => (by cases h), fun h => (by rw [h i (Nat.le_refl _) (by omega)] at hf; cases hf)⟩
    | none =>
      simp only
      rw [hitF_none (n := n) (i := i + 1)]
      constructor
      · intro h j h1 h2
        by_cases e : j = i
        · rw [e]; exact hf
        · exact h j (by omega) (by omega)
      · intro h j h1 h2
        exact h j (by omega) (by omega)
theorem hitF_some {f : Nat → Option R} : ∀ {n i : Nat} {r : R}, hitF f n i = some r → ∃ j, i ≤ j ∧ j < i + n ∧ f j = some r ∧ ∀ l, i ≤ l → l < j → f l = none
  | 0, _, _, h => by cases h
  | n + 1, i, r, h => by
    unfold hitF at h
    cases hf : f i with
    | some r' => rw [hf] at h; cases h; exact ⟨i, Nat.le_refl _, by omega, hf, fun l h1 h2 => by omega⟩
    | none =>
      rw [hf] at h
      obtain ⟨j, h1, h2, h3, h4⟩ := hitF_some h
      refine ⟨j, by omega, by omega, h3, fun l k1 k2 => ?_⟩
      by_cases e : l = i
      · rw [e]; exact hf
      · exact h4 l (by omega) k2
theorem hitF_at {f : Nat → Option R} {r : R} : ∀ {n i j : Nat}, i ≤ j → j < i + n → f j = some r → (∀ l, i ≤ l → l < j → f l = none) → hitF f n i = some r
  | 0, i, j, h1, h2, _, _ => by omega
  | n + 1, i, j, h1, h2, h3, h4 => by
    unfold hitF
    by_cases e : j = i
    · rw [← e, h3]
    · rw [h4 i (Nat.le_refl _) (by omega)]
      exact hitF_at (by omega) (by omega) h3 fun l k1 k2 => h4 l (by omega) k2
def outO : Option R → Out Unit R
  | some r => .ret r
  | none => .done ()
def ctO : Option R → Ct Unit R
  | some r => .ret r
  | none => .go ()
/-- A loop that looks for the first hit. -/
theorem forN_hit {body : Nat → Unit → Option (Ct Unit R)} (f : Nat → Option R) : ∀ (n i : Nat), (∀ j, i ≤ j → j < i + n → (∀ l, i ≤ l → l < j → f l = none) → body j () = some (ctO (f j))) → forN body n i () = some (outO (hitF f n i))
  | 0, _, _ => rfl
  | n + 1, i, h => by
    have h0 := h i (Nat.le_refl _) (by omega) fun l k1 k2 => by omega
    unfold forN hitF
    rw [h0]
    cases hf : f i with
    | some r => rfl
    | none =>
      simp only [Option.bind_some, ctO, Ct.on]
      refine forN_hit f n (i + 1) fun j k1 k2 k3 => h j (by omega) (by omega) fun l m1 m2 => ?_
      by_cases e : l = i
      · rw [e]; exact hf
      · exact k3 l (by omega) m2
theorem forR_hit {body : Nat → Unit → Option (Ct Unit R)} (f : Nat → Option R) (n i : Nat) (hn : n ≤ 4294967296) (h : ∀ j, i ≤ j → j < n → (∀ l, i ≤ l → l < j → f l = none) → body j () = some (ctO (f j))) : forR body i n () = some (outO (hitF f (n - i) i)) := by
  unfold forR
  rw [if_pos hn]
  exact forN_hit f (n - i) i fun j k1 k2 k3 => h j k1 (by omega) k3
/-- A loop that gathers. -/
def foldN (g : Nat → S → S) : Nat → Nat → S → S
  | 0, _, s => s
  | n + 1, i, s => foldN g n (i + 1) (g i s)
theorem forN_fold {body : Nat → S → Option (Ct S R)} (Inv : Nat → S → Prop) (g : Nat → S → S) : ∀ (n i : Nat) (s : S), Inv i s → (∀ j s, i ≤ j → j < i + n → Inv j s → body j s = some (.go (g j s)) ∧ Inv (j + 1) (g j s)) → forN body n i s = some (.done (foldN g n i s)) ∧ Inv (i + n) (foldN g n i s)
  | 0, _, _, h0, _ => ⟨rfl, h0⟩
  | n + 1, i, s, h0, h => by
    obtain ⟨a, b⟩ := h i s (Nat.le_refl _) (by omega) h0
    obtain ⟨c, d⟩ := forN_fold Inv g n (i + 1) (g i s) b fun j s k1 k2 k3 => h j s (by omega) (by omega) k3
    unfold forN foldN
    rw [a]
    refine ⟨c, ?_⟩
    rw [show i + (n + 1) = i + 1 + n by omega]
    exact d
/-- A loop by what holds ahead of each round: it ends at its end, breaks off, or returns. -/
theorem forN_inv {body : Nat → S → Option (Ct S R)} (Inv : Nat → S → Prop) (Brk : S → Prop) (Ret : R → Prop) : ∀ (n i : Nat) (s : S), Inv i s →
    (∀ j s, i ≤ j → j < i + n → Inv j s → (∃ s', body j s = some (.go s') ∧ Inv (j + 1) s') ∨ (∃ s', body j s = some (.brk s') ∧ Brk s') ∨ ∃ r, body j s = some (.ret r) ∧ Ret r) →
    (∃ s', forN body n i s = some (.done s') ∧ (Inv (i + n) s' ∨ Brk s')) ∨ ∃ r, forN body n i s = some (.ret r) ∧ Ret r
  | 0, i, s, h0, _ => .inl ⟨s, rfl, .inl h0⟩
  | n + 1, i, s, h0, h => by
    unfold forN
    rcases h i s (Nat.le_refl _) (by omega) h0 with ⟨s', a, b⟩ | ⟨s', a, b⟩ | ⟨r, a, b⟩
    · rw [a]
      simp only [Option.bind_some, Ct.on]
      rw [show i + (n + 1) = i + 1 + n by omega]
      exact forN_inv Inv Brk Ret n (i + 1) s' b fun j s k1 k2 k3 => h j s (by omega) (by omega) k3
    · rw [a]; exact .inl ⟨s', rfl, .inr b⟩
    · rw [a]; exact .inr ⟨r, rfl, b⟩
theorem whileG_inv {body : S → Option (Ct S R)} (Inv : S → Prop) (μ : S → Nat) (Brk : S → Prop) (Ret : R → Prop)
    (h : ∀ s, Inv s → (∃ s', body s = some (.go s') ∧ Inv s' ∧ μ s' < μ s) ∨ (∃ s', body s = some (.brk s') ∧ Brk s') ∨ ∃ r, body s = some (.ret r) ∧ Ret r) : ∀ (F : Nat) (s : S), Inv s → μ s < F →
    (∃ s', whileG body F s = some (.done s') ∧ Brk s') ∨ ∃ r, whileG body F s = some (.ret r) ∧ Ret r
  | 0, s, _, hF => by omega
  | F + 1, s, h0, hF => by
    unfold whileG
    rcases h s h0 with ⟨s', a, b, c⟩ | ⟨s', a, b⟩ | ⟨r, a, b⟩
    · rw [a]; exact whileG_inv Inv μ Brk Ret h F s' b (by omega)
    · rw [a]; exact .inl ⟨s', rfl, b⟩
    · rw [a]; exact .inr ⟨r, rfl, b⟩
def outI (n : Int) : Option R → Out Int R
  | some r => .ret r
  | none => .done n
def ctI (n : Int) : Option R → Ct Int R
  | some r => .ret r
  | none => .go n
/-- A loop with a counter of its own that looks for the first hit among i .. n - 1. -/
theorem whileG_hit {body : Int → Option (Ct Int R)} (f : Nat → Option R) (n : Nat) : ∀ (F i : Nat), i ≤ n → n - i < F → (∀ j, i ≤ j → j < n → (∀ l, i ≤ l → l < j → f l = none) → body (j : Int) = some (ctI ((j + 1 : Nat) : Int) (f j))) → body (n : Int) = some (.brk n) →
    whileG body F (i : Int) = some (outI n (hitF f (n - i) i))
  | 0, i, _, hF, _, _ => by omega
  | F + 1, i, hi, hF, h, he => by
    unfold whileG
    by_cases e : i = n
    · subst e
      rw [he, Nat.sub_self]
      rfl
    · have h0 := h i (Nat.le_refl _) (by omega) fun l k1 k2 => by omega
      rw [h0, show n - i = (n - (i + 1)) + 1 by omega, hitF]
      cases hf : f i with
      | some r => rfl
      | none =>
        simp only [Option.bind_some, ctI, Ct.on]
        refine whileG_hit f n F (i + 1) (by omega) (by omega) (fun j k1 k2 k3 => h j (by omega) k2 fun l m1 m2 => ?_) he
        by_cases e : l = i
        · rw [e]; exact hf
        · exact k3 l (by omega) m2
theorem getN_some {l : List α} {i : Nat} (h : i < l.length) : getN l i = some l[i] := List.getElem?_eq_getElem h
theorem getI_nat {l : List α} (i : Nat) : getI l (i : Int) = getN l i := by unfold getI; rw [if_pos (by omega)]; rfl
theorem getI_of {l : List α} {i : Int} (h0 : 0 ≤ i) : getI l i = getN l i.toNat := by unfold getI; rw [if_pos h0]; rfl
theorem catL_of {l m : List α} (h : l.length + m.length ≤ 4294967296) : catL l m = some (l ++ m) := by unfold catL; rw [if_pos h]
theorem mkL_of {n : Int} {z : α} (h0 : 0 ≤ n) (h : n ≤ 4294967296) : mkL n z = some (List.replicate n.toNat z) := by unfold mkL; rw [if_pos ⟨h0, h⟩]
theorem nzI_of {n : Int} (h : ¬ n = 0) : nzI n = some () := by unfold nzI; rw [if_neg h]
theorem bif_t {b : Bool} {x y : α} (h : b = true) : (bif b then x else y) = x := by rw [h]; rfl
theorem bif_f {b : Bool} {x y : α} (h : b = false) : (bif b then x else y) = y := by rw [h]; rfl
end
end Go.Ew
namespace Go.Ew
open Go Go.RowKit

/-- What the stack K owes, from this state. -/
def SW (P : Program) (N : Nat) (Q : Fr → Mem → Prop) (K : List Itm) (fr : Fr) (σ : Mem) : Prop :=
  ∀ (φ0 : Nat → Nat) (σ0 : Mem) (w0 : World) (φ : Nat → Nat) (w : World) (a : Act), RelM φ σ w → RelF φ σ w fr a.tmps → a.defers = [] → a.tmps.size = N → Step φ0 σ0 w0 φ σ w → LK P φ0 σ0 w0 N Q K .normal a w

section
variable {P : Program} {N : Nat} {Q : Fr → Mem → Prop} {k : List Itm} {fr : Fr} {σ : Mem}
theorem SW.of (h : EW P N Q k fr σ) : SW P N Q k fr σ := fun _ _ _ φ w a hr hf hd hn hs => sound h φ w a hr hf hd hn hs
theorem SW.goal {K : Fr → Mem → Prop} (h : K fr σ) : SW P N Q (.goal K :: k) fr σ := fun _ _ _ φ _ _ hr hf hd hn hs => ⟨φ, _, _, hr, hf, hd, hn, hs, h⟩
theorem SW.blk {id : Nat} (h : SW P N Q k fr σ) : SW P N Q (.blk id :: k) fr σ := fun φ0 σ0 w0 φ w a hr hf hd hn hs => h φ0 σ0 w0 φ w a hr hf hd hn hs
theorem SW.skip (h : SW P N Q k fr σ) : SW P N Q (.code .skip :: k) fr σ := fun φ0 σ0 w0 φ w a hr hf hd hn hs => wp_skip (h φ0 σ0 w0 φ w a hr hf hd hn hs)
theorem SW.seq {x y : Code} (h : SW P N Q (.code x :: .code y :: k) fr σ) : SW P N Q (.code (.seq x y) :: k) fr σ := fun φ0 σ0 w0 φ w a hr hf hd hn hs => by
  have := h φ0 σ0 w0 φ w a hr hf hd hn hs
  simp only [LK] at this ⊢
  refine wp_seq ?_
  rw [← LK_code y k]
  exact this
theorem SW.cond {c : Operand} {x y : Code} (t : Bool) (hc : evalA fr c = .lit (.bool t)) (ht : t = true → SW P N Q (.code x :: k) fr σ) (hf : t = false → SW P N Q (.code y :: k) fr σ) : SW P N Q (.code (.cond c x y) :: k) fr σ := fun φ0 σ0 w0 φ w a hr hfr hd hn hs => by
  have hv := rv_eval hfr c
  rw [hc] at hv
  have hv' : a.eval c = .bool t := by
    cases he : a.eval c <;> rw [he] at hv <;> cases hv
    rfl
  exact wp_cond_split hv' (fun e => ht e φ0 σ0 w0 φ w a hr hfr hd hn hs) (fun e => hf e φ0 σ0 w0 φ w a hr hfr hd hn hs)
theorem SW.block {id : Nat} {c : Code} (h : SW P N Q (.code c :: .blk id :: k) fr σ) : SW P N Q (.code (.block id c) :: k) fr σ := fun φ0 σ0 w0 φ w a hr hf hd hn hs => by
  have := h φ0 σ0 w0 φ w a hr hf hd hn hs
  simp only [LK] at this ⊢
  refine wp_block ?_
  rw [← LK_blk id k]
  exact this
theorem SW.loop {c : Code} (I : Nat → Fr → Mem → Prop) (n : Nat) (h0 : I n fr σ) (h : ∀ n fr σ, I n fr σ → SW P N Q (.code c :: .goal (fun fr' σ' => ∃ m, m < n ∧ I m fr' σ') :: k) fr σ) : SW P N Q (.code (.loop c) :: k) fr σ := fun φ0 σ0 w0 φ w a hr hf hd hn hs => by
  simp only [LK]
  refine wp_loop_ghost (fun n a w => St φ0 σ0 w0 N (I n) a w) n ⟨φ, σ, fr, hr, hf, hd, hn, hs, h0⟩ ?_
  rintro n a w ⟨φ, σ, fr, hr, hf, hd, hn', hs, hI⟩
  have : c.wp P (LK P φ0 σ0 w0 N Q (.goal (fun fr' σ' => ∃ m, m < n ∧ I m fr' σ') :: k)) a w := h n fr σ hI φ0 σ0 w0 φ w a hr hf hd hn' hs
  rw [LK_goal] at this
  refine Code.wp_mono (fun e a w he => ?_) this
  cases e with
  | normal =>
    obtain ⟨φ, σ, fr, k1, k2, k3, k4, k5, m, k6, k7⟩ := he
    exact ⟨m, k6, φ, σ, fr, k1, k2, k3, k4, k5, k7⟩
  | _ => exact he
theorem SW.exit {id : Nat} {k' : List Itm} (hd : dropTo id k = some k') (h : SW P N Q k' fr σ) : SW P N Q (.code (.exit id) :: k) fr σ := fun φ0 σ0 w0 φ w a hr hf hde hn hs => wp_exit (LK_exit _ _ a w hd (h φ0 σ0 w0 φ w a hr hf hde hn hs))
theorem SW.ret (h : Q fr σ) : SW P N Q (.code .ret :: k) fr σ := fun _ _ _ φ w a hr hf hd hn hs => wp_ret (LK_ret _ a w ⟨φ, _, _, hr, hf, hd, hn, hs, h⟩)
/-- A cut behind a piece of code. -/
theorem SW.cut {c : Code} (M : Fr → Mem → Prop) (h : SW P N Q (.code c :: .goal M :: k) fr σ) (hM : ∀ fr σ, M fr σ → SW P N Q k fr σ) : SW P N Q (.code c :: k) fr σ := fun φ0 σ0 w0 φ w a hr hf hd hn hs => by
  have := h φ0 σ0 w0 φ w a hr hf hd hn hs
  simp only [LK] at this ⊢
  refine Code.wp_mono (fun e a w he => ?_) this
  cases e with
  | normal =>
    obtain ⟨φ, σ, fr, k1, k2, k3, k4, k5, k6⟩ := he
    exact hM fr σ k6 φ0 σ0 w0 φ w a k1 k2 k3 k4 k5
  | _ => exact he
/-- A region by itself. -/
theorem SW.reg {id : Nat} {ops : Array Oper} {d : Bool} (M : Fr → Mem → Prop) (h : EW P N (fun _ _ => False) [.code (.region id ops d), .goal M] fr σ) (hM : ∀ fr' σ', M fr' σ' → SW P N Q k fr' σ') : SW P N Q (.code (.region id ops d) :: k) fr σ := fun φ0 σ0 w0 φ w a hr hf hd hn hs => by
  have := sound (φ0 := φ0) (σ0 := σ0) (w0 := w0) h φ w a hr hf hd hn hs
  simp only [LK] at this ⊢
  refine Code.wp_mono (fun e a w he => ?_) this
  cases e with
  | normal =>
    obtain ⟨φ, σ, fr, k1, k2, k3, k4, k5, k6⟩ := he
    exact hM fr σ k6 φ0 σ0 w0 φ w a k1 k2 k3 k4 k5
  | ret => obtain ⟨φ, σ, fr, k1, k2, k3, k4, k5, k6⟩ := he; exact k6.elim
  | _ => exact he.elim

/-! ### Another view of a state -/
theorem SW.view {fr' : Fr} {σ' : Mem} (hv : ∀ (φ : Nat → Nat) (w : World) (t : Array Value), RelM φ σ w → RelF φ σ w fr t → RelM φ σ' w ∧ RelF φ σ' w fr' t ∧ Step φ σ w φ σ' w) (h : SW P N Q k fr' σ') : SW P N Q k fr σ := fun φ0 σ0 w0 φ w a hr hf hd hn hs => by
  obtain ⟨h1, h2, h3⟩ := hv φ w a.tmps hr hf
  exact h φ0 σ0 w0 φ w a h1 h2 hd hn (hs.trans h3)
/-- A fact that each state of the model has. -/
theorem SW.fact (K : Prop) (hv : ∀ (φ : Nat → Nat) (w : World) (t : Array Value), RelM φ σ w → RelF φ σ w fr t → K) (h : K → SW P N Q k fr σ) : SW P N Q k fr σ := fun φ0 σ0 w0 φ w a hr hf hd hn hs => h (hv φ w a.tmps hr hf) φ0 σ0 w0 φ w a hr hf hd hn hs
theorem len_rv {φ : Nat → Nat} {n : Nat} {L : Nat → Prop} {w : World} {m : Nat} {cs : List AV} {v : Value} (h : Rv φ n L w (.imm m cs) v) : m ≤ 9223372036854775807 := by
  cases h with
  | imm0 A c hc => omega
  | imm _ _ ad c vs k1 k2 k3 k4 k5 k6 => have : maxLen = 9223372036854775807 := rfl; omega
theorem len_rva {φ : Nat → Nat} {n : Nat} {L : Nat → Prop} {w : World} {id off m sz : Nat} {v : Value} (h : Rv φ n L w (.arr id off m sz) v) : m ≤ 9223372036854775807 := by
  cases h with
  | arr _ _ _ _ c k1 k2 k3 k4 => have : maxLen = 9223372036854775807 := rfl; omega
/-- The length of data is bounded. -/
theorem SW.len (t : Nat) {m : Nat} {cs : List AV} (hf : fr t = .imm m cs) (h : m ≤ 9223372036854775807 → SW P N Q k fr σ) : SW P N Q k fr σ :=
  .fact _ (fun _ _ _ _ hr => by have := hr t; rw [hf] at this; exact len_rv this) h
theorem SW.lenB (b j : Nat) {m : Nat} {cs xs : List AV} (hg : σ.get b = some xs) (hj : xs[j]? = some (.imm m cs)) (h : m ≤ 9223372036854775807 → SW P N Q k fr σ) : SW P N Q k fr σ :=
  .fact _ (fun φ w t hr _ => by obtain ⟨cur, _, _, hc⟩ := hr.cell b xs hg; obtain ⟨v, _, _, hv⟩ := hc j _ hj; exact len_rv hv) h
theorem SW.lenA (t : Nat) {n0 : Nat} {v : AV} {e : TypeId} {cs : List AV} {m sz : Nat} (hf : fr t = v) (ha : ArrAt n0 σ v e cs m sz) (h : m ≤ 9223372036854775807 → SW P N Q k fr σ) : SW P N Q k fr σ := by
  refine .fact _ (fun _ _ _ _ hr => ?_) h
  rcases ha with ⟨rfl, rfl, rfl⟩ | ⟨id, rfl, _⟩
  · omega
  · have := hr t; rw [hf] at this; exact len_rva this
theorem SW.lenBA (b j : Nat) {n0 : Nat} {v : AV} {e : TypeId} {cs : List AV} {m sz : Nat} {xs : List AV} (hg : σ.get b = some xs) (hj : xs[j]? = some v) (ha : ArrAt n0 σ v e cs m sz) (h : m ≤ 9223372036854775807 → SW P N Q k fr σ) : SW P N Q k fr σ := by
  refine .fact _ (fun φ w t hr _ => ?_) h
  rcases ha with ⟨rfl, rfl, rfl⟩ | ⟨id, rfl, _⟩
  · omega
  · obtain ⟨cur, _, _, hc⟩ := hr.cell b xs hg; obtain ⟨v, _, _, hv⟩ := hc j _ hj; exact len_rva hv

/-- y stands for x where some own slices have become data (S: their objects), and nil slices slices of no elements. -/
inductive FrzS (S : Nat → Prop) (σ : Mem) : AV → AV → Prop
  | keep (x : AV) : FrzS S σ x x
  | nil : FrzS S σ .nils (.imm 0 [])
  | agg (xs ys : List AV) : xs.length = ys.length → (∀ (j : Nat) (x y : AV), xs[j]? = some x → ys[j]? = some y → FrzS S σ x y) → FrzS S σ (.agg xs) (.agg ys)
  | arr (id n sz : Nat) (cs ys : List AV) : S id → σ.get id = some cs → cs.length = ys.length → (∀ (j : Nat) (x y : AV), cs[j]? = some x → ys[j]? = some y → FrzS S σ x y) → FrzS S σ (.arr id 0 n sz) (.imm n ys)
theorem rv_frzS {φ : Nat → Nat} {σ σ' : Mem} {w : World} {S : Nat → Prop} (hr : RelM φ σ w) (hn : σ'.next = σ.next) (hL : ∀ i, (σ'.get i).isSome = true → (σ.get i).isSome = true ∧ ¬ S i) {x y : AV} (h : FrzS S σ x y) : ∀ v, RvM φ σ w x v → RvM φ σ' w y v := by
  have hl : ∀ b, Live φ σ' b → Live φ σ b := fun b ⟨i, h1, h2⟩ => ⟨i, (hL i h1).1, h2⟩
  have res : ∀ {x : AV} {v : Value}, RvM φ σ w x v → RvM φ σ' w x v := fun {x v} h => by
    have := h.restrict hl (wf_of_rv h)
    rw [← hn] at this
    exact this
  induction h with
  | keep => intro v hv; exact res hv
  | nil => intro v hv; cases hv; exact .imm0 none 0 (Nat.zero_le _)
  | agg xs ys hlen _ ih =>
    intro v hv
    cases hv with
    | agg _ vs k1 k2 k3 =>
      refine .agg ys vs (by rw [← hlen]; exact k1) (fun j y u hy hu => ?_) k3
      have hj : j < xs.length := by rw [hlen]; exact (List.getElem?_eq_some_iff.1 hy).1
      exact ih j _ y (List.getElem?_eq_getElem hj) hy u (k2 j _ u (List.getElem?_eq_getElem hj) hu)
  | arr id n sz cs ys hs hg hlen _ ih =>
    intro v hv
    cases hv with
    | arr _ _ _ _ c k1 k2 k3 k4 =>
      obtain ⟨cur, g1, g2, g3⟩ := hr.cell id cs hg
      refine .imm n ys ⟨φ id, 0, none⟩ c (fun j => cur.getD (0 + j) Go.undef) (fun j hj => ?_) (fun j y hy => ?_) (fun hl' => ?_) (Array.getElem?_eq_some_iff.1 g1).1 k2 k3
      · obtain ⟨u, g4, g5, _⟩ := g3 j _ (List.getElem?_eq_getElem (by omega))
        rw [Addr.add_lit, cell_of_row w (φ id) (0 + j) cur _ (0, 0) g1]
        simp only [Array.getD_eq_getD_getElem?, Nat.zero_add, g4, Option.getD_some]
        exact ⟨trivial, g5⟩
      · have hj : j < cs.length := by rw [hlen]; exact (List.getElem?_eq_some_iff.1 hy).1
        obtain ⟨u, g4, _, g6⟩ := g3 j _ (List.getElem?_eq_getElem hj)
        simp only [Array.getD_eq_getD_getElem?, Nat.zero_add, g4, Option.getD_some]
        exact ih j _ y (List.getElem?_eq_getElem hj) hy u g6
      · obtain ⟨i, q1, q2⟩ := hl'
        have := hr.inj i id (hL i q1).1 (by simp [hg]) q2
        subst this
        exact (hL i q1).2 hs
/-- SOME OWN SLICES BECOME DATA. -/
theorem SW.frz {fr' : Fr} {σ' : Mem} (S : Nat → Prop) (hn : σ'.next = σ.next) (hty : σ'.ty = σ.ty) (hf : ∀ t, FrzS S σ (fr t) (fr' t)) (hS : ∀ i, S i → σ'.get i = none)
    (hg : ∀ i cs', σ'.get i = some cs' → ∃ cs, σ.get i = some cs ∧ cs.length = cs'.length ∧ ∀ (j : Nat) (x y : AV), cs[j]? = some x → cs'[j]? = some y → FrzS S σ x y) (h : SW P N Q k fr' σ') : SW P N Q k fr σ := by
  refine .view (fun φ w t hr hrf => ?_) h
  have hL : ∀ i, (σ'.get i).isSome = true → (σ.get i).isSome = true ∧ ¬ S i := fun i hi => by
    obtain ⟨cs', hcs'⟩ := Option.isSome_iff_exists.1 hi
    obtain ⟨cs, hcs, _⟩ := hg i cs' hcs'
    exact ⟨by simp [hcs], fun hs => by rw [hS i hs] at hcs'; cases hcs'⟩
  have hl : ∀ b, Live φ σ' b → Live φ σ b := fun b ⟨i, h1, h2⟩ => ⟨i, (hL i h1).1, h2⟩
  refine ⟨⟨fun i cs' hcs' => ?_, fun i cs' hcs' => ?_, fun i j hi hj e => hr.inj i j (hL i hi).1 (hL j hj).1 e⟩, fun t => rv_frzS hr hn hL (hf t) _ (hrf t), ?_⟩
  · obtain ⟨cs, hcs, _⟩ := hg i cs' hcs'
    rw [hn]; exact hr.live i cs hcs
  · obtain ⟨cs, hcs, hlen, hp⟩ := hg i cs' hcs'
    obtain ⟨cur, g1, g2, g3⟩ := hr.cell i cs hcs
    refine ⟨cur, by rw [hty]; exact g1, by omega, fun j y hy => ?_⟩
    have hj : j < cs.length := by rw [hlen]; exact (List.getElem?_eq_some_iff.1 hy).1
    obtain ⟨v, g4, g5, g6⟩ := g3 j _ (List.getElem?_eq_getElem hj)
    exact ⟨v, g4, g5, rv_frzS hr hn hL (hp j _ y (List.getElem?_eq_getElem hj) hy) v g6⟩
  · exact ⟨by rw [hn]; exact Nat.le_refl _, fun _ _ => rfl, fun b hb => .inl (hl b hb), Nat.le_refl _, fun _ _ _ => rfl, fun b cur e fz hb => ⟨cur, fz, hb, rfl⟩, rfl, rfl, rfl⟩
/-- Memory without one object, if the value is a slice onto one. -/
def Mem.killA (σ : Mem) (v : AV) : Mem := match idOf v with | some i => σ.kill i | none => σ
theorem killA_next (v : AV) : (σ.killA v).next = σ.next := by unfold Mem.killA; split <;> rfl
theorem killA_ty (v : AV) : (σ.killA v).ty = σ.ty := by unfold Mem.killA; split <;> rfl
theorem killA_get (v : AV) (i : Nat) (h : idOf v = some i → False) : (σ.killA v).get i = σ.get i := by
  unfold Mem.killA
  split
  · rename_i j hj
    rw [get_kill, if_neg (fun e => h (by rw [hj, e]))]
  · rfl
/-- An own slice in a register becomes data. -/
theorem SW.frzT (t : Nat) {n0 : Nat} {v : AV} {e : TypeId} {cells : List AV} {n sz : Nat} (ha : ArrAt n0 σ v e cells n sz) (hf : fr t = v) (h : SW P N Q k (upd fr t (.imm n cells)) (σ.killA v)) : SW P N Q k fr σ := by
  refine .frz (fun i => idOf v = some i) (killA_next v) (killA_ty v) (fun t' => ?_) (fun i hi => ?_) (fun i cs' hcs' => ?_) h
  · by_cases ht : t' = t
    · subst ht
      simp only [upd, if_true]
      rcases ha with ⟨rfl, rfl, rfl⟩ | ⟨id, rfl, hg, _⟩
      · rw [hf]; exact .nil
      · rw [hf]; exact .arr id n sz cells cells rfl hg rfl fun j x y hx hy => by rw [hx] at hy; cases hy; exact .keep _
    · simp only [upd, ht, if_false]; exact .keep _
  · unfold Mem.killA; rw [hi]; simp [get_kill]
  · refine ⟨cs', ?_, rfl, fun j x y hx hy => by rw [hx] at hy; cases hy; exact .keep _⟩
    unfold Mem.killA at hcs'
    split at hcs'
    · rw [get_kill] at hcs'; split at hcs'
      · cases hcs'
      · exact hcs'
    · exact hcs'
/-- An own slice in a cell of an object becomes data. -/
theorem SW.frzB (b j : Nat) {n0 : Nat} {v : AV} {e : TypeId} {cells : List AV} {n sz : Nat} {xs : List AV} (ha : ArrAt n0 σ v e cells n sz) (hb : σ.get b = some xs) (hj : xs[j]? = some v) (hne : idOf v = some b → False) (h : SW P N Q k fr ((σ.killA v).set b (xs.set j (.imm n cells)))) : SW P N Q k fr σ := by
  have hjl : j < xs.length := (List.getElem?_eq_some_iff.1 hj).1
  refine .frz (fun i => idOf v = some i) (by rw [next_set, killA_next]) (by funext i; rw [ty_set, killA_ty]) (fun t' => .keep _) (fun i hi => ?_) (fun i cs' hcs' => ?_) h
  · rw [get_set, if_neg (show ¬ i = b from fun e => hne (by rw [← e]; exact hi))]
    unfold Mem.killA; rw [hi]; simp [get_kill]
  · rw [get_set] at hcs'
    split at hcs'
    · rename_i hib
      subst hib
      cases hcs'
      refine ⟨xs, hb, by simp, fun l x y hx hy => ?_⟩
      by_cases hl : l = j
      · subst hl
        rw [List.getElem?_set_self hjl] at hy
        rw [hj] at hx
        cases hx; cases hy
        rcases ha with ⟨rfl, rfl, rfl⟩ | ⟨id, rfl, hg, _⟩
        · exact .nil
        · exact .arr id n sz cells cells rfl hg rfl fun j x y hx hy => by rw [hx] at hy; cases hy; exact .keep _
      · rw [List.getElem?_set_ne (fun e => hl e.symm), hx] at hy
        cases hy
        exact .keep _
    · refine ⟨cs', ?_, rfl, fun l x y hx hy => by rw [hx] at hy; cases hy; exact .keep _⟩
      unfold Mem.killA at hcs'
      split at hcs'
      · rw [get_kill] at hcs'; split at hcs'
        · cases hcs'
        · exact hcs'
      · exact hcs'

def killAll (σ : Mem) (ids : List Nat) : Mem := ⟨σ.next, σ.ty, fun i => if i ∈ ids then none else σ.get i⟩
theorem FrzS.arrL {S : Nat → Prop} {id n sz : Nat} {cs ys : List AV} (hs : S id) (hg : σ.get id = some cs) (hl : cs.length = ys.length ∧ ∀ (j : Nat) (x y : AV), cs[j]? = some x → ys[j]? = some y → FrzS S σ x y) : FrzS S σ (.arr id 0 n sz) (.imm n ys) := .arr id n sz cs ys hs hg hl.1 hl.2
theorem FrzS.aggL {S : Nat → Prop} {xs ys : List AV} (h : xs.length = ys.length ∧ ∀ (j : Nat) (x y : AV), xs[j]? = some x → ys[j]? = some y → FrzS S σ x y) : FrzS S σ (.agg xs) (.agg ys) := .agg xs ys h.1 h.2
def FrzSL (S : Nat → Prop) (σ : Mem) (xs ys : List AV) : Prop := xs.length = ys.length ∧ ∀ (j : Nat) (x y : AV), xs[j]? = some x → ys[j]? = some y → FrzS S σ x y
theorem frzSL_n {S : Nat → Prop} : FrzSL S σ [] [] := ⟨rfl, fun j x y h => by simp at h⟩
theorem frzSL_c {S : Nat → Prop} {x y : AV} {xs ys : List AV} (h : FrzS S σ x y) (k : FrzSL S σ xs ys) : FrzSL S σ (x :: xs) (y :: ys) := by
  refine ⟨by simp [k.1], fun j a b ha hb => ?_⟩
  cases j with
  | zero => simp at ha hb; subst ha; subst hb; exact h
  | succ j => exact k.2 j a b (by simpa using ha) (by simpa using hb)
/-- A value in a cell of an object, with all that it holds, becomes data. -/
theorem SW.frzBG (b j : Nat) (ids : List Nat) {x y : AV} {xs : List AV} (hb : σ.get b = some xs) (hj : xs[j]? = some x) (hx : FrzS (· ∈ ids) σ x y) (hne : ¬ b ∈ ids) (h : SW P N Q k fr ((killAll σ ids).set b (xs.set j y))) : SW P N Q k fr σ := by
  have hjl : j < xs.length := (List.getElem?_eq_some_iff.1 hj).1
  refine SW.frz (σ' := (killAll σ ids).set b (xs.set j y)) (fun i => i ∈ ids) rfl rfl (fun t' => .keep _) (fun i hi => ?_) (fun i cs' hcs' => ?_) h
  · rw [get_set, if_neg (show ¬ i = b from fun e => hne (e ▸ hi))]; simp [killAll, hi]
  · rw [get_set] at hcs'
    split at hcs'
    · rename_i hib
      subst hib
      cases hcs'
      refine ⟨xs, hb, by simp, fun l u v hu hv => ?_⟩
      by_cases hl : l = j
      · subst hl
        rw [List.getElem?_set_self hjl] at hv
        rw [hj] at hu
        cases hu; cases hv
        exact hx
      · rw [List.getElem?_set_ne (fun e => hl e.symm), hu] at hv
        cases hv
        exact .keep _
    · refine ⟨cs', ?_, rfl, fun l u v hu hv => by rw [hu] at hv; cases hv; exact .keep _⟩
      simp only [killAll] at hcs'
      split at hcs'
      · cases hcs'
      · exact hcs'
theorem SW.nilB (b j : Nat) {xs : List AV} (hb : σ.get b = some xs) (hj : xs[j]? = some .nils) (h : SW P N Q k fr (σ.set b (xs.set j (.imm 0 [])))) : SW P N Q k fr σ := by
  have hjl : j < xs.length := (List.getElem?_eq_some_iff.1 hj).1
  refine SW.frz (σ' := σ.set b (xs.set j (.imm 0 []))) (fun _ => False) rfl rfl (fun t' => .keep _) (fun i hi => hi.elim) (fun i cs' hcs' => ?_) h
  rw [get_set] at hcs'
  split at hcs'
  · rename_i hib
    subst hib
    cases hcs'
    refine ⟨xs, hb, by simp, fun l x y hx hy => ?_⟩
    by_cases hl : l = j
    · subst hl
      rw [List.getElem?_set_self hjl] at hy
      rw [hj] at hx
      cases hx; cases hy
      exact .nil
    · rw [List.getElem?_set_ne (fun e => hl e.symm), hx] at hy
      cases hy
      exact .keep _
  · exact ⟨cs', hcs', rfl, fun l x y hx hy => by rw [hx] at hy; cases hy; exact .keep _⟩

/-! ### From the rules to contracts -/
theorem callA_of_SW {f : FuncId} {fn : Func} {c : Code} {args : List AV} {R : AV → Mem → Prop} (hf : P.funcs[f]? = some fn) (hn : (fn.name == "runtime.NumGoroutine") = false) (hb : fn.body = some c) (hN : args.length + (fn.ntmps - args.length) = N)
    (h : SW P N (fun fr σ' => ∃ x, resA P fn.results.toList fr σ' = some x ∧ R x σ') [.code c] (initFr args) σ) : CallA P f args σ R := by
  subst hN
  refine ⟨⟨fn, hf, by simp [hb], hn⟩, fun φ w vs hr ha => calls_of_wp hf hb ?_⟩
  have hinit : RelF φ σ w (initFr args) (vs.toArray ++ Array.replicate (fn.ntmps - vs.toArray.size) Go.undef) := by
    intro k
    rw [Array.getD_eq_getD_getElem?]
    unfold initFr
    rw [List.getD_eq_getElem?_getD]
    by_cases hk : k < args.length
    · have hk' : k < vs.length := by rw [← ha.1]; exact hk
      rw [Array.getElem?_append_left (by simpa using hk'), List.getElem?_toArray, List.getElem?_eq_getElem hk, List.getElem?_eq_getElem hk']
      exact ha.2 k _ _ (List.getElem?_eq_getElem hk) (List.getElem?_eq_getElem hk')
    · have hk' : ¬ k < vs.length := by rw [← ha.1]; exact hk
      rw [List.getElem?_eq_none (by omega), Array.getElem?_append_right (by simp; omega)]
      have : ((Array.replicate (fn.ntmps - vs.toArray.size) Go.undef)[k - vs.toArray.size]?).getD Go.undef = Go.undef := by
        rw [Array.getElem?_replicate]; split <;> rfl
      rw [this]
      exact .tup [] [] rfl (fun j x v h => by simp at h)
  have hs := h φ σ w φ w ⟨vs.toArray ++ Array.replicate (fn.ntmps - vs.toArray.size) Go.undef, []⟩ hr hinit rfl (by simp [ha.1]) (Step.refl φ σ w)
  simp only [LK] at hs
  refine Code.wp_mono (fun e a w' he => ?_) hs
  have fin : St φ σ w (args.length + (fn.ntmps - args.length)) (fun fr σ' => ∃ x, resA P fn.results.toList fr σ' = some x ∧ R x σ') a w' → a.defers = [] ∧ ∃ v, (results fn a.tmps).run P w' = .ok v w' ∧ ∃ v' x φ' σ', Ending.returned v = .returned v' ∧ RelM φ' σ' w' ∧ RvM φ' σ' w' x v' ∧ Step φ σ w φ' σ' w' ∧ R x σ' := by
    rintro ⟨φ', σ', fr, h1, h2, h3, h4, h5, x, h6, h7⟩
    obtain ⟨v, h8, h9⟩ := run_results h1 h2 h6
    exact ⟨h3, v, h9, v, x, φ', σ', rfl, h1, h8, h5, h7⟩
  cases e with
  | normal => exact fin he
  | ret => exact fin he
  | _ => exact he.elim
/-- What was there before is as it was, with its type. -/
def Kept (σ0 σ : Mem) : Prop := ∀ i, i < σ0.next → σ.get i = σ0.get i ∧ σ.ty i = σ0.ty i
theorem Kept.refl (σ : Mem) : Kept σ σ := fun _ _ => ⟨rfl, rfl⟩
theorem Kept.keeps {σ0 : Mem} (h : Kept σ0 σ) : Keeps σ0 σ := fun i hi => (h i hi).1
theorem Kept.trans {σ0 σ1 : Mem} (h : Kept σ0 σ1) (k : Kept σ1 σ) (hn : σ0.next ≤ σ1.next) : Kept σ0 σ := fun i hi => ⟨(k i (by omega)).1.trans (h i hi).1, (k i (by omega)).2.trans (h i hi).2⟩
theorem pureA_of_SW {f : FuncId} {fn : Func} {c : Code} {args : List AV} {D : AV} (hf : P.funcs[f]? = some fn) (hn : (fn.name == "runtime.NumGoroutine") = false) (hb : fn.body = some c) (hN : args.length + (fn.ntmps - args.length) = N)
    (h : ∀ σ, SW P N (Ends P fn.results.toList σ D) [.code c] (initFr args) σ) : PureA P f args D := fun σ => callA_frz (callA_of_SW hf hn hb hN (h σ))
theorem Kept.killA {σ0 : Mem} {v : AV} {e : TypeId} {cs : List AV} {n sz : Nat} (h : Kept σ0 σ) (ha : ArrAt σ0.next σ v e cs n sz) : Kept σ0 (σ.killA v) := fun i hi =>
  ⟨(killA_get v i fun hv => by have := (arrAt_lt ha i hv).1; omega).trans (h i hi).1, by rw [killA_ty]; exact (h i hi).2⟩
theorem ArrAt.killA {n0 : Nat} {u v : AV} {e : TypeId} {cs : List AV} {n sz : Nat} (h : ArrAt n0 σ u e cs n sz) (hd : Apart u v) : ArrAt n0 (σ.killA v) u e cs n sz :=
  h.same' (by rw [killA_next]; exact Nat.le_refl _) fun i hi => ⟨killA_get v i fun hv => hd i hi hv, by rw [killA_ty]⟩
theorem ArrAt.set_ne {n0 : Nat} {u : AV} {e : TypeId} {cs : List AV} {n sz b : Nat} {xs : List AV} (h : ArrAt n0 σ u e cs n sz) (hd : ∀ i, idOf u = some i → ¬ i = b) : ArrAt n0 (σ.set b xs) u e cs n sz :=
  h.same' (Nat.le_refl _) fun i hi => ⟨by rw [get_set, if_neg (hd i hi)], rfl⟩
theorem Kept.set {σ0 : Mem} {b : Nat} {xs : List AV} (h : Kept σ0 σ) (hb : σ0.next ≤ b) : Kept σ0 (σ.set b xs) := fun i hi => ⟨by rw [get_set, if_neg (by omega)]; exact (h i hi).1, (h i hi).2⟩
theorem ArrAt.lo {n0 n1 : Nat} {u : AV} {e : TypeId} {cs : List AV} {n sz : Nat} (h : ArrAt n0 σ u e cs n sz) (hn : n1 ≤ n0) : ArrAt n1 σ u e cs n sz := h.same hn (Nat.le_refl _) fun _ _ _ => ⟨rfl, rfl⟩
theorem killAll_get (ids : List Nat) (i : Nat) (h : ¬ i ∈ ids) : (killAll σ ids).get i = σ.get i := by simp [killAll, h]
theorem Kept.killAll {σ0 : Mem} {ids : List Nat} (h : Kept σ0 σ) (hi : ∀ i ∈ ids, σ0.next ≤ i) : Kept σ0 (killAll σ ids) := fun i hl =>
  ⟨(killAll_get ids i fun hm => by have := hi i hm; omega).trans (h i hl).1, (h i hl).2⟩
theorem ArrAt.killAll {n0 : Nat} {u : AV} {e : TypeId} {cs : List AV} {n sz : Nat} {ids : List Nat} (h : ArrAt n0 σ u e cs n sz) (hd : ∀ i ∈ ids, idOf u = some i → False) : ArrAt n0 (killAll σ ids) u e cs n sz :=
  h.same' (Nat.le_refl _) fun i hi => ⟨killAll_get ids i fun hm => hd i hm hi, rfl⟩
theorem apart_of {n0 n1 : Nat} {τ : Mem} {u v : AV} {e e' : TypeId} {cs cs' : List AV} {n n' sz sz' : Nat} (ha : ArrAt n1 τ v e cs n sz) (hb : ArrAt n0 σ u e' cs' n' sz') (hle : σ.next ≤ n1) : Apart v u := fun i h1 h2 => by
  have := arrAt_lt ha i h1; have := arrAt_lt hb i h2; omega
end
end Go.Ew
namespace Go.Ew
open Go Go.RowKit

section
variable {P : Program} {N : Nat} {ops : Array Oper} {md : Region.Mode} {M0 : Mem} {n : Nat} {K : Fr → Mem → Prop}
/-- Operation o is a call that hands back the data x, wherever it comes up. -/
def StillP (P : Program) (N : Nat) (ops : Array Oper) (o : Oper) (x : AV) (fr : Fr) : Prop :=
  dstOk N o.dst = true ∧ wantA ops o fr = some true ∧ ∃ f args, (∀ σ, evOp P o.op (evalA fr) σ = .call f args) ∧ PureA P f args x
theorem StillP.step {o : Oper} {x : AV} {fr : Fr} {σ : Mem} (h : StillP P N ops o x fr) (hK : K (putA fr o.dst x) σ) : stepA P N ops o K fr σ := by
  obtain ⟨h0, h1, f, args, h2, h3⟩ := h
  simp only [stepA, h1, runA, h2]
  exact ⟨h0, _, h3 σ, fun y σ' ⟨e1, e2⟩ => by subst e1; subst e2; exact hK⟩
theorem StillP.put {o : Oper} {x : AV} {fr : Fr} {d : Option Tmp} {v : AV} (h : StillP P N ops o x fr) (h1 : ∀ e, d = some e → e ∉ o.looksAt ops) : StillP P N ops o x (putA fr d v) := by
  obtain ⟨a, b, f, args, c, e⟩ := h
  exact ⟨a, by rw [wantA_put o fr h1]; exact b, f, args, fun σ => by rw [evOp_put o fr σ h1]; exact c σ, e⟩
theorem anyZ_firstP {i : Nat} {oi : Oper} {x : AV} (hi : ops[i]? = some oi) (hin : i < n) (hlate : ∀ j oj, n ≤ j → ops[j]? = some oj → ∃ e ∈ oj.after, Region.binds md e = true ∧ e.on = i) : ∀ (fuel : Nat) (listed : Array Bool) (fr : Fr) (σ : Mem),
      (∀ j oj, ops[j]? = some oj → j ≠ i → listed.getD j true = false → (∀ e ∈ oj.after, Region.binds md e = true → e.on ≠ i) → oi.apart ops oj = true) →
      i ∈ Region.ready md ops listed → StillP P N ops oi x fr → Sub M0 σ → noLate n ops listed → anyZ P N md n ops M0 K fuel (listed.setIfInBounds i true) (putA fr oi.dst x) σ → anyZ P N md n ops M0 K (fuel + 1) listed fr σ := by
  intro fuel
  induction fuel with
  | zero =>
    intro listed fr σ _ hr hy hs _ H
    refine ⟨fun _ => hs, fun h => (by rw [h] at hr; cases hr), fun j hj => ?_⟩
    by_cases hji : j = i
    · subst hji
      exact ⟨oi, hi, hy.step H⟩
    · have h1 := ready_mono hj hji
      rw [H.2.1] at h1
      cases h1
  | succ fuel ih =>
    intro listed fr σ hfree hr hy hs hL H
    refine ⟨fun _ => hs, fun h => (by rw [h] at hr; cases hr), fun j hj => ?_⟩
    by_cases hji : j = i
    · subst hji
      exact ⟨oi, hi, hy.step H⟩
    · obtain ⟨oj, hoj, h1⟩ := H.2.2 j (ready_mono hj hji)
      refine ⟨oj, hoj, ?_⟩
      obtain ⟨hjun, oj', hoj', hjall⟩ := mem_ready.1 hj
      have hiun := (mem_ready.1 hr).1
      rw [hoj] at hoj'
      cases hoj'
      have hnot : ∀ e ∈ oj.after, Region.binds md e = true → e.on ≠ i := fun e he hb hei => by
        have := hjall e he hb
        rw [hei] at this
        cases hg : listed[i]? <;> simp [Array.getD_eq_getD_getElem?, hg] at this hiun
        simp [this] at hiun
      have hjn : j < n := by
        by_cases hc : j < n
        · exact hc
        · obtain ⟨e, he1, he2, he3⟩ := hlate j oj (by omega) hoj
          exact absurd he3 (hnot e he1 he2)
      have hap := hfree j oj hoj hji hjun hnot
      obtain ⟨a1, a2, a3⟩ := Oper.apart_spec hap
      have hfree' : ∀ k ok, ops[k]? = some ok → k ≠ i → (listed.setIfInBounds j true).getD k true = false → (∀ e ∈ ok.after, Region.binds md e = true → e.on ≠ i) → oi.apart ops ok = true := fun k ok hk hki hun hno => by
        refine hfree k ok hk hki ?_ hno
        by_cases hjk : j = k
        · subst hjk; exact hjun
        · rw [getD_set_ne true hjk] at hun; exact hun
      refine stepA_put oj a1 a2 (fun y σ' hy' => ?_) h1
      have hL' : noLate n ops (listed.setIfInBounds j true) := (noLate_set hjn).2 hL
      refine ih _ _ _ hfree' (ready_mono hr (Ne.symm hji)) (hy.put a3) (anyZ_head hy' ((noLate_set hjn).2 ((noLate_set hin).2 hL))) hL' ?_
      rw [Array.setIfInBounds_comm _ _ hji]
      exact hy'
end
def okTrZ (md : Region.Mode) (n : Nat) (ops : Array Oper) (late : List Nat) : Tr → Array Bool → Bool → Bool
  | .done, listed, ins => !ins && ordLate md ops late listed
  | .q e i t, listed, ins => !ins && (match ops[i]? with
    | some o => (e || quietOp o.op) && (Region.ready md ops listed).contains i && Region.free md ops listed i && lateWait md n ops i && okTrZ md n ops late t (listed.setIfInBounds i true) false
    | none => false)
  | .s i t, listed, ins => (ins || (!(Region.ready md ops listed).isEmpty && (Region.ready md ops listed).all fun j => j == i)) && decide (i < n) && (match ops[i]? with
    | some _ => okTrZ md n ops late t (listed.setIfInBounds i true) false
    | none => false)
  | .both a b, listed, ins => (ins || (!(Region.ready md ops listed).isEmpty && (Region.ready md ops listed).all fun j => (a.heads ++ b.heads).contains j)) && decide (a.size = b.size) && okTrZ md n ops late a listed true && okTrZ md n ops late b listed true

section
variable {P : Program} {N : Nat} {ops : Array Oper} {md : Region.Mode} {M0 : Mem} {n : Nat} {K : Fr → Mem → Prop}
def treeZ (P : Program) (N : Nat) (ops : Array Oper) (M0 : Mem) (K : Fr → Mem → Prop) : Tr → Fr → Mem → Prop
  | .done, fr, σ => K fr σ
  | .q e i t, fr, σ => ∃ o x, ops[i]? = some o ∧ (e = false → StillA P N ops M0 o x fr) ∧ (e = true → StillP P N ops o x fr) ∧ treeZ P N ops M0 K t (putA fr o.dst x) σ
  | .s i t, fr, σ => ∃ o, ops[i]? = some o ∧ stepA P N ops o (fun fr' σ' => Sub M0 σ' ∧ treeZ P N ops M0 K t fr' σ') fr σ
  | .both a b, fr, σ => treeZ P N ops M0 K a fr σ ∧ treeZ P N ops M0 K b fr σ
theorem anyZ_tree {late : List Nat} {l2 : List Oper} (hl2 : late.map (fun i => ops[i]?) = l2.map some) (hln : ∀ i ∈ late, n ≤ i) : ∀ (tr : Tr) (listed : Array Bool) (fr : Fr) (σ : Mem), listed.size = ops.size → noLate n ops listed → Sub M0 σ → treeZ P N ops M0 (rowA P N ops K l2) tr fr σ →
    (okTrZ md n ops late tr listed false = true → anyZ P N md n ops M0 K (tr.size + late.length) listed fr σ) ∧
    (okTrZ md n ops late tr listed true = true → ∀ i ∈ tr.heads, ∃ o, ops[i]? = some o ∧ ∃ m, tr.size = m + 1 ∧ stepA P N ops o (anyZ P N md n ops M0 K (m + late.length) (listed.setIfInBounds i true)) fr σ)
  | .done, listed, fr, σ, hsz, hL, hs, h => by
    refine ⟨fun hB => ?_, fun hB => by simp [okTrZ] at hB⟩
    simp only [okTrZ, Bool.not_false, Bool.true_and] at hB
    rw [Tr.size, Nat.zero_add]
    exact anyZ_row late l2 listed fr σ hl2 hB hsz hln (fun _ => hs) h
  | .q e i t, listed, fr, σ, hsz, hL, hs, h => by
    refine ⟨fun hB => ?_, fun hB => by simp [okTrZ] at hB⟩
    obtain ⟨o, x, ho, hst, hsp, ht⟩ := h
    simp only [okTrZ, ho, Bool.not_false, Bool.true_and, Bool.and_eq_true] at hB
    obtain ⟨⟨⟨⟨b1, b2⟩, b3⟩, b4⟩, b5⟩ := hB
    obtain ⟨w1, w2⟩ := lateWait_spec b4
    rw [show (Tr.q e i t).size + late.length = (t.size + late.length) + 1 by simp only [Tr.size]; omega]
    cases e with
    | true => exact anyZ_firstP ho w1 w2 _ listed fr σ (Region.free_spec ho b3) (by simpa using b2) (hsp rfl) hs hL ((anyZ_tree hl2 hln t _ _ _ (by simpa using hsz) ((noLate_set w1).2 hL) hs ht).1 b5)
    | false => exact anyZ_first ho w1 w2 _ listed fr σ (Region.free_spec ho b3) (by simpa using b2) (hst rfl) hs hL ((anyZ_tree hl2 hln t _ _ _ (by simpa using hsz) ((noLate_set w1).2 hL) hs ht).1 b5)
  | .s i t, listed, fr, σ, hsz, hL, hs, h => by
    obtain ⟨o, ho, hst⟩ := h
    have key : i < n → okTrZ md n ops late t (listed.setIfInBounds i true) false = true → stepA P N ops o (anyZ P N md n ops M0 K (t.size + late.length) (listed.setIfInBounds i true)) fr σ := fun hin b5 =>
      stepA_mono (fun fr' σ' h' => (anyZ_tree hl2 hln t _ fr' σ' (by simpa using hsz) ((noLate_set hin).2 hL) h'.1 h'.2).1 b5) hst
    constructor
    · intro hB
      simp only [okTrZ, ho, Bool.false_or, Bool.and_eq_true, decide_eq_true_eq] at hB
      obtain ⟨⟨⟨b1, b2⟩, b3⟩, b4⟩ := hB
      rw [show (Tr.s i t).size + late.length = (t.size + late.length) + 1 by simp only [Tr.size]; omega]
      refine ⟨fun _ => hs, fun e => (by rw [e] at b1; simp at b1), fun j hj => ?_⟩
      have hji : j = i := by simpa using List.all_eq_true.1 b2 j hj
      subst hji
      exact ⟨o, ho, key b3 b4⟩
    · intro hB j hj
      simp only [okTrZ, ho, Bool.true_or, Bool.true_and, Bool.and_eq_true, decide_eq_true_eq] at hB
      have hji : j = i := by simpa [Tr.heads] using hj
      subst hji
      exact ⟨o, ho, t.size, rfl, key hB.1 hB.2⟩
  | .both a b, listed, fr, σ, hsz, hL, hs, h => by
    obtain ⟨ha, hb⟩ := h
    have key : a.size = b.size → okTrZ md n ops late a listed true = true → okTrZ md n ops late b listed true = true → ∀ i ∈ (Tr.both a b).heads, ∃ o, ops[i]? = some o ∧ ∃ m, (Tr.both a b).size = m + 1 ∧ stepA P N ops o (anyZ P N md n ops M0 K (m + late.length) (listed.setIfInBounds i true)) fr σ := fun hsz' h1 h2 i hi => by
      simp only [Tr.heads, List.mem_append] at hi
      rcases hi with hi | hi
      · exact (anyZ_tree hl2 hln a listed fr σ hsz hL hs ha).2 h1 i hi
      · obtain ⟨o, e1, m, e2, e3⟩ := (anyZ_tree hl2 hln b listed fr σ hsz hL hs hb).2 h2 i hi
        exact ⟨o, e1, m, by simp only [Tr.size]; omega, e3⟩
    constructor
    · intro hB
      simp only [okTrZ, Bool.false_or, Bool.and_eq_true, decide_eq_true_eq] at hB
      obtain ⟨⟨⟨⟨b1, b2⟩, b3⟩, b4⟩, b5⟩ := hB
      have hpos : ∃ m, (Tr.both a b).size = m + 1 := by
        cases hr : Region.ready md ops listed with
        | nil => rw [hr] at b1; simp at b1
        | cons j r =>
          rw [hr] at b2
          have : (a.heads ++ b.heads).contains j = true := List.all_eq_true.1 b2 j (by simp)
          obtain ⟨o, _, m, hm, _⟩ := key b3 b4 b5 j (by simpa [Tr.heads] using this)
          exact ⟨m, hm⟩
      obtain ⟨m, hm⟩ := hpos
      rw [hm, show m + 1 + late.length = (m + late.length) + 1 by omega]
      refine ⟨fun _ => hs, fun e => (by rw [e] at b1; simp at b1), fun j hj => ?_⟩
      have : (a.heads ++ b.heads).contains j = true := List.all_eq_true.1 b2 j hj
      obtain ⟨o, e1, m', e2, e3⟩ := key b3 b4 b5 j (by simpa [Tr.heads] using this)
      have : m' = m := by omega
      subst this
      exact ⟨o, e1, e3⟩
    · intro hB
      simp only [okTrZ, Bool.true_or, Bool.true_and, Bool.and_eq_true, decide_eq_true_eq] at hB
      exact key hB.1.1 hB.1.2 hB.2
theorem treeZ_mono {K K' : Fr → Mem → Prop} (hK : ∀ fr σ, K fr σ → K' fr σ) : ∀ (t : Tr) (fr : Fr) (σ : Mem), treeZ P N ops M0 K t fr σ → treeZ P N ops M0 K' t fr σ
  | .done, _, _, h => hK _ _ h
  | .q _ _ t, _, _, h => by obtain ⟨o, x, h1, h2, h2', h3⟩ := h; exact ⟨o, x, h1, h2, h2', treeZ_mono hK t _ _ h3⟩
  | .s _ t, _, _, h => by obtain ⟨o, h1, h2⟩ := h; exact ⟨o, h1, stepA_mono (fun fr' σ' h' => ⟨h'.1, treeZ_mono hK t _ _ h'.2⟩) h2⟩
  | .both a b, _, _, h => ⟨treeZ_mono hK a _ _ h.1, treeZ_mono hK b _ _ h.2⟩
end

section
variable {P : Program} {N : Nat} {Q : Fr → Mem → Prop} {k : List Itm} {fr : Fr} {σ M0 : Mem} {all : Array Oper} {o : Oper} {l l2 : List Oper} {t : Tr}
/-- What is left of such a region: the tree of the first, then l2 in a row. -/
def EWz (M0 : Mem) (P : Program) (N : Nat) (Q : Fr → Mem → Prop) (k : List Itm) (l l2 : List Oper) (t : Tr) (fr : Fr) (σ : Mem) : Prop := treeZ P N l.toArray M0 (fun fr σ => EW P N Q (.ops false l2 l.toArray :: k) fr σ) t fr σ
@[congr] theorem EWz_congr {fr' : Fr} {σ' : Mem} (h2 : fr = fr') (h3 : σ = σ') : EWz M0 P N Q k l l2 t fr σ = EWz M0 P N Q k l l2 t fr' σ' := by rw [h2, h3]
/-- THE RULE: by each order of the tree. -/
theorem EW_regionY {id : Nat} {l : List Oper} (M0 : Mem) (n : Nat) (tr : Tr) (h1 : P.follows .mixedOrders = true)
    (h2 : (decide (n ≤ l.length) && decide (tr.size = n) && okTrZ .any n l.toArray ((List.range (l.length - n)).map (n + ·)) tr (Array.replicate l.toArray.size false) false) = true) (hs : Sub M0 σ) (h : (∀ i, σ.next ≤ i → σ.get i = none) → EWz M0 P N Q k l (l.drop n) tr fr σ) :
    EW P N Q (.code (.region id l.toArray true) :: k) fr σ := by
  simp only [Bool.and_eq_true, decide_eq_true_eq] at h2
  obtain ⟨⟨hn, ho⟩, h2⟩ := h2
  have hl2 : ((List.range (l.length - n)).map (n + ·)).map (fun i => l.toArray[i]?) = (l.drop n).map some := by
    apply List.ext_getElem?
    intro i
    simp only [List.getElem?_map, List.getElem?_toArray, List.getElem?_drop]
    by_cases hi : i < l.length - n
    · rw [List.getElem?_range hi]
      simp [show n + i < l.length by omega]
    · rw [List.getElem?_eq_none (by simpa using hi), List.getElem?_eq_none (by omega)]
      rfl
  by_cases hfin : ∀ i, σ.next ≤ i → σ.get i = none
  · refine .raw (fun fr' σ' => EW P N Q k fr' σ') (fun φ w a hr hf hd hn' => ?_) (fun _ _ h => h)
    have hcls := Cls.drew w
    have hany := anyA_of_anyZ _ _ _ _ ((anyZ_tree (md := .any) (P := P) (N := N) (n := n) (M0 := M0) (K := fun fr σ => EW P N Q k fr σ) hl2 (fun i hi => by obtain ⟨j, _, rfl⟩ := List.mem_map.1 hi; omega) tr (Array.replicate l.toArray.size false) fr σ (by simp)
      (fun j oj _ hj => by
        have hlt := (Array.getElem?_eq_some_iff.1 hj).1
        rw [Array.getD_eq_getD_getElem?, Array.getElem?_replicate, if_pos hlt]
        rfl) hs (treeZ_mono (fun fr' σ' h' => row_of_EW _ fr' σ' h') _ _ _ (h hfin))).1 h2)
    rw [ho, List.length_map, List.length_range, show n + (l.length - n) = l.toArray.size by simp; omega] at hany
    refine Code.wp_mono ?_ (wp_region_any (Q := fun e a' w' => e = .normal ∧ St φ σ w N (fun fr σ => EW P N Q k fr σ) a' w') h1
      (wpAny_of_anyA (φ0 := φ) (σ0 := σ) (w0 := w) l.toArray.size _ fr σ φ _ a (hr.cls hcls) (hf.step (Cls.step hcls)) hd hn' (Cls.step hcls) hany))
    rintro e a' w' ⟨rfl, φ', σ', fr', k1, k2, k3, k4, k5, k6⟩
    exact ⟨rfl, φ', σ', fr', k1, k2, k3, k4, k5, k6⟩
  · refine .raw (fun _ _ => False) (fun φ w a hr _ _ _ => absurd (fun i hi => ?_) hfin) (fun _ _ h => h.elim)
    cases hg : σ.get i with
    | none => rfl
    | some cs => exact absurd (hr.live i cs hg) (by omega)

/-- A call in it. -/
def EWzc (M0 : Mem) (P : Program) (N : Nat) (Q : Fr → Mem → Prop) (f : FuncId) (args : List AV) (dst : Option Tmp) (t : Tr) (l l2 : List Oper) (k : List Itm) (fr : Fr) (σ : Mem) : Prop :=
  ∃ R, CallA P f args σ R ∧ ∀ x σ', R x σ' → Sub M0 σ' ∧ EWz M0 P N Q k l l2 t (putA fr dst x) σ'
@[congr] theorem EWzc_congr {f f' : FuncId} {args args' : List AV} {dst : Option Tmp} {fr' : Fr} {σ' : Mem} (h0 : f = f') (h1 : args = args') (h2 : fr = fr') (h3 : σ = σ') :
    EWzc M0 P N Q f args dst t l l2 k fr σ = EWzc M0 P N Q f' args' dst t l l2 k fr' σ' := by rw [h0, h1, h2, h3]
theorem EWzc_pure {f : FuncId} {args : List AV} {D : AV} {dst : Option Tmp} (h : PureA P f args D) (hs : Sub M0 σ) (hk : EWz M0 P N Q k l l2 t (putA fr dst D) σ) : EWzc M0 P N Q f args dst t l l2 k fr σ :=
  ⟨_, h σ, fun x σ' ⟨h1, h2⟩ => by subst h1; subst h2; exact ⟨hs, hk⟩⟩
theorem EWzc_frz {f : FuncId} {xs ys : List AV} {D : AV} {dst : Option Tmp} (h : PureA P f ys D) (hD : rigidA D = true) (hx : FrzL 0 σ xs ys) (hs : Sub M0 σ) (hk : EWz M0 P N Q k l l2 t (putA fr dst D) σ) : EWzc M0 P N Q f xs dst t l l2 k fr σ :=
  ⟨_, callA_frz_args h hD hx, fun x σ' ⟨h1, h2⟩ => by subst h1; subst h2; exact ⟨hs, hk⟩⟩
theorem EWzc_frzN {f : FuncId} {xs ys : List AV} {D : AV} {dst : Option Tmp} (h : PureA P f ys D) (hx : FrzL σ.next σ xs ys) (hs : Sub M0 σ) (hk : EWz M0 P N Q k l l2 t (putA fr dst D) σ) : EWzc M0 P N Q f xs dst t l l2 k fr σ :=
  ⟨_, callA_frzN (h σ) hx, fun x σ' ⟨h1, h2⟩ => by subst h1; subst h2; exact ⟨hs, hk⟩⟩
def EWzq (n : NextA) (ok : Bool) (M0 : Mem) (P : Program) (N : Nat) (Q : Fr → Mem → Prop) (dst : Option Tmp) (t : Tr) (l l2 : List Oper) (k : List Itm) (fr : Fr) (σ : Mem) : Prop :=
  match n with
  | .ok x _ => ok = true ∧ EWz M0 P N Q k l l2 t (putA fr dst x) σ
  | _ => False
def EWzn (n : NextA) (ok : Bool) (M0 : Mem) (P : Program) (N : Nat) (Q : Fr → Mem → Prop) (dst : Option Tmp) (t : Tr) (l l2 : List Oper) (k : List Itm) (fr : Fr) : Mem → Prop := fun σ =>
  match n with
  | .ok x σ' => ok = true ∧ Sub M0 σ' ∧ EWz M0 P N Q k l l2 t (putA fr dst x) σ'
  | .call f args => ok = true ∧ EWzc M0 P N Q f args dst t l l2 k fr σ
  | .fail => False
def EWzg (g : GuardA) (ok q : Bool) (M0 : Mem) (P : Program) (N : Nat) (Q : Fr → Mem → Prop) (o : Oper) (t : Tr) (l l2 : List Oper) (k : List Itm) (fr : Fr) (σ : Mem) : Prop :=
  if q then (match wantG g with
    | some true => EWzq (evOp P o.op (evalA fr) M0) (ok && quietOp o.op) M0 P N Q o.dst t l l2 k fr σ
    | some false => ok = true ∧ EWz M0 P N Q k l l2 t (putA fr o.dst .undef) σ
    | none => False)
  else match wantG g with
    | some true => EWzn (evOp P o.op (evalA fr) σ) ok M0 P N Q o.dst t l l2 k fr σ
    | some false => ok = true ∧ Sub M0 σ ∧ EWz M0 P N Q k l l2 t (putA fr o.dst .undef) σ
    | none => False
/-- The operation with a number. -/
def EWzo (q : Bool) (o : Option Oper) (M0 : Mem) (P : Program) (N : Nat) (Q : Fr → Mem → Prop) (t : Tr) (l l2 : List Oper) (k : List Itm) (fr : Fr) (σ : Mem) : Prop :=
  match o with
  | some o => EWzg (guardA l.toArray o fr) (dstOk N o.dst) q M0 P N Q o t l l2 k fr σ
  | none => False
@[congr] theorem EWzg_congr {g g' : GuardA} {ok ok' q q' : Bool} {fr' : Fr} {σ' : Mem} (h0 : g = g') (h1 : ok = ok') (hq : q = q') (h2 : fr = fr') (h3 : σ = σ') :
    EWzg g ok q M0 P N Q o t l l2 k fr σ = EWzg g' ok' q' M0 P N Q o t l l2 k fr' σ' := by rw [h0, h1, hq, h2, h3]
@[congr] theorem EWzq_congr {n n' : NextA} {ok ok' : Bool} {dst : Option Tmp} {fr' : Fr} {σ' : Mem} (h0 : n = n') (h1 : ok = ok') (h2 : fr = fr') (h3 : σ = σ') :
    EWzq n ok M0 P N Q dst t l l2 k fr σ = EWzq n' ok' M0 P N Q dst t l l2 k fr' σ' := by rw [h0, h1, h2, h3]
@[congr] theorem EWzn_congr {n n' : NextA} {ok ok' : Bool} {dst : Option Tmp} {fr' : Fr} {σ' : Mem} (h0 : n = n') (h1 : ok = ok') (h2 : fr = fr') (h3 : σ = σ') :
    EWzn n ok M0 P N Q dst t l l2 k fr σ = EWzn n' ok' M0 P N Q dst t l l2 k fr' σ' := by rw [h0, h1, h2, h3]
@[congr] theorem EWzo_congr {q : Bool} {o o' : Option Oper} {fr' : Fr} {σ' : Mem} (h0 : o = o') (h2 : fr = fr') (h3 : σ = σ') :
    EWzo q o M0 P N Q t l l2 k fr σ = EWzo q o' M0 P N Q t l l2 k fr' σ' := by rw [h0, h2, h3]
theorem EWz_done : EWz M0 P N Q k l l2 .done fr σ = EW P N Q (.ops false l2 l.toArray :: k) fr σ := rfl
theorem EWz_both (a b : Tr) : EWz M0 P N Q k l l2 (.both a b) fr σ = (EWz M0 P N Q k l l2 a fr σ ∧ EWz M0 P N Q k l l2 b fr σ) := rfl
theorem EWz_q (i : Nat) : EWz M0 P N Q k l l2 (.q false i t) fr σ = EWzo true (l[i]?) M0 P N Q t l l2 k fr σ := by
  apply propext
  unfold EWz
  rw [treeZ]
  simp only [List.getElem?_toArray]
  cases ho : l[i]? with
  | none => exact ⟨(fun ⟨o, x, h, _⟩ => by cases h), fun h => h.elim⟩
  | some o =>
    constructor
    · rintro ⟨o', x, he, hst, _, ht⟩
      cases he
      obtain ⟨h0, ⟨h1, h2, τ, h3⟩ | ⟨h1, rfl⟩⟩ := hst trivial
      · have h1' : wantG (guardA l.toArray o fr) = some true := h1
        simp only [EWzo, EWzg, if_true, h1', EWzq, h3, h0, h2, Bool.and_self, true_and]
        exact ht
      · have h1' : wantG (guardA l.toArray o fr) = some false := h1
        simp only [EWzo, EWzg, if_true, h1', h0, true_and]
        exact ht
    · intro h
      simp only [EWzo, EWzg, if_true] at h
      cases hw : wantG (guardA l.toArray o fr) with
      | none => rw [hw] at h; exact h.elim
      | some b =>
        rw [hw] at h
        cases b with
        | true =>
          simp only [EWzq] at h
          split at h
          · rename_i x τ he
            simp only [Bool.and_eq_true] at h
            exact ⟨o, x, rfl, fun _ => ⟨h.1.1, .inl ⟨hw, h.1.2, τ, he⟩⟩, (fun e => by cases e), h.2⟩
          · exact h.elim
        | false => exact ⟨o, _, rfl, fun _ => ⟨h.1, .inr ⟨hw, rfl⟩⟩, (fun e => by cases e), h.2⟩
/-- A call that hands back data, taken first. -/
def EWzp (m : Mem → NextA) (g : GuardA) (ok : Bool) (M0 : Mem) (P : Program) (N : Nat) (Q : Fr → Mem → Prop) (dst : Option Tmp) (t : Tr) (l l2 : List Oper) (k : List Itm) (fr : Fr) (σ : Mem) : Prop :=
  ∃ f args x, (∀ τ, m τ = .call f args) ∧ wantG g = some true ∧ ok = true ∧ PureA P f args x ∧ EWz M0 P N Q k l l2 t (putA fr dst x) σ
def EWzpo (o : Option Oper) (M0 : Mem) (P : Program) (N : Nat) (Q : Fr → Mem → Prop) (t : Tr) (l l2 : List Oper) (k : List Itm) (fr : Fr) (σ : Mem) : Prop :=
  match o with
  | some o => EWzp (fun τ => evOp P o.op (evalA fr) τ) (guardA l.toArray o fr) (dstOk N o.dst) M0 P N Q o.dst t l l2 k fr σ
  | none => False
@[congr] theorem EWzp_congr {m m' : Mem → NextA} {g g' : GuardA} {ok ok' : Bool} {dst : Option Tmp} {fr' : Fr} {σ' : Mem} (hm : ∀ τ, m τ = m' τ) (h0 : g = g') (h1 : ok = ok') (h2 : fr = fr') (h3 : σ = σ') :
    EWzp m g ok M0 P N Q dst t l l2 k fr σ = EWzp m' g' ok' M0 P N Q dst t l l2 k fr' σ' := by rw [funext hm, h0, h1, h2, h3]
@[congr] theorem EWzpo_congr {o o' : Option Oper} {fr' : Fr} {σ' : Mem} (h0 : o = o') (h2 : fr = fr') (h3 : σ = σ') :
    EWzpo o M0 P N Q t l l2 k fr σ = EWzpo o' M0 P N Q t l l2 k fr' σ' := by rw [h0, h2, h3]
theorem EWz_p (i : Nat) : EWz M0 P N Q k l l2 (.q true i t) fr σ = EWzpo (l[i]?) M0 P N Q t l l2 k fr σ := by
  apply propext
  unfold EWz
  rw [treeZ]
  simp only [List.getElem?_toArray]
  cases ho : l[i]? with
  | none => exact ⟨(fun ⟨o, x, h, _⟩ => by cases h), fun h => h.elim⟩
  | some o =>
    constructor
    · rintro ⟨o', x, he, _, hsp, ht⟩
      cases he
      obtain ⟨a, b, f, args, c, d⟩ := hsp trivial
      exact ⟨f, args, x, c, b, a, d, ht⟩
    · rintro ⟨f, args, x, c, b, a, d, ht⟩
      exact ⟨o, x, rfl, (fun e => by cases e), fun _ => ⟨a, b, f, args, c, d⟩, ht⟩
theorem EWzpo_some (o : Oper) : EWzpo (some o) M0 P N Q t l l2 k fr σ = EWzp (fun τ => evOp P o.op (evalA fr) τ) (guardA l.toArray o fr) (dstOk N o.dst) M0 P N Q o.dst t l l2 k fr σ := rfl
theorem EWzp_pure {f : FuncId} {args : List AV} {D : AV} {dst : Option Tmp} (h : PureA P f args D) (hk : EWz M0 P N Q k l l2 t (putA fr dst D) σ) : EWzp (fun _ => .call f args) .run true M0 P N Q dst t l l2 k fr σ := ⟨f, args, D, fun _ => rfl, rfl, rfl, h, hk⟩
theorem EWz_s (i : Nat) : EWz M0 P N Q k l l2 (.s i t) fr σ = EWzo false (l[i]?) M0 P N Q t l l2 k fr σ := by
  apply propext
  unfold EWz
  rw [treeZ]
  simp only [List.getElem?_toArray]
  cases ho : l[i]? with
  | none => exact ⟨(fun ⟨o, h, _⟩ => by cases h), fun h => h.elim⟩
  | some o =>
    simp only [Option.some.injEq, exists_eq_left', EWzo, EWzg, Bool.false_eq_true, if_false]
    unfold stepA wantA
    cases hw : wantG (guardA l.toArray o fr) with
    | none => exact Iff.rfl
    | some b =>
      cases b with
      | false => exact Iff.rfl
      | true =>
        simp only [runA, EWzn, EWzc]
        cases evOp P o.op (evalA fr) σ <;> exact Iff.rfl
theorem EWzo_some (q : Bool) (o : Oper) : EWzo q (some o) M0 P N Q t l l2 k fr σ = EWzg (guardA l.toArray o fr) (dstOk N o.dst) q M0 P N Q o t l l2 k fr σ := rfl
theorem EWzg_q (g : GuardA) (ok : Bool) (h : wantG g = some true) : EWzg g ok true M0 P N Q o t l l2 k fr σ = EWzq (evOp P o.op (evalA fr) M0) (ok && quietOp o.op) M0 P N Q o.dst t l l2 k fr σ := by unfold EWzg; simp only [if_true, h]
theorem EWzg_n (g : GuardA) (ok : Bool) (h : wantG g = some true) : EWzg g ok false M0 P N Q o t l l2 k fr σ = EWzn (evOp P o.op (evalA fr) σ) ok M0 P N Q o.dst t l l2 k fr σ := by unfold EWzg; simp only [Bool.false_eq_true, if_false, h]
theorem EWzg_off (g : GuardA) (h : wantG g = some false) : EWzg g true true M0 P N Q o t l l2 k fr σ = EWz M0 P N Q k l l2 t (putA fr o.dst .undef) σ := by unfold EWzg; simp [h]
theorem EWzg_run_q (ok : Bool) : EWzg .run ok true M0 P N Q o t l l2 k fr σ = EWzq (evOp P o.op (evalA fr) M0) (ok && quietOp o.op) M0 P N Q o.dst t l l2 k fr σ := EWzg_q _ _ rfl
theorem EWzg_yes_q (ok : Bool) : EWzg (.test true true) ok true M0 P N Q o t l l2 k fr σ = EWzq (evOp P o.op (evalA fr) M0) (ok && quietOp o.op) M0 P N Q o.dst t l l2 k fr σ := EWzg_q _ _ rfl
theorem EWzg_no_q (ok : Bool) : EWzg (.test false false) ok true M0 P N Q o t l l2 k fr σ = EWzq (evOp P o.op (evalA fr) M0) (ok && quietOp o.op) M0 P N Q o.dst t l l2 k fr σ := EWzg_q _ _ rfl
theorem EWzg_skip_q : EWzg .skip true true M0 P N Q o t l l2 k fr σ = EWz M0 P N Q k l l2 t (putA fr o.dst .undef) σ := EWzg_off _ rfl
theorem EWzg_off_q : EWzg (.test true false) true true M0 P N Q o t l l2 k fr σ = EWz M0 P N Q k l l2 t (putA fr o.dst .undef) σ := EWzg_off _ rfl
theorem EWzg_off_q' : EWzg (.test false true) true true M0 P N Q o t l l2 k fr σ = EWz M0 P N Q k l l2 t (putA fr o.dst .undef) σ := EWzg_off _ rfl
theorem EWzg_run_n (ok : Bool) : EWzg .run ok false M0 P N Q o t l l2 k fr σ = EWzn (evOp P o.op (evalA fr) σ) ok M0 P N Q o.dst t l l2 k fr σ := EWzg_n _ _ rfl
theorem EWzq_ok (x : AV) (τ : Mem) (dst : Option Tmp) : EWzq (.ok x τ) true M0 P N Q dst t l l2 k fr σ = EWz M0 P N Q k l l2 t (putA fr dst x) σ := by simp [EWzq]
theorem EWzn_ok (x : AV) (σ' : Mem) (dst : Option Tmp) (hs : Sub M0 σ') : EWzn (.ok x σ') true M0 P N Q dst t l l2 k fr σ = EWz M0 P N Q k l l2 t (putA fr dst x) σ' := by simp [EWzn, hs]
theorem EWzn_call (f : FuncId) (args : List AV) (dst : Option Tmp) : EWzn (.call f args) true M0 P N Q dst t l l2 k fr σ = EWzc M0 P N Q f args dst t l l2 k fr σ := by simp [EWzn]
theorem sub_alloc (e : TypeId) (cs : List AV) (h : Sub M0 σ) (hn : M0.get σ.next = none) : Sub M0 (σ.alloc e cs) = True := eq_true fun i cs' hi => by
  rw [get_alloc]
  split
  · rename_i hin; rw [hin, hn] at hi; cases hi
  · exact h i cs' hi
theorem sub_killed (o : Nat) (h : Sub M0 σ) (hn : M0.get o = none) : Sub M0 (σ.kill o) = True := eq_true fun i cs' hi => by
  rw [get_kill]
  split
  · rename_i hin; rw [hin, hn] at hi; cases hi
  · exact h i cs' hi
theorem sub_set (o : Nat) (cs : List AV) (h : Sub M0 σ) (hn : M0.get o = none) : Sub M0 (σ.set o cs) = True := eq_true fun i cs' hi => by
  rw [get_set]
  split
  · rename_i hin; rw [hin, hn] at hi; cases hi
  · exact h i cs' hi
theorem Kept.sub {τ : Mem} (hfin : ∀ i, σ.next ≤ i → σ.get i = none) (k : Kept σ τ) : Sub σ τ := fun i cs hi => by
  by_cases hl : i < σ.next
  · rw [(k i hl).1]; exact hi
  · rw [hfin i (by omega)] at hi; cases hi
theorem sub_self_kill (o : Nat) : Sub (σ.kill o) σ = True := eq_true (sub_kill o (fun _ _ h => h))
end
attribute [go_sem] EWz_done EWz_both EWz_q EWz_p EWzpo_some EWz_s EWzo_some EWzg_run_q EWzg_yes_q EWzg_no_q EWzg_skip_q EWzg_off_q EWzg_off_q' EWzg_run_n EWzq_ok EWzn_ok EWzn_call sub_alloc sub_killed sub_self_kill
end Go.Ew
namespace Go.Ew
open Go Go.RowKit

/-- Values without data of others. -/
inductive Solid : AV → Prop
  | lit (v : Value) : Solid (.lit v)
  | nils : Solid .nils
  | arr (id off n sz : Nat) : Solid (.arr id off n sz)
  | agg (xs : List AV) : (∀ x ∈ xs, Solid x) → Solid (.agg xs)
  | tup (xs : List AV) : (∀ x ∈ xs, Solid x) → Solid (.tup xs)
def flatA : AV → Bool
  | .lit _ => true
  | .nils => true
  | _ => false
section
variable {P : Program} {φ : Nat → Nat} {σ τ : Mem} {w : World}
theorem Rv.solid {n : Nat} {L L' : Nat → Prop} {x : AV} {v : Value} (h : Rv φ n L w x v) (hs : Solid x) : Rv φ n L' w x v := by
  induction h with
  | lit v => exact .lit v
  | nils => exact .nils
  | imm0 A c hc => cases hs
  | imm m cs ad c vs h1 _ h3 h4 h5 h6 ih => cases hs
  | arr id off m sz c h1 h2 h3 h4 => exact .arr id off m sz c h1 h2 h3 h4
  | ptr id off h1 => cases hs
  | iptr cs ad vs h1 _ h3 h4 ih => cases hs
  | fn f xs vs h1 _ ih => cases hs
  | agg xs vs h1 _ h3 ih => cases hs with | agg _ k => exact .agg xs vs h1 (fun j x v hx hv => ih j x v hx hv (k x (List.mem_of_getElem? hx))) h3
  | tup xs vs h1 _ ih => cases hs with | tup _ k => exact .tup xs vs h1 (fun j x v hx hv => ih j x v hx hv (k x (List.mem_of_getElem? hx)))
theorem flat_solid {x : AV} (h : flatA x = true) : Solid x := by
  cases x <;> simp [flatA] at h
  · exact .lit _
  · exact .nils
/-- The caller's objects, with the plain ones that a call has made. -/
def joinM (σ τ : Mem) : Mem := ⟨τ.next, fun i => if i < σ.next then σ.ty i else τ.ty i, fun i => if i < σ.next then σ.get i else (τ.get i).bind fun cs => if cs.all flatA then some cs else none⟩
theorem callA_own_args {f : FuncId} {xs ys : List AV} {O : Nat → AV → Mem → Prop} (h : ∀ σ, CallA P f ys σ fun x τ => O σ.next x τ ∧ Kept σ τ ∧ σ.next ≤ τ.next) (hx : FrzL 0 σ xs ys)
    (hO : ∀ n x τ, O n x τ → Solid x ∧ ∀ τ', (∀ i cs, n ≤ i → τ.get i = some cs → cs.all flatA = true → τ'.get i = some cs ∧ τ'.ty i = τ.ty i) → τ'.next = τ.next → O n x τ') : CallA P f xs σ fun x τ => O σ.next x τ ∧ Kept σ τ ∧ σ.next ≤ τ.next := by
  refine ⟨(h σ).1, fun φ w vs hr hv => ?_⟩
  obtain ⟨σd, hσd⟩ : ∃ σd : Mem, σd = ⟨σ.next, σ.ty, fun _ => none⟩ := ⟨_, rfl⟩
  have hdn : σd.next = σ.next := by rw [hσd]
  have hdead : ∀ b, ¬ Live φ σd b := fun b ⟨id, h, _⟩ => by rw [hσd] at h; simp at h
  have hr0 : RelM φ σd w := ⟨fun id cs h => (by rw [hσd] at h; cases h), fun id cs h => (by rw [hσd] at h; cases h), fun i j hi _ _ => (by rw [hσd] at hi; cases hi)⟩
  have hv0 : RvL φ σd w ys vs := by
    refine ⟨by rw [← hx.1]; exact hv.1, fun j y v hy hvj => ?_⟩
    have hj : j < xs.length := by rw [hx.1]; exact (List.getElem?_eq_some_iff.1 hy).1
    have h1 := hv.2 j _ v (List.getElem?_eq_getElem hj) hvj
    have h2 := rv_frz (n0 := 0) (L := Live φ σd) hr (fun b hb => absurd hb (hdead b)) (hx.2 j _ y (List.getElem?_eq_getElem hj) hy) v h1
    exact h2.more (Nat.zero_le _)
  refine ((h σd).2 φ w vs hr0 hv0).mono ?_
  rintro e w' ⟨v, x, φ', τ, rfl, k1, k2, k3, k4, k5, k6⟩
  rw [hdn] at k4 k6
  obtain ⟨s1, s2⟩ := hO _ _ _ k4
  have jl : ∀ i, i < σ.next → (joinM σ τ).get i = σ.get i := fun i hi => by simp [joinM, hi]
  have jr : ∀ i cs, (joinM σ τ).get i = some cs → ¬ i < σ.next → τ.get i = some cs ∧ cs.all flatA = true := fun i cs hi hn => by
    simp only [joinM, hn, if_false] at hi
    cases hg : τ.get i with
    | none => rw [hg] at hi; cases hi
    | some cs' =>
      rw [hg] at hi
      simp only [Option.bind_some] at hi
      split at hi
      · cases hi; exact ⟨rfl, by assumption⟩
      · cases hi
  have hφ : ∀ i, i < σ.next → φ' i = φ i := fun i hi => k3.phi i (by rw [hdn]; exact hi)
  have st : Step φ σ w φ' (joinM σ τ) w' := by
    refine ⟨k6, hφ, fun b ⟨i, h1, h2⟩ => ?_, k3.size, fun b hb _ => k3.same b hb (hdead b), k3.shape, k3.os, k3.tape, k3.output⟩
    obtain ⟨cs, hcs⟩ := Option.isSome_iff_exists.1 h1
    by_cases hi : i < σ.next
    · rw [jl i hi] at h1
      exact .inl ⟨i, h1, by rw [← hφ i hi]; exact h2⟩
    · rcases k3.fresh b ⟨i, by rw [(jr i cs hcs hi).1]; rfl, h2⟩ with h | h
      · exact absurd h (hdead b)
      · exact .inr h
  have jg : ∀ i cs, σ.next ≤ i → τ.get i = some cs → cs.all flatA = true → (joinM σ τ).get i = some cs := fun i cs hi hg hf => by
    simp only [joinM, show ¬ i < σ.next by omega, if_false, hg, Option.bind_some]
    rw [if_pos hf]
  have jt : ∀ i, ¬ i < σ.next → (joinM σ τ).ty i = τ.ty i := fun i hi => by simp [joinM, hi]
  refine ⟨v, x, φ', joinM σ τ, rfl, ⟨fun i cs hi => ?_, fun i cs hi => ?_, fun i j hi hj e => ?_⟩, ?_, st, s2 (joinM σ τ) (fun i cs hi hg hf => ⟨jg i cs hi hg hf, jt i (by omega)⟩) rfl, fun i hi => ⟨jl i hi, by simp [joinM, hi]⟩, k6⟩
  · by_cases hn : i < σ.next
    · exact Nat.lt_of_lt_of_le hn k6
    · exact k1.live i cs (jr i cs hi hn).1
  · by_cases hn : i < σ.next
    · rw [jl i hn] at hi
      obtain ⟨cur, g1, g2, g3⟩ := hr.cell i cs hi
      refine ⟨cur, ?_, g2, fun j x hx => ?_⟩
      · rw [hφ i hn, k3.same (φ i) (Array.getElem?_eq_some_iff.1 g1).1 (hdead _), show (joinM σ τ).ty i = σ.ty i by simp [joinM, hn]]; exact g1
      · obtain ⟨u, g4, g5, g6⟩ := g3 j x hx
        exact ⟨u, g4, g5, g6.step st⟩
    · obtain ⟨hg, hf⟩ := jr i cs hi hn
      obtain ⟨cur, g1, g2, g3⟩ := k1.cell i cs hg
      refine ⟨cur, by rw [jt i hn]; exact g1, g2, fun j x hx => ?_⟩
      obtain ⟨u, g4, g5, g6⟩ := g3 j x hx
      exact ⟨u, g4, g5, g6.solid (flat_solid (List.all_eq_true.1 hf x (List.mem_of_getElem? hx)))⟩
  · obtain ⟨ci, hci⟩ := Option.isSome_iff_exists.1 hi
    obtain ⟨cj, hcj⟩ := Option.isSome_iff_exists.1 hj
    by_cases hin : i < σ.next
    · by_cases hjn : j < σ.next
      · rw [jl i hin] at hi; rw [jl j hjn] at hj
        exact hr.inj i j hi hj (by rw [← hφ i hin, ← hφ j hjn]; exact e)
      · exfalso
        rw [jl i hin] at hci
        obtain ⟨cur, g1, _⟩ := hr.cell i ci hci
        have hlt := (Array.getElem?_eq_some_iff.1 g1).1
        rcases k3.fresh (φ' j) ⟨j, by rw [(jr j cj hcj hjn).1]; rfl, rfl⟩ with h | h
        · exact hdead _ h
        · rw [hφ i hin] at e; omega
    · by_cases hjn : j < σ.next
      · exfalso
        rw [jl j hjn] at hcj
        obtain ⟨cur, g1, _⟩ := hr.cell j cj hcj
        have hlt := (Array.getElem?_eq_some_iff.1 g1).1
        rcases k3.fresh (φ' i) ⟨i, by rw [(jr i ci hci hin).1]; rfl, rfl⟩ with h | h
        · exact hdead _ h
        · rw [hφ j hjn] at e; omega
      · exact k1.inj i j (by rw [(jr i ci hci hin).1]; rfl) (by rw [(jr j cj hcj hjn).1]; rfl) e
  · exact k2.solid s1
/-- A call whose arguments hold own slices that are needed no more: they become data. -/
theorem callA_kill {f : FuncId} {xs ys : List AV} {D : AV} (ids : List Nat) (h : PureA P f ys D) (hx : FrzSL (· ∈ ids) σ xs ys) : CallA P f xs σ fun x τ => x = D ∧ τ = killAll σ ids := by
  refine ⟨(h σ).1, fun φ w vs hr hv => ?_⟩
  have hL : ∀ i, ((killAll σ ids).get i).isSome = true → (σ.get i).isSome = true ∧ ¬ i ∈ ids := fun i hi => by
    simp only [killAll] at hi
    split at hi
    · cases hi
    · exact ⟨hi, by assumption⟩
  have hr' : RelM φ (killAll σ ids) w := by
    have hl : ∀ b, Live φ (killAll σ ids) b → Live φ σ b := fun b ⟨i, h1, h2⟩ => ⟨i, (hL i h1).1, h2⟩
    have hg : ∀ i cs, (killAll σ ids).get i = some cs → σ.get i = some cs := fun i cs hi => by
      simp only [killAll] at hi
      split at hi
      · cases hi
      · exact hi
    refine ⟨fun i cs hi => hr.live i cs (hg i cs hi), fun i cs hi => ?_, fun i j hi hj e => hr.inj i j (hL i hi).1 (hL j hj).1 e⟩
    obtain ⟨cur, g1, g2, g3⟩ := hr.cell i cs (hg i cs hi)
    refine ⟨cur, g1, g2, fun j x hx => ?_⟩
    obtain ⟨u, g4, g5, g6⟩ := g3 j x hx
    exact ⟨u, g4, g5, g6.restrict hl (wf_of_rv g6)⟩
  have hv' : RvL φ (killAll σ ids) w ys vs := by
    refine ⟨by rw [← hx.1]; exact hv.1, fun j y v hy hvj => ?_⟩
    have hj : j < xs.length := by rw [hx.1]; exact (List.getElem?_eq_some_iff.1 hy).1
    exact rv_frzS (σ' := Ew.killAll σ ids) hr rfl hL (hx.2 j _ y (List.getElem?_eq_getElem hj) hy) v (hv.2 j _ v (List.getElem?_eq_getElem hj) hvj)
  refine ((h (killAll σ ids)).2 φ w vs hr' hv').mono ?_
  rintro e w' ⟨v, x, φ', τ, rfl, k1, k2, k3, rfl, rfl⟩
  refine ⟨v, _, φ', _, rfl, k1, k2, ?_, rfl, rfl⟩
  have st : Step φ σ w φ (killAll σ ids) w := ⟨Nat.le_refl _, fun _ _ => rfl, fun b ⟨i, h1, h2⟩ => .inl ⟨i, (hL i h1).1, h2⟩, Nat.le_refl _, fun _ _ _ => rfl, fun b cur e fz hb => ⟨cur, fz, hb, rfl⟩, rfl, rfl, rfl⟩
  exact st.trans k3
theorem EWzc_kill {N : Nat} {Q : Fr → Mem → Prop} {k : List Itm} {fr : Fr} {M0 : Mem} {l l2 : List Oper} {t : Tr} {f : FuncId} {xs ys : List AV} {D : AV} {dst : Option Tmp} (ids : List Nat) (h : PureA P f ys D) (hx : FrzSL (· ∈ ids) σ xs ys) (hs : Sub M0 (killAll σ ids)) (hk : EWz M0 P N Q k l l2 t (putA fr dst D) (killAll σ ids)) : EWzc M0 P N Q f xs dst t l l2 k fr σ :=
  ⟨_, callA_kill ids h hx, fun x σ' ⟨h1, h2⟩ => by subst h1; subst h2; exact ⟨hs, hk⟩⟩
theorem killAll_next (ids : List Nat) : (killAll σ ids).next = σ.next := rfl
theorem killAll_ty (ids : List Nat) : (killAll σ ids).ty = σ.ty := rfl
theorem killAll_get' (ids : List Nat) (i : Nat) : (killAll σ ids).get i = if i ∈ ids then none else σ.get i := rfl
theorem sub_killAll {M0 : Mem} (ids : List Nat) (h : Sub M0 σ) (hn : ∀ i ∈ ids, M0.get i = none) : Sub M0 (killAll σ ids) = True := eq_true fun i cs' hi => by
  rw [killAll_get']
  split
  · rename_i hin; rw [hn i hin] at hi; cases hi
  · exact h i cs' hi
theorem ArrAt.re {n0 : Nat} {v : AV} {e : TypeId} {cs : List AV} {n sz : Nat} (h : ArrAt n0 σ v e cs n sz) (hf : cs.all flatA = true) (hg : ∀ i cs, n0 ≤ i → σ.get i = some cs → cs.all flatA = true → τ.get i = some cs ∧ τ.ty i = σ.ty i) (hn : τ.next = σ.next) : ArrAt n0 τ v e cs n sz := by
  rcases h with h | ⟨id, h1, h2, h3, h4, h5⟩
  · exact .inl h
  · obtain ⟨a, b⟩ := hg id cs h4 h2 hf
    exact .inr ⟨id, h1, a, by rw [b]; exact h3, h4, by rw [hn]; exact h5⟩
theorem arrAt_solid {n0 : Nat} {v : AV} {e : TypeId} {cs : List AV} {n sz : Nat} (h : ArrAt n0 σ v e cs n sz) : Solid v := by
  rcases h with ⟨rfl, _⟩ | ⟨id, rfl, _⟩
  · exact .nils
  · exact .arr ..
theorem flat_map {α : Type} {f : α → AV} (hf : ∀ a, flatA (f a) = true) (l : List α) : (l.map f).all flatA = true := List.all_eq_true.2 fun x hx => by obtain ⟨a, _, rfl⟩ := List.mem_map.1 hx; exact hf a
theorem pureA_of_own' {f : FuncId} {args : List AV} {D : AV} {O : Nat → AV → Mem → Prop} (h : ∀ σ, CallA P f args σ fun x τ => O σ.next x τ ∧ Kept σ τ ∧ σ.next ≤ τ.next) (hR : ∀ n x τ, O n x τ → Frz n τ x D) : PureA P f args D := fun σ => callA_frz ((h σ).mono fun x τ hx => ⟨hR _ x τ hx.1, hx.2.1.keeps⟩)
end
attribute [go_sem] killAll_next killAll_ty
end Go.Ew
namespace Go.Ew
open Go Go.RowKit

/-- Where a number stands in a list. -/
def pos : List Nat → Nat → Option Nat
  | [], _ => none
  | j :: l, i => if i = j then some 0 else (pos l i).map (· + 1)
theorem pos_get : ∀ {l : List Nat} {i k : Nat}, pos l i = some k → l[k]? = some i
  | [], _, _, h => by cases h
  | j :: l, i, k, h => by
    simp only [pos] at h
    split at h
    · rename_i e; cases h; simp [e]
    · cases hp : pos l i with
      | none => rw [hp] at h; cases h
      | some m => rw [hp] at h; cases h; simpa using pos_get hp
theorem pos_mem {l : List Nat} {i k : Nat} (h : pos l i = some k) : i ∈ l := List.mem_of_getElem? (pos_get h)
theorem pos_of_mem : ∀ {l : List Nat} {i : Nat}, i ∈ l → ∃ k, pos l i = some k
  | [], _, h => by cases h
  | j :: l, i, h => by
    simp only [pos]
    split
    · exact ⟨0, rfl⟩
    · rename_i e
      rcases List.mem_cons.1 h with h | h
      · exact absurd h e
      · obtain ⟨k, hk⟩ := pos_of_mem h; exact ⟨k + 1, by rw [hk]; rfl⟩
theorem pos_none {l : List Nat} {i : Nat} (h : ¬ i ∈ l) : pos l i = none := by
  cases hp : pos l i with
  | none => rfl
  | some k => exact absurd (pos_mem hp) h
theorem pos_lt {l : List Nat} {i k : Nat} (h : pos l i = some k) : k < l.length := (List.getElem?_eq_some_iff.1 (pos_get h)).1
theorem pos_append {l r : List Nat} {i k : Nat} (h : pos l i = some k) : pos (l ++ r) i = some k := by
  induction l generalizing k with
  | nil => cases h
  | cons j l ih =>
    simp only [pos, List.cons_append] at h ⊢
    split
    · rename_i e; rw [if_pos e] at h; exact h
    · rename_i e
      rw [if_neg e] at h
      cases hp : pos l i with
      | none => rw [hp] at h; cases h
      | some m => rw [hp] at h; cases h; rw [ih hp]; rfl
theorem get_pos : ∀ {l : List Nat} {i k : Nat}, l.Nodup → l[k]? = some i → pos l i = some k
  | [], _, _, _, h => by simp at h
  | j :: l, i, 0, _, h => by simp at h; simp [pos, h]
  | j :: l, i, k + 1, hn, h => by
    simp only [List.getElem?_cons_succ] at h
    have hm : i ∈ l := List.mem_of_getElem? h
    have hne : ¬ i = j := fun e => (List.nodup_cons.1 hn).1 (e ▸ hm)
    simp only [pos, if_neg hne]
    rw [get_pos (List.nodup_cons.1 hn).2 h]
    rfl

/-- New numbers in a value. -/
def ren (n : Nat) (ids : List Nat) : AV → AV
  | .ptr i o => match pos ids i with | some k => .ptr (n + k) o | none => .ptr i o
  | .arr i o m s => match pos ids i with | some k => .arr (n + k) o m s | none => .arr i o m s
  | x => x
def moveM (σ : Mem) (ids : List Nat) : Mem := ⟨σ.next + ids.length, fun i => if i < σ.next then σ.ty i else σ.ty (ids.getD (i - σ.next) 0), fun i => if i < σ.next then (if i ∈ ids then none else σ.get i) else (ids[i - σ.next]?).bind fun j => (σ.get j).map (List.map (ren σ.next ids))⟩
def backM (n : Nat) (bs : List Nat) (τ : Mem) : Mem := ⟨τ.next, fun i => match pos bs i with | some k => τ.ty (n + k) | none => τ.ty i, fun i => match pos bs i with | some k => τ.get (n + k) | none => if n ≤ i ∧ i < n + bs.length then none else τ.get i⟩
section
variable {P : Program} {φ : Nat → Nat} {σ τ : Mem} {w : World}
def phiM (φ : Nat → Nat) (n : Nat) (ids : List Nat) : Nat → Nat := fun i => if i < n then φ i else φ (ids.getD (i - n) 0)
theorem moveM_get {ids : List Nat} (hlt : ∀ i ∈ ids, i < σ.next) {i : Nat} {cs : List AV} (h : (moveM σ ids).get i = some cs) : (i < σ.next ∧ ¬ i ∈ ids ∧ σ.get i = some cs) ∨ ∃ (k j : Nat) (cs0 : List AV), i = σ.next + k ∧ ids[k]? = some j ∧ σ.get j = some cs0 ∧ cs = cs0.map (ren σ.next ids) ∧ j < σ.next := by
  simp only [moveM] at h
  split at h
  · split at h
    · cases h
    · exact .inl ⟨by assumption, by assumption, h⟩
  · rename_i hi
    cases hj : ids[i - σ.next]? with
    | none => rw [hj] at h; cases h
    | some j =>
      rw [hj] at h
      simp only [Option.bind_some] at h
      cases hg : σ.get j with
      | none => rw [hg] at h; cases h
      | some cs0 => rw [hg] at h; cases h; exact .inr ⟨i - σ.next, j, cs0, by omega, hj, hg, rfl, hlt j (List.mem_of_getElem? hj)⟩
theorem phiM_new {ids : List Nat} {k j : Nat} (h : ids[k]? = some j) : phiM φ σ.next ids (σ.next + k) = φ j := by
  unfold phiM
  rw [if_neg (by omega), Nat.add_sub_cancel_left, List.getD_eq_getElem?_getD, h]
  rfl
theorem phiM_old {ids : List Nat} {i : Nat} (h : i < σ.next) : phiM φ σ.next ids i = φ i := by unfold phiM; rw [if_pos h]
theorem move_step {ids : List Nat} (hlt : ∀ i ∈ ids, i < σ.next) : Step φ σ w (phiM φ σ.next ids) (moveM σ ids) w := by
  refine ⟨Nat.le_add_right _ _, fun i hi => phiM_old hi, fun b ⟨i, h1, h2⟩ => .inl ?_, Nat.le_refl _, fun _ _ _ => rfl, fun b cur e fz hb => ⟨cur, fz, hb, rfl⟩, rfl, rfl, rfl⟩
  obtain ⟨cs, hcs⟩ := Option.isSome_iff_exists.1 h1
  rcases moveM_get hlt hcs with ⟨k1, _, k3⟩ | ⟨k, j, cs0, rfl, k2, k3, _, _⟩
  · exact ⟨i, by rw [k3]; rfl, by rw [phiM_old k1] at h2; exact h2⟩
  · exact ⟨j, by rw [k3]; rfl, by rw [phiM_new k2] at h2; exact h2⟩
theorem ren_rv {ids : List Nat} (hlt : ∀ i ∈ ids, i < σ.next) {x : AV} {v : Value} (h : RvM φ σ w x v) : RvM (phiM φ σ.next ids) (moveM σ ids) w (ren σ.next ids x) v := by
  have hs := h.step (move_step (φ := φ) (w := w) hlt)
  cases h with
  | arr id off m sz c h1 h2 h3 h4 =>
    simp only [ren]
    cases hp : pos ids id with
    | none => exact hs
    | some k =>
      have e := phiM_new (φ := φ) (σ := σ) (pos_get hp)
      simp only
      rw [← e]
      rw [← e] at h4
      exact .arr _ off m sz c (by have := pos_lt hp; simp only [moveM]; omega) h2 h3 h4
  | ptr id off h1 =>
    simp only [ren]
    cases hp : pos ids id with
    | none => exact hs
    | some k =>
      have e := phiM_new (φ := φ) (σ := σ) (pos_get hp)
      simp only
      rw [← e]
      exact .ptr _ off (by have := pos_lt hp; simp only [moveM]; omega)
  | _ => exact hs
theorem move_rel {ids : List Nat} (hlt : ∀ i ∈ ids, i < σ.next) (hnd : ids.Nodup) (hr : RelM φ σ w) : RelM (phiM φ σ.next ids) (moveM σ ids) w := by
  refine ⟨fun i cs hi => ?_, fun i cs hi => ?_, fun i j hi hj e => ?_⟩
  · rcases moveM_get hlt hi with ⟨k1, _, _⟩ | ⟨k, j, cs0, rfl, k2, _, _, _⟩
    · exact Nat.lt_of_lt_of_le k1 (Nat.le_add_right _ _)
    · have := (List.getElem?_eq_some_iff.1 k2).1; simp only [moveM]; omega
  · rcases moveM_get hlt hi with ⟨k1, _, k3⟩ | ⟨k, j, cs0, rfl, k2, k3, rfl, k5⟩
    · obtain ⟨cur, g1, g2, g3⟩ := hr.cell i cs k3
      refine ⟨cur, by rw [phiM_old k1, show (moveM σ ids).ty i = σ.ty i by simp [moveM, k1]]; exact g1, g2, fun l x hx => ?_⟩
      obtain ⟨v, g4, g5, g6⟩ := g3 l x hx
      exact ⟨v, g4, g5, g6.step (move_step hlt)⟩
    · obtain ⟨cur, g1, g2, g3⟩ := hr.cell j cs0 k3
      refine ⟨cur, by rw [phiM_new k2, show (moveM σ ids).ty (σ.next + k) = σ.ty j by simp only [moveM]; rw [if_neg (by omega), Nat.add_sub_cancel_left, List.getD_eq_getElem?_getD, k2]; rfl]; exact g1, by simpa using g2, fun l x hx => ?_⟩
      rw [List.getElem?_map] at hx
      cases hy : cs0[l]? with
      | none => rw [hy] at hx; cases hx
      | some y =>
        rw [hy] at hx
        cases hx
        obtain ⟨v, g4, g5, g6⟩ := g3 l y hy
        exact ⟨v, g4, g5, ren_rv hlt g6⟩
  · obtain ⟨ci, hci⟩ := Option.isSome_iff_exists.1 hi
    obtain ⟨cj, hcj⟩ := Option.isSome_iff_exists.1 hj
    rcases moveM_get hlt hci with ⟨k1, k2, k3⟩ | ⟨k, i', cs0, rfl, k2, k3, _, _⟩ <;> rcases moveM_get hlt hcj with ⟨l1, l2, l3⟩ | ⟨l, j', cs1, rfl, l2, l3, _, _⟩
    · rw [phiM_old k1, phiM_old l1] at e
      exact hr.inj i j (by rw [k3]; rfl) (by rw [l3]; rfl) e
    · rw [phiM_old k1, phiM_new l2] at e
      have := hr.inj i j' (by rw [k3]; rfl) (by rw [l3]; rfl) e
      subst this
      exact absurd (List.mem_of_getElem? l2) k2
    · rw [phiM_new k2, phiM_old l1] at e
      have := hr.inj i' j (by rw [k3]; rfl) (by rw [l3]; rfl) e
      subst this
      exact absurd (List.mem_of_getElem? k2) l2
    · rw [phiM_new k2, phiM_new l2] at e
      have := hr.inj i' j' (by rw [k3]; rfl) (by rw [l3]; rfl) e
      subst this
      have a := get_pos hnd k2
      rw [get_pos hnd l2] at a
      cases a
      rfl
/-- THE MOVE. -/
theorem callA_move {f : FuncId} {args : List AV} {R : AV → Mem → Prop} (bs os : List Nat) (hnd : (bs ++ os).Nodup) (hlt : ∀ i ∈ bs ++ os, i < σ.next)
    (h : CallA P f (args.map (ren σ.next (bs ++ os))) (moveM σ (bs ++ os)) R) : CallA P f args σ fun x τ' => ∃ τ, R x τ ∧ σ.next + (bs ++ os).length ≤ τ.next ∧ τ' = backM σ.next bs τ := by
  refine ⟨h.1, fun φ w vs hr hv => ?_⟩
  have st := move_step (φ := φ) (w := w) hlt
  have hv1 : RvL (phiM φ σ.next (bs ++ os)) (moveM σ (bs ++ os)) w (args.map (ren σ.next (bs ++ os))) vs := by
    refine ⟨by simpa using hv.1, fun j x v hx hvj => ?_⟩
    rw [List.getElem?_map] at hx
    cases hy : args[j]? with
    | none => rw [hy] at hx; cases hx
    | some y => rw [hy] at hx; cases hx; exact ren_rv hlt (hv.2 j y v hy hvj)
  refine (h.2 _ w vs (move_rel hlt hnd hr) hv1).mono ?_
  rintro e w' ⟨v, x, φ', τ, rfl, k1, k2, k3, k4⟩
  have hnx : σ.next + (bs ++ os).length ≤ τ.next := k3.next
  have hnb : bs.Nodup := (List.nodup_append.1 hnd).1
  -- where an object of the new memory stands in the old one
  have src : ∀ i cs, (backM σ.next bs τ).get i = some cs → ∃ s, τ.get s = some cs ∧ τ.ty s = (backM σ.next bs τ).ty i ∧ φ' s = φ' i ∧ ((∃ k, pos bs i = some k ∧ s = σ.next + k ∧ i < σ.next) ∨ (s = i ∧ ¬ (σ.next ≤ i ∧ i < σ.next + bs.length))) := by
    intro i cs hi
    simp only [backM] at hi ⊢
    cases hp : pos bs i with
    | some k =>
      rw [hp] at hi
      have hil : i < σ.next := hlt i (List.mem_append.2 (.inl (pos_mem hp)))
      refine ⟨σ.next + k, hi, rfl, ?_, .inl ⟨k, rfl, rfl, hil⟩⟩
      have hkl := pos_lt hp
      rw [k3.phi (σ.next + k) (by simp only [moveM, List.length_append]; omega), k3.phi i (by simp only [moveM]; omega), phiM_old hil, phiM_new (pos_get (pos_append hp))]
    | none =>
      rw [hp] at hi
      simp only at hi
      split at hi
      · cases hi
      · rename_i hn; exact ⟨i, hi, rfl, rfl, .inr ⟨rfl, hn⟩⟩
  have st2 : Step φ' τ w' φ' (backM σ.next bs τ) w' := by
    refine ⟨Nat.le_refl _, fun _ _ => rfl, fun b ⟨i, h1, h2⟩ => .inl ?_, Nat.le_refl _, fun _ _ _ => rfl, fun b cur e fz hb => ⟨cur, fz, hb, rfl⟩, rfl, rfl, rfl⟩
    obtain ⟨cs, hcs⟩ := Option.isSome_iff_exists.1 h1
    obtain ⟨s, s1, _, s3, _⟩ := src i cs hcs
    exact ⟨s, by rw [s1]; rfl, by rw [s3]; exact h2⟩
  refine ⟨v, x, φ', backM σ.next bs τ, rfl, ⟨fun i cs hi => ?_, fun i cs hi => ?_, fun i j hi hj e => ?_⟩, k2.step st2, (st.trans k3).trans st2, τ, k4, hnx, rfl⟩
  · obtain ⟨s, s1, _, _, s4⟩ := src i cs hi
    rcases s4 with ⟨k, _, _, h4⟩ | ⟨rfl, _⟩
    · simp only [backM]; omega
    · exact k1.live s cs s1
  · obtain ⟨s, s1, s2, s3, _⟩ := src i cs hi
    obtain ⟨cur, g1, g2, g3⟩ := k1.cell s cs s1
    refine ⟨cur, by rw [← s3, ← s2]; exact g1, g2, fun l y hy => ?_⟩
    obtain ⟨u, g4, g5, g6⟩ := g3 l y hy
    exact ⟨u, g4, g5, g6.step st2⟩
  · obtain ⟨ci, hci⟩ := Option.isSome_iff_exists.1 hi
    obtain ⟨cj, hcj⟩ := Option.isSome_iff_exists.1 hj
    obtain ⟨s, s1, _, s3, s4⟩ := src i ci hci
    obtain ⟨t, t1, _, t3, t4⟩ := src j cj hcj
    have hst := k1.inj s t (by rw [s1]; rfl) (by rw [t1]; rfl) (by rw [s3, t3]; exact e)
    subst hst
    rcases s4 with ⟨k, a1, a2, _⟩ | ⟨a1, a2⟩ <;> rcases t4 with ⟨l, b1, b2, _⟩ | ⟨b1, b2⟩
    · have : k = l := by omega
      subst this
      have := pos_get a1
      rw [pos_get b1] at this
      cases this
      rfl
    · exfalso; have := pos_lt a1; omega
    · exfalso; have := pos_lt b1; omega
    · omega

/-! ### Boxes with slots -/
/-- A cell of an object that is written through a pointer: data, or an own slice. -/
inductive Slot where
  | dat (x : AV)
  | own (e : TypeId) (cells : List AV) (n sz : Nat)
def SlotsAt (n0 : Nat) (τ : Mem) (bs : List Nat) : List AV → List Slot → Prop
  | [], [] => True
  | x :: xs, .dat d :: ss => x = d ∧ SlotsAt n0 τ bs xs ss
  | x :: xs, .own e c n sz :: ss => ArrAt n0 τ x e c n sz ∧ (∀ i, idOf x = some i → ¬ i ∈ bs) ∧ (∀ y ∈ xs, Apart x y) ∧ SlotsAt n0 τ bs xs ss
  | _, _ => False
/-- Objects (their numbers: bs, from n0 on) with their slots; the slots' own slices have numbers from n1 on. -/
def BoxesAt (n0 n1 : Nat) (τ : Mem) (bs : List Nat) (sss : List (List Slot)) : Prop :=
  bs.Nodup ∧ (∀ b ∈ bs, n0 ≤ b ∧ b < τ.next) ∧ ∃ xss : List (List AV), xss.length = bs.length ∧ xss.map List.length = sss.map List.length ∧ (∀ (k b : Nat) (xs : List AV), bs[k]? = some b → xss[k]? = some xs → τ.get b = some xs) ∧ SlotsAt n1 τ bs xss.flatten sss.flatten
/-- A cell that no number stands in. -/
def noId (x : AV) : Prop := ∀ n ids, ren n ids x = x
/-- The cells of slots are such. -/
def Slot.ok : Slot → Prop
  | .dat x => noId x ∧ idOf x = none
  | .own _ cells _ _ => ∀ x ∈ cells, noId x
def argA (bs : List Nat) : Nat ⊕ AV → AV
  | .inl j => .ptr (bs.getD j 0) 0
  | .inr x => x
def okArg (m : Nat) : Nat ⊕ AV → Prop
  | .inl j => j < m
  | .inr x => noId x
def idsOf (xs : List AV) : List Nat := xs.filterMap idOf
theorem mem_idsOf {xs : List AV} {i : Nat} : i ∈ idsOf xs ↔ ∃ x ∈ xs, idOf x = some i := by simp [idsOf]
theorem slots_ids {n0 : Nat} {bs : List Nat} : ∀ {xs : List AV} {ss : List Slot}, SlotsAt n0 τ bs xs ss → (∀ s ∈ ss, s.ok) → (idsOf xs).Nodup ∧ ∀ i ∈ idsOf xs, n0 ≤ i ∧ i < τ.next ∧ ¬ i ∈ bs
  | [], [], _, _ => ⟨by simp [idsOf], fun i h => by simp [idsOf] at h⟩
  | x :: xs, .dat d :: ss, h, ho => by
    obtain ⟨rfl, h2⟩ := h
    have hn : idOf x = none := (ho _ (List.mem_cons_self ..)).2
    have ih := slots_ids h2 fun s hs => ho s (List.mem_cons_of_mem _ hs)
    have e : idsOf (x :: xs) = idsOf xs := by simp [idsOf, hn]
    rw [e]; exact ih
  | x :: xs, .own e c n sz :: ss, h, ho => by
    obtain ⟨h1, h2, h3, h4⟩ := h
    have ih := slots_ids h4 fun s hs => ho s (List.mem_cons_of_mem _ hs)
    cases hx : idOf x with
    | none =>
      have e : idsOf (x :: xs) = idsOf xs := by simp [idsOf, hx]
      rw [e]; exact ih
    | some i =>
      have e : idsOf (x :: xs) = i :: idsOf xs := by simp [idsOf, hx]
      rw [e]
      refine ⟨List.nodup_cons.2 ⟨fun hm => ?_, ih.1⟩, fun j hj => ?_⟩
      · obtain ⟨y, hy, hyi⟩ := mem_idsOf.1 hm
        exact h3 y hy i hx hyi
      · rcases List.mem_cons.1 hj with rfl | hj
        · exact ⟨(arrAt_lt h1 j hx).1, (arrAt_lt h1 j hx).2, h2 j hx⟩
        · exact ih.2 j hj
  | [], _ :: _, h, _ => by cases h
  | _ :: _, [], h, _ => by cases h
theorem map_ren_noid {n : Nat} {ids : List Nat} {xs : List AV} (h : ∀ x ∈ xs, noId x) : xs.map (ren n ids) = xs := by
  conv => rhs; rw [← List.map_id xs]
  exact List.map_congr_left fun x hx => h x hx n ids
theorem idOf_ren {n : Nat} {ids : List Nat} {x : AV} {i : Nat} (h : idOf (ren n ids x) = some i) : ∃ j, idOf x = some j ∧ (match pos ids j with | some k => i = n + k | none => i = j) := by
  cases x <;> simp only [ren] at h <;> first | (simp [idOf] at h; done) | skip
  · rename_i id off m sz
    cases hp : pos ids id with
    | none => rw [hp] at h; simp only [idOf, Option.some.injEq] at h; exact ⟨id, rfl, by rw [hp]; exact h.symm⟩
    | some k => rw [hp] at h; simp only [idOf, Option.some.injEq] at h; exact ⟨id, rfl, by rw [hp]; exact h.symm⟩
  · rename_i id off
    cases hp : pos ids id with
    | none => rw [hp] at h; simp [idOf] at h
    | some k => rw [hp] at h; simp [idOf] at h
theorem range'_get (n m k : Nat) (h : k < m) : (List.range' n m)[k]? = some (n + k) := by rw [List.getElem?_range' h]; simp
theorem slots_move {n1 : Nat} {bs os : List Nat} (hnd : (bs ++ os).Nodup) (hlt : ∀ i ∈ bs ++ os, i < σ.next) : ∀ {xs : List AV} {ss : List Slot}, SlotsAt n1 σ bs xs ss → (∀ s ∈ ss, s.ok) → (∀ i ∈ idsOf xs, i ∈ os) →
    SlotsAt σ.next (moveM σ (bs ++ os)) (List.range' σ.next bs.length) (xs.map (ren σ.next (bs ++ os))) ss
  | [], [], _, _, _ => trivial
  | x :: xs, .dat d :: ss, h, ho, hi => by
    obtain ⟨rfl, h2⟩ := h
    have hk := ho _ (List.mem_cons_self ..)
    refine ⟨hk.1 _ _, slots_move hnd hlt h2 (fun s hs => ho s (List.mem_cons_of_mem _ hs)) fun i hm => hi i ?_⟩
    rw [show idsOf (x :: xs) = idsOf xs by simp [idsOf, hk.2]]; exact hm
  | x :: xs, .own e c n sz :: ss, h, ho, hi => by
    obtain ⟨h1, h2, h3, h4⟩ := h
    have hos : ∀ y ∈ x :: xs, ∀ i, idOf y = some i → i ∈ os := fun y hy i hyi => hi i (mem_idsOf.2 ⟨y, hy, hyi⟩)
    have hc : ∀ y ∈ c, noId y := ho (.own e c n sz) (List.mem_cons_self ..)
    refine ⟨?_, fun i hri => ?_, fun y hy => ?_, slots_move hnd hlt h4 (fun s hs => ho s (List.mem_cons_of_mem _ hs)) fun i hm => ?_⟩
    · rcases h1 with ⟨rfl, rfl, rfl⟩ | ⟨id, rfl, g1, g2, g3, g4⟩
      · exact .inl ⟨rfl, rfl, rfl⟩
      · obtain ⟨k, hk⟩ := pos_of_mem (List.mem_append.2 (.inr (hos _ (List.mem_cons_self ..) id rfl)) : id ∈ bs ++ os)
        have hg := pos_get hk
        have hl := pos_lt hk
        refine .inr ⟨σ.next + k, by simp only [ren, hk], ?_, ?_, by omega, by simp only [moveM]; omega⟩
        · simp only [moveM]; rw [if_neg (by omega), Nat.add_sub_cancel_left, hg]; simp only [Option.bind_some, g1, Option.map_some]; rw [map_ren_noid hc]
        · simp only [moveM]; rw [if_neg (by omega), Nat.add_sub_cancel_left, List.getD_eq_getElem?_getD, hg]; exact g2
    · obtain ⟨j, hj, hm⟩ := idOf_ren hri
      obtain ⟨k, hk⟩ := pos_of_mem (List.mem_append.2 (.inr (hos _ (List.mem_cons_self ..) j hj)) : j ∈ bs ++ os)
      rw [hk] at hm
      subst hm
      intro hin
      obtain ⟨q, hq, e⟩ := List.mem_range'.1 hin
      have hq' : k < bs.length := by omega
      have hg := pos_get hk
      rw [List.getElem?_append_left hq'] at hg
      exact h2 j hj (List.mem_of_getElem? hg)
    · obtain ⟨y0, hy0, rfl⟩ := List.mem_map.1 hy
      intro i hi1 hi2
      obtain ⟨j1, e1, m1⟩ := idOf_ren hi1
      obtain ⟨j2, e2, m2⟩ := idOf_ren hi2
      obtain ⟨k1, hk1⟩ := pos_of_mem (List.mem_append.2 (.inr (hos _ (List.mem_cons_self ..) j1 e1)) : j1 ∈ bs ++ os)
      obtain ⟨k2, hk2⟩ := pos_of_mem (List.mem_append.2 (.inr (hos _ (List.mem_cons_of_mem _ hy0) j2 e2)) : j2 ∈ bs ++ os)
      rw [hk1] at m1
      rw [hk2] at m2
      have hkk : k1 = k2 := by simp only at m1 m2; omega
      subst hkk
      have := pos_get hk1
      rw [pos_get hk2] at this
      cases this
      exact h3 y0 hy0 j1 e1 e2
    · obtain ⟨y, hy, hyi⟩ := mem_idsOf.1 hm
      exact hi i (mem_idsOf.2 ⟨y, List.mem_cons_of_mem _ hy, hyi⟩)
  | [], _ :: _, h, _, _ => by cases h
  | _ :: _, [], h, _, _ => by cases h
theorem slots_back {n : Nat} {bs : List Nat} (hlt : ∀ b ∈ bs, b < n) : ∀ {xs : List AV} {ss : List Slot}, SlotsAt n τ (List.range' n bs.length) xs ss → SlotsAt n (backM n bs τ) bs xs ss
  | [], [], _ => trivial
  | x :: xs, .dat d :: ss, h => ⟨h.1, slots_back hlt h.2⟩
  | x :: xs, .own e c m sz :: ss, h => by
    obtain ⟨h1, h2, h3, h4⟩ := h
    have hge : ∀ i, idOf x = some i → n ≤ i := fun i hi => (arrAt_lt h1 i hi).1
    have hb : ∀ i, idOf x = some i → pos bs i = none := fun i hi => pos_none fun hm => by have := hlt i hm; have := hge i hi; omega
    refine ⟨h1.same' (Nat.le_refl _) fun i hi => ?_, fun i hi hm => ?_, h3, slots_back hlt h4⟩
    · have hnn : ¬ (n ≤ i ∧ i < n + bs.length) := fun hc => h2 i hi (List.mem_range'.2 ⟨i - n, by omega, by omega⟩)
      simp only [backM, hb i hi, if_neg hnn, and_self]
    · have := hlt i hm; have := hge i hi; omega
  | [], _ :: _, h => by cases h
  | _ :: _, [], h => by cases h
/-- A CALL THAT WRITES THROUGH POINTERS, wherever the objects stand. -/
theorem callA_io {f : FuncId} {ags : List (Nat ⊕ AV)} {sss sss' : List (List Slot)} {D : AV}
    (h : ∀ (σ0 σ1 : Mem) (bs : List Nat), Kept σ0 σ1 → σ0.next ≤ σ1.next → bs.length = sss.length → BoxesAt σ0.next σ0.next σ1 bs sss → CallA P f (ags.map (argA bs)) σ1 fun x τ => x = D ∧ BoxesAt σ0.next σ0.next τ bs sss' ∧ Kept σ0 τ ∧ σ0.next ≤ τ.next)
    (ho : ∀ ss ∈ sss, ∀ s ∈ ss, s.ok) (ha : ∀ a ∈ ags, okArg sss.length a) {n0 n1 : Nat} {bs : List Nat} (hB : BoxesAt n0 n1 σ bs sss) (hl : sss'.length = sss.length) :
    CallA P f (ags.map (argA bs)) σ fun x τ => x = D ∧ BoxesAt n0 σ.next τ bs sss' ∧ (∀ i, i < σ.next → ¬ i ∈ bs → (∀ b ∈ bs, ∀ xs, σ.get b = some xs → ∀ x ∈ xs, idOf x = some i → False) → τ.get i = σ.get i ∧ τ.ty i = σ.ty i) ∧ σ.next ≤ τ.next := by
  obtain ⟨hnd, hbs, xss, hx1, hx2, hx3, hx4⟩ := hB
  have hxl : xss.length = sss.length := by simpa using congrArg List.length hx2
  have hbl : bs.length = sss.length := by omega
  obtain ⟨i1, i2⟩ := slots_ids hx4 fun s hs => by obtain ⟨ss, h1, h2⟩ := List.mem_flatten.1 hs; exact ho ss h1 s h2
  have hnd' : (bs ++ idsOf xss.flatten).Nodup := List.nodup_append.2 ⟨hnd, i1, fun a ha b hb e => (i2 b hb).2.2 (e ▸ ha)⟩
  have hlt : ∀ i ∈ bs ++ idsOf xss.flatten, i < σ.next := fun i hi => by
    rcases List.mem_append.1 hi with h | h
    · exact (hbs i h).2
    · exact (i2 i h).2.1
  have hpos : ∀ k b, bs[k]? = some b → pos (bs ++ idsOf xss.flatten) b = some k := fun k b hk => pos_append (get_pos hnd hk)
  obtain ⟨σ1, hσ1⟩ : ∃ σ1, σ1 = moveM σ (bs ++ idsOf xss.flatten) := ⟨_, rfl⟩
  have hargs : (ags.map (argA bs)).map (ren σ.next (bs ++ idsOf xss.flatten)) = ags.map (argA (List.range' σ.next bs.length)) := by
    rw [List.map_map]
    refine List.map_congr_left fun a hain => ?_
    have hao := ha a hain
    cases a with
    | inl j =>
      have hj : j < bs.length := by simp only [okArg] at hao; omega
      simp only [Function.comp, argA, ren]
      rw [List.getD_eq_getElem?_getD, List.getElem?_eq_getElem hj, Option.getD_some, hpos j _ (List.getElem?_eq_getElem hj), List.getD_eq_getElem?_getD, range'_get _ _ _ hj]
      rfl
    | inr x => exact hao _ _
  have hm1 : BoxesAt σ.next σ.next σ1 (List.range' σ.next bs.length) sss := by
    refine ⟨List.nodup_range', fun b hb => ?_, xss.map (List.map (ren σ.next (bs ++ idsOf xss.flatten))), by simp [hx1], ?_, fun k b xs hk hxs => ?_, ?_⟩
    · obtain ⟨q, hq, e⟩ := List.mem_range'.1 hb
      rw [hσ1]; simp only [moveM, List.length_append]; omega
    · rw [← hx2]; simp
    · rw [List.getElem?_map] at hxs
      cases hy : xss[k]? with
      | none => rw [hy] at hxs; cases hxs
      | some ys =>
        rw [hy] at hxs
        cases hxs
        have hkl : k < bs.length := by rw [← hx1]; exact (List.getElem?_eq_some_iff.1 hy).1
        rw [range'_get _ _ _ hkl] at hk
        cases hk
        have hbk := List.getElem?_eq_getElem hkl
        rw [hσ1]
        simp only [moveM]
        rw [if_neg (by omega), Nat.add_sub_cancel_left, List.getElem?_append_left hkl, hbk]
        simp only [Option.bind_some]
        rw [hx3 k _ ys hbk hy]
        rfl
    · rw [← List.map_flatten, hσ1]
      exact slots_move hnd' hlt hx4 (fun s hs => by obtain ⟨ss, h1, h2⟩ := List.mem_flatten.1 hs; exact ho ss h1 s h2) fun i hi => hi
  have hc := h ⟨σ.next, σ1.ty, σ1.get⟩ σ1 (List.range' σ.next bs.length) (fun i _ => ⟨rfl, rfl⟩) (by rw [hσ1]; exact Nat.le_add_right _ _) (by simp [hbl]) hm1
  rw [← hargs, hσ1] at hc
  refine (callA_move bs _ hnd' hlt hc).mono ?_
  rintro x τ' ⟨τ, ⟨rfl, ⟨b1, b2, yss, y1, y2, y3, y4⟩, kk, kn⟩, hnx, rfl⟩
  have hyl : yss.length = bs.length := by rw [y1]; simp
  refine ⟨rfl, ⟨hnd, fun b hb => ⟨(hbs b hb).1, Nat.lt_of_lt_of_le (hbs b hb).2 kn⟩, yss, hyl, y2, fun k b xs hk hxs => ?_, slots_back (fun b hb => (hbs b hb).2) y4⟩, fun i hi hib hio => ?_, kn⟩
  · have hkl := (List.getElem?_eq_some_iff.1 hk).1
    simp only [backM, get_pos hnd hk]
    exact y3 k _ xs (range'_get _ _ _ hkl) hxs
  · have hno : ¬ i ∈ idsOf xss.flatten := fun hm => by
      obtain ⟨x, hx, hxi⟩ := mem_idsOf.1 hm
      obtain ⟨xs, hxs, hxx⟩ := List.mem_flatten.1 hx
      obtain ⟨k, hk⟩ := List.mem_iff_getElem?.1 hxs
      have hkl : k < bs.length := by rw [← hx1]; exact (List.getElem?_eq_some_iff.1 hk).1
      exact hio _ (List.getElem_mem hkl) xs (hx3 k _ xs (List.getElem?_eq_getElem hkl) hk) x hxx hxi
    obtain ⟨a1, a2⟩ := kk i hi
    simp only at a1 a2
    refine ⟨?_, ?_⟩
    · simp only [backM, pos_none hib]
      rw [if_neg (by omega), a1]
      simp only [moveM, if_pos hi]
      rw [if_neg (fun hm => (List.mem_append.1 hm).elim hib hno)]
    · simp only [backM, pos_none hib]
      rw [a2]
      simp only [moveM, if_pos hi]
/-- Arguments that hold own slices which are needed no more: they become data. -/
theorem callA_killR {f : FuncId} {xs ys : List AV} {R : AV → Mem → Prop} (ids : List Nat) (h : CallA P f ys (killAll σ ids) R) (hx : FrzSL (· ∈ ids) σ xs ys) : CallA P f xs σ R := by
  refine ⟨h.1, fun φ w vs hr hv => ?_⟩
  have hL : ∀ i, ((killAll σ ids).get i).isSome = true → (σ.get i).isSome = true ∧ ¬ i ∈ ids := fun i hi => by
    simp only [killAll] at hi
    split at hi
    · cases hi
    · exact ⟨hi, by assumption⟩
  have hr' : RelM φ (killAll σ ids) w := by
    have hl : ∀ b, Live φ (killAll σ ids) b → Live φ σ b := fun b ⟨i, h1, h2⟩ => ⟨i, (hL i h1).1, h2⟩
    have hg : ∀ i cs, (killAll σ ids).get i = some cs → σ.get i = some cs := fun i cs hi => by
      simp only [killAll] at hi
      split at hi
      · cases hi
      · exact hi
    refine ⟨fun i cs hi => hr.live i cs (hg i cs hi), fun i cs hi => ?_, fun i j hi hj e => hr.inj i j (hL i hi).1 (hL j hj).1 e⟩
    obtain ⟨cur, g1, g2, g3⟩ := hr.cell i cs (hg i cs hi)
    refine ⟨cur, g1, g2, fun j x hx => ?_⟩
    obtain ⟨u, g4, g5, g6⟩ := g3 j x hx
    exact ⟨u, g4, g5, g6.restrict hl (wf_of_rv g6)⟩
  have hv' : RvL φ (killAll σ ids) w ys vs := by
    refine ⟨by rw [← hx.1]; exact hv.1, fun j y v hy hvj => ?_⟩
    have hj : j < xs.length := by rw [hx.1]; exact (List.getElem?_eq_some_iff.1 hy).1
    exact rv_frzS (σ' := Ew.killAll σ ids) hr rfl hL (hx.2 j _ y (List.getElem?_eq_getElem hj) hy) v (hv.2 j _ v (List.getElem?_eq_getElem hj) hvj)
  refine (h.2 φ w vs hr' hv').mono ?_
  rintro e w' ⟨v, x, φ', τ, rfl, k1, k2, k3, k4⟩
  have st : Step φ σ w φ (killAll σ ids) w := ⟨Nat.le_refl _, fun _ _ => rfl, fun b ⟨i, h1, h2⟩ => .inl ⟨i, (hL i h1).1, h2⟩, Nat.le_refl _, fun _ _ _ => rfl, fun b cur e fz hb => ⟨cur, fz, hb, rfl⟩, rfl, rfl, rfl⟩
  exact ⟨v, _, φ', _, rfl, k1, k2, st.trans k3, k4⟩

/-! ### Single boxes -/
theorem boxes1 {n0 n1 b : Nat} {ss : List Slot} {xs : List AV} (h1 : n0 ≤ b) (h2 : b < τ.next) (h3 : τ.get b = some xs) (h4 : xs.length = ss.length) (h5 : SlotsAt n1 τ [b] xs ss) : BoxesAt n0 n1 τ [b] [ss] := by
  refine ⟨by simp, fun c hc => ?_, [xs], rfl, by simp [h4], fun k c ys hk hy => ?_, by simpa using h5⟩
  · rw [List.mem_singleton.1 hc]; exact ⟨h1, h2⟩
  · cases k with
    | zero => simp at hk hy; subst hk; subst hy; exact h3
    | succ k => simp at hk
theorem boxes1_of {n0 n1 b : Nat} {ss : List Slot} (h : BoxesAt n0 n1 τ [b] [ss]) : n0 ≤ b ∧ b < τ.next ∧ ∃ xs, τ.get b = some xs ∧ SlotsAt n1 τ [b] xs ss := by
  obtain ⟨_, h2, xss, h3, _, h5, h6⟩ := h
  match xss, h3 with
  | [xs], _ => exact ⟨(h2 b (by simp)).1, (h2 b (by simp)).2, xs, h5 0 b xs rfl rfl, by simpa using h6⟩
theorem boxes1_len {n0 n1 : Nat} {bs : List Nat} {ss : List Slot} (hl : bs.length = 1) (h : BoxesAt n0 n1 τ bs [ss]) : ∃ b, bs = [b] := by
  match bs, hl with
  | [b], _ => exact ⟨b, rfl⟩
theorem slots_nil {n1 : Nat} {bs : List Nat} {xs : List AV} (h : SlotsAt n1 τ bs xs []) : xs = [] := by
  cases xs with
  | nil => rfl
  | cons x xs => cases h
theorem slots_dat {n1 : Nat} {bs : List Nat} {xs : List AV} {d : AV} {ss : List Slot} (h : SlotsAt n1 τ bs xs (.dat d :: ss)) : ∃ ys, xs = d :: ys ∧ SlotsAt n1 τ bs ys ss := by
  cases xs with
  | nil => cases h
  | cons x xs => obtain ⟨rfl, h⟩ := h; exact ⟨xs, rfl, h⟩
theorem slots_own {n1 : Nat} {bs : List Nat} {xs : List AV} {e : TypeId} {cells : List AV} {n sz : Nat} {ss : List Slot} (h : SlotsAt n1 τ bs xs (.own e cells n sz :: ss)) : ∃ v ys, xs = v :: ys ∧ ArrAt n1 τ v e cells n sz ∧ (∀ i, idOf v = some i → ¬ i ∈ bs) ∧ (∀ y ∈ ys, Apart v y) ∧ SlotsAt n1 τ bs ys ss := by
  cases xs with
  | nil => cases h
  | cons x xs => obtain ⟨h1, h2, h3, h4⟩ := h; exact ⟨x, xs, rfl, h1, h2, h3, h4⟩
theorem noId_lit (v : Value) : noId (.lit v) := fun _ _ => rfl
theorem noId_imm (n : Nat) (cs : List AV) : noId (.imm n cs) := fun _ _ => rfl
theorem noId_flat {α : Type} {f : α → List AV} (hf : ∀ a, ∀ x ∈ f a, noId x) (l : List α) : ∀ x ∈ l.flatMap f, noId x := fun x hx => by obtain ⟨a, _, h⟩ := List.mem_flatMap.1 hx; exact hf a x h
theorem foot1 {b i : Nat} {cs : List AV} (h : σ.get b = some cs) (hc : ∀ x ∈ cs, idOf x = some i → False) : ∀ b' ∈ [b], ∀ xs, σ.get b' = some xs → ∀ x ∈ xs, idOf x = some i → False := fun b' hb xs hx x hxx => by
  rw [List.mem_singleton.1 hb, h] at hx
  cases hx
  exact hc x hxx
theorem alc_n {p : AV → Prop} : ∀ x ∈ ([] : List AV), p x := fun x h => by cases h
theorem alc_c {p : AV → Prop} {y : AV} {ys : List AV} (h : p y) (k : ∀ x ∈ ys, p x) : ∀ x ∈ y :: ys, p x := fun x hx => by
  rcases List.mem_cons.1 hx with rfl | hx
  · exact h
  · exact k x hx
theorem killAll_nil : killAll σ [] = σ := by simp [killAll]
theorem ft_n {i : Nat} : ∀ x ∈ ([] : List AV), idOf x = some i → False := fun x h => by cases h
theorem ft_d {i : Nat} {y : AV} {ys : List AV} (h : idOf y = none) (k : ∀ x ∈ ys, idOf x = some i → False) : ∀ x ∈ y :: ys, idOf x = some i → False := fun x hx => by
  rcases List.mem_cons.1 hx with rfl | hx
  · rw [h]; exact fun e => by cases e
  · exact k x hx
theorem ft_o {i : Nat} {y : AV} {ys : List AV} (h : idOf y = some i → False) (k : ∀ x ∈ ys, idOf x = some i → False) : ∀ x ∈ y :: ys, idOf x = some i → False := fun x hx => by
  rcases List.mem_cons.1 hx with rfl | hx
  · exact h
  · exact k x hx
theorem ap_n {v : AV} : ∀ y ∈ ([] : List AV), Apart v y := fun x h => by cases h
theorem sl_d {n1 : Nat} {bs : List Nat} {d : AV} {xs : List AV} {ss : List Slot} (h : SlotsAt n1 τ bs xs ss) : SlotsAt n1 τ bs (d :: xs) (.dat d :: ss) := ⟨rfl, h⟩
theorem sl_o {n1 b : Nat} {x : AV} {e : TypeId} {cells : List AV} {n sz : Nat} {xs : List AV} {ss : List Slot} (h1 : ArrAt n1 τ x e cells n sz) (h2 : ∀ i, idOf x = some i → ¬ i = b) (h3 : ∀ y ∈ xs, Apart x y) (h : SlotsAt n1 τ [b] xs ss) : SlotsAt n1 τ [b] (x :: xs) (.own e cells n sz :: ss) := ⟨h1, fun i hi hm => h2 i hi (List.mem_singleton.1 hm), h3, h⟩
theorem sl_n {n1 : Nat} {bs : List Nat} : SlotsAt n1 τ bs [] [] := trivial
theorem arrAt_nils {n0 : Nat} {e : TypeId} {sz : Nat} : ArrAt n0 τ .nils e [] 0 sz := .inl ⟨rfl, rfl, rfl⟩
theorem oka_n {m : Nat} : ∀ a ∈ ([] : List (Nat ⊕ AV)), okArg m a := fun a h => by cases h
theorem oka_p {m j : Nat} {ags : List (Nat ⊕ AV)} (h : j < m) (k : ∀ a ∈ ags, okArg m a) : ∀ a ∈ .inl j :: ags, okArg m a := fun a ha => by
  rcases List.mem_cons.1 ha with rfl | ha
  · exact h
  · exact k a ha
theorem oka_d {m : Nat} {x : AV} {ags : List (Nat ⊕ AV)} (h : noId x) (k : ∀ a ∈ ags, okArg m a) : ∀ a ∈ .inr x :: ags, okArg m a := fun a ha => by
  rcases List.mem_cons.1 ha with rfl | ha
  · exact h
  · exact k a ha
theorem oks_n : ∀ s ∈ ([] : List Slot), s.ok := fun a h => by cases h
theorem oks_d {x : AV} {ss : List Slot} (h : noId x) (h0 : idOf x = none) (k : ∀ s ∈ ss, s.ok) : ∀ s ∈ .dat x :: ss, s.ok := fun a ha => by
  rcases List.mem_cons.1 ha with rfl | ha
  · exact ⟨h, h0⟩
  · exact k a ha
theorem oks_o {e : TypeId} {cells : List AV} {n sz : Nat} {ss : List Slot} (h : ∀ x ∈ cells, noId x) (k : ∀ s ∈ ss, s.ok) : ∀ s ∈ .own e cells n sz :: ss, s.ok := fun a ha => by
  rcases List.mem_cons.1 ha with rfl | ha
  · exact h
  · exact k a ha
theorem oks_1 {ss : List Slot} (h : ∀ s ∈ ss, s.ok) : ∀ s' ∈ [ss], ∀ s ∈ s', s.ok := fun s' hs => by rw [List.mem_singleton.1 hs]; exact h
end

/-! ### A region in parts -/
section
variable {P : Program} {N : Nat} {Q : Fr → Mem → Prop} {k : List Itm} {fr : Fr} {σ : Mem}
theorem SW.region0 {id : Nat} {ops : Array Oper} (h : SW P N Q (.ops false ops.toList ops :: k) fr σ) : SW P N Q (.code (.region id ops false) :: k) fr σ := fun φ0 σ0 w0 φ w a hr hf hd hn hs => by
  have := h φ0 σ0 w0 φ w a hr hf hd hn hs
  simp only [LK]
  exact wp_region_list (by simpa [LK] using this)
theorem SW.opsEnd {l : List Oper} {all : Array Oper} (hl : l = []) (h : SW P N Q k fr σ) : SW P N Q (.ops false l all :: k) fr σ := fun φ0 σ0 w0 φ w a hr hf hd hn hs => by
  subst hl
  have := h φ0 σ0 w0 φ w a hr hf hd hn hs
  simpa [LK, wpList] using this
theorem operWp_mono2 {o : Oper} {a : Act} {w : World} {K K' : Act → World → Prop} {Q1 Q2 : Exit → Act → World → Prop} (h : ∀ a w, K a w → K' a w) (hq : ∀ e a w, e ≠ Exit.normal → Q1 e a w → Q2 e a w)
    (hh : o.wp P a w K Q1) : o.wp P a w K' Q2 := by
  unfold Oper.wp at *
  generalize (execOp a.eval o).run P w = r at *
  cases r with
  | ok n w' =>
    cases n <;> simp only [Oper.upon] at hh ⊢ <;>
      first
        | exact h _ _ hh
        | exact Calls.mono hh (fun e w'' he => by cases e <;> first | exact h _ _ he | exact hq _ _ _ (by simp) he | exact (show LetsOut Q2 from let ⟨a, w, hl⟩ := (show LetsOut Q1 from he); ⟨a, w, hq _ _ _ (by simp) hl⟩) | exact he)
        | exact Rows.mono hh (fun _ _ he => h _ _ he)
  | halt x w' => cases x <;> simp only [Oper.upon] at hh ⊢ <;> first | exact hq _ _ _ (by simp) hh | exact hh
theorem wpList_app {all : Array Oper} {Q1 Q2 : Exit → Act → World → Prop} {l2 : List Oper} (hn : ∀ a w, Q1 .normal a w → wpList P all Q2 l2 a w) (hq : ∀ e a w, e ≠ Exit.normal → Q1 e a w → Q2 e a w) :
    ∀ (l1 : List Oper) (a : Act) (w : World), wpList P all Q1 l1 a w → wpList P all Q2 (l1 ++ l2) a w
  | [], a, w, h => hn a w h
  | o :: l1, a, w, h => by
    simp only [wpList, List.cons_append] at h ⊢
    split
    · rename_i hw
      rw [if_pos hw] at h
      exact h.imp (operWp_mono2 (fun a w h => wpList_app hn hq l1 a w h) hq) fun ⟨h1, a', w', h2⟩ => ⟨h1, a', w', hq _ _ _ (by simp) h2⟩
    · rename_i hw
      rw [if_neg hw] at h
      exact wpList_app hn hq l1 _ w h
/-- A part of a region by itself. -/
theorem SW.opsCut {l : List Oper} {all : Array Oper} (n : Nat) (M : Fr → Mem → Prop) (h : EW P N (fun _ _ => False) [.ops false (l.take n) all, .goal M] fr σ) (hM : ∀ fr' σ', M fr' σ' → SW P N Q (.ops false (l.drop n) all :: k) fr' σ') :
    SW P N Q (.ops false l all :: k) fr σ := fun φ0 σ0 w0 φ w a hr hf hd hn hs => by
  have h1 := sound (φ0 := φ0) (σ0 := σ0) (w0 := w0) h φ w a hr hf hd hn hs
  simp only [LK, Bool.false_eq_true, if_false] at h1 ⊢
  rw [← List.take_append_drop n l]
  refine wpList_app (fun a w he => ?_) (fun e a w hne he => ?_) _ a w h1
  · obtain ⟨φ, σ, fr, k1, k2, k3, k4, k5, k6⟩ := he
    have := hM fr σ k6 φ0 σ0 w0 φ w a k1 k2 k3 k4 k5
    simpa only [LK, Bool.false_eq_true, if_false] using this
  · cases e with
    | normal => exact absurd rfl hne
    | ret => obtain ⟨φ, σ, fr, k1, k2, k3, k4, k5, k6⟩ := he; exact k6.elim
    | _ => exact he.elim
/-- Own slices behind the last elements of another own slice become data. -/
def tailM (σ : Mem) (va : AV) (ks cells : List AV) : Mem := ⟨σ.next, σ.ty, fun i => if idOf va = some i then some cells else if ks.any (fun v => idOf v == some i) then none else σ.get i⟩
theorem any_id {ks : List AV} {i : Nat} : (ks.any fun v => idOf v == some i) = true ↔ ∃ v ∈ ks, idOf v = some i := by simp
theorem tailM_get {va : AV} {ks cells : List AV} {i : Nat} (h1 : idOf va = some i → False) (h2 : ∀ v ∈ ks, idOf v = some i → False) : (tailM σ va ks cells).get i = σ.get i := by
  simp only [tailM]
  rw [if_neg h1, if_neg (fun h => by obtain ⟨v, hv, e⟩ := any_id.1 h; exact h2 v hv e)]
theorem tailM_self {va : AV} {ks cells : List AV} {i : Nat} (h1 : idOf va = some i) : (tailM σ va ks cells).get i = some cells := by simp only [tailM]; rw [if_pos h1]
theorem SW.frzTail {va : AV} {n0 : Nat} {e : TypeId} {n sz : Nat} {cs xs ys : List AV} (ks : List AV) (ha : ArrAt n0 σ va e (cs ++ xs) n sz) (hd : ∀ v ∈ ks, Apart va v) (hne : xs ≠ [])
    (hx : FrzSL (fun i => ∃ v ∈ ks, idOf v = some i) σ xs ys) (h : SW P N Q k fr (tailM σ va ks (cs ++ ys))) : SW P N Q k fr σ := by
  rcases ha with ⟨_, _, e0⟩ | ⟨id, rfl, hg, hty, hlo, hhi⟩
  · exact absurd (List.append_eq_nil_iff.1 e0).2 hne
  refine SW.frz (σ' := tailM σ (.arr id 0 n sz) ks (cs ++ ys)) (fun i => ∃ v ∈ ks, idOf v = some i) rfl rfl (fun t' => .keep _) (fun i hi => ?_) (fun i cs' hcs' => ?_) h
  · have hni : ¬ idOf (.arr id 0 n sz) = some i := fun e => by obtain ⟨v, hv, hvi⟩ := hi; exact hd v hv i e hvi
    simp only [tailM]
    rw [if_neg hni, if_pos (any_id.2 hi)]
  · simp only [tailM] at hcs'
    split at hcs'
    · rename_i hid
      have e : id = i := by simpa [idOf] using hid
      subst e
      cases hcs'
      refine ⟨_, hg, by simp [hx.1], fun j x y hjx hjy => ?_⟩
      by_cases hj : j < cs.length
      · rw [List.getElem?_append_left hj] at hjx hjy
        rw [hjx] at hjy; cases hjy; exact .keep _
      · rw [List.getElem?_append_right (by omega)] at hjx hjy
        exact hx.2 _ x y hjx hjy
    · split at hcs'
      · cases hcs'
      · exact ⟨cs', hcs', rfl, fun j x y hx hy => by rw [hx] at hy; cases hy; exact .keep _⟩
theorem frzS_at {S : Nat → Prop} {n0 : Nat} {v : AV} {e : TypeId} {cells : List AV} {n sz : Nat} (h : ArrAt n0 σ v e cells n sz) (hS : ∀ i, idOf v = some i → S i) : FrzS S σ v (.imm n cells) := by
  rcases h with ⟨rfl, rfl, rfl⟩ | ⟨id, rfl, hg, _⟩
  · exact .nil
  · exact .arr id n sz cells cells (hS id rfl) hg rfl fun j x y hx hy => by rw [hx] at hy; cases hy; exact .keep _
theorem arrAt_tail {va : AV} {n0 : Nat} {e : TypeId} {n sz : Nat} {cs xs ys : List AV} (ks : List AV) (ha : ArrAt n0 σ va e (cs ++ xs) n sz) (hne : xs ≠ []) {cs' : List AV} (hc : cs ++ ys = cs') : ArrAt n0 (tailM σ va ks (cs ++ ys)) va e cs' n sz := by
  rcases ha with ⟨_, _, e0⟩ | ⟨id, rfl, hg, hty, hlo, hhi⟩
  · exact absurd (List.append_eq_nil_iff.1 e0).2 hne
  · subst hc; exact .inr ⟨id, rfl, tailM_self rfl, hty, hlo, hhi⟩
theorem SW.nil (h : Q fr σ) : SW P N Q [] fr σ := fun _ _ _ φ _ _ hr hf hd hn hs => ⟨φ, _, _, hr, hf, hd, hn, hs, h⟩
/-- The rules again, their middle states behind a name that simp leaves alone. -/
theorem SW.regX {id : Nat} {ops : Array Oper} {d : Bool} (K : Fr → Mem → Prop) (h : ∀ M : Fr → Mem → Prop, (∀ f t, M f t ↔ K f t) → EW P N (fun _ _ => False) [.code (.region id ops d), .goal M] fr σ) (hM : ∀ f t, K f t → SW P N Q k f t) : SW P N Q (.code (.region id ops d) :: k) fr σ :=
  .reg K (h K fun _ _ => Iff.rfl) hM
theorem SW.opsX {l : List Oper} {all : Array Oper} (n : Nat) (K : Fr → Mem → Prop) (h : ∀ M : Fr → Mem → Prop, (∀ f t, M f t ↔ K f t) → EW P N (fun _ _ => False) [.ops false (l.take n) all, .goal M] fr σ) (hM : ∀ f t, K f t → SW P N Q (.ops false (l.drop n) all :: k) f t) :
    SW P N Q (.ops false l all :: k) fr σ := .opsCut n K (h K fun _ _ => Iff.rfl) hM
end
end Go.Ew
