/-
  From the rules to contracts: a function's contract out of its code; results turned into data; what a law's call comes to. Nothing here is about one program.
-/
import Derived.Test.YtkjikcmjcdlifaaEwF
namespace Go.Ew
open Go Go.RowKit

def resOne (P : Program) (fr : Fr) (σ : Mem) : ResultVar → Option AV
  | .tmp t => some (fr t)
  | .cell a t => (atPtr σ (fr a)).bind (readA P t)
def resAll (P : Program) (fr : Fr) (σ : Mem) : List ResultVar → Option (List AV)
  | [] => some []
  | r :: rs => (resOne P fr σ r).bind fun x => (resAll P fr σ rs).map fun xs => x :: xs
/-- What a function hands back. -/
def resA (P : Program) (rs : List ResultVar) (fr : Fr) (σ : Mem) : Option AV :=
  match rs with
  | [r] => resOne P fr σ r
  | rs => (resAll P fr σ rs).map .tup

def initFr (args : List AV) : Fr := fun k => args.getD k .undef

section
variable {P : Program} {φ : Nat → Nat} {σ : Mem} {w : World}

def resStep (tmps : Array Value) : ResultVar → Sem Value
  | .tmp t => pure (tmps.getD t Go.undef)
  | .cell a t => do loadVar t (← asAddr (tmps.getD a Go.undef))

theorem rv_resOne {fr : Fr} {tmps : Array Value} {r : ResultVar} {x : AV} (hr : RelM φ σ w) (hf : RelF φ σ w fr tmps) (h : resOne P fr σ r = some x) : ∃ v, RvM φ σ w x v ∧ (resStep tmps r).run P w = .ok v w := by
  cases r with
  | tmp t => cases h; exact ⟨_, hf t, rfl⟩
  | cell a t =>
    simp only [resOne] at h
    cases hp : atPtr σ (fr a) with
    | none => simp [hp] at h
    | some cs =>
      simp only [hp, Option.bind_some] at h
      obtain ⟨ad, vs, h0, hb, h1, h2⟩ := rv_atPtr hr hp (hf a)
      obtain ⟨v, h3, h4⟩ := rv_read h hb h1 h2
      exact ⟨v, h3, by simp only [resStep, h0, asAddr, Sem.run_bind, Sem.run_pure, Result.andThen_ok]; exact h4 w (Cls.refl w)⟩

theorem rv_resAll {fr : Fr} {tmps : Array Value} (hr : RelM φ σ w) (hf : RelF φ σ w fr tmps) : ∀ (rs : List ResultVar) (xs : List AV), resAll P fr σ rs = some xs → ∃ vs, RvL φ σ w xs vs ∧ (rs.mapM (resStep tmps)).run P w = .ok vs w
  | [], xs, h => by cases h; exact ⟨[], rvL_nil, by simp⟩
  | r :: rs, xs, h => by
    simp only [resAll] at h
    cases h1 : resOne P fr σ r with
    | none => simp [h1] at h
    | some x =>
      cases h2 : resAll P fr σ rs with
      | none => simp [h1, h2] at h
      | some ys =>
        simp only [h1, h2, Option.bind_some, Option.map_some, Option.some.injEq] at h
        subst h
        obtain ⟨v, h3, h4⟩ := rv_resOne hr hf h1
        obtain ⟨vs, h5, h6⟩ := rv_resAll hr hf rs ys h2
        refine ⟨v :: vs, ?_, by simp [List.mapM_cons, h4, h6]⟩
        have := rvL_append (xs := [x]) (us := [v]) ⟨rfl, fun j y u hy hu => by cases j with | zero => simp at hy hu; subst hy; subst hu; exact h3 | succ j => simp at hy⟩ h5
        exact this

theorem run_results {fn : Func} {fr : Fr} {tmps : Array Value} {x : AV} (hr : RelM φ σ w) (hf : RelF φ σ w fr tmps) (h : resA P fn.results.toList fr σ = some x) : ∃ v, RvM φ σ w x v ∧ (results fn tmps).run P w = .ok v w := by
  have hm : (results fn tmps) = (do let vs ← fn.results.mapM (resStep tmps); pure (if h : vs.size = 1 then vs[0] else .tuple vs)) := by
    unfold results
    congr 1
  have run : ∀ vs : List Value, (fn.results.toList.mapM (resStep tmps)).run P w = .ok vs w → (results fn tmps).run P w = .ok (if h : vs.toArray.size = 1 then vs.toArray[0] else .tuple vs.toArray) w := fun vs hvs => by
    rw [hm]
    simp [Array.mapM_eq_mapM_toList, hvs]
  unfold resA at h
  split at h
  · rename_i r hrs
    obtain ⟨v, h1, h2⟩ := rv_resOne hr hf h
    refine ⟨v, h1, ?_⟩
    have := run [v] (by rw [hrs]; simp [h2])
    simpa using this
  · rename_i hne
    cases ha : resAll P fr σ fn.results.toList with
    | none => simp [ha] at h
    | some xs =>
      simp only [ha, Option.map_some, Option.some.injEq] at h
      subst h
      obtain ⟨vs, h1, h2⟩ := rv_resAll hr hf _ xs ha
      refine ⟨.tuple vs.toArray, .tup xs vs h1.1 h1.2, ?_⟩
      have hlen : ∀ (rs : List ResultVar) (xs : List AV), resAll P fr σ rs = some xs → xs.length = rs.length := by
        intro rs
        induction rs with
        | nil => intro xs h; cases h; rfl
        | cons r rs ih =>
          intro xs h
          simp only [resAll] at h
          cases h1 : resOne P fr σ r with
          | none => simp [h1] at h
          | some y =>
            cases h2 : resAll P fr σ rs with
            | none => simp [h1, h2] at h
            | some ys =>
              simp only [h1, h2, Option.bind_some, Option.map_some, Option.some.injEq] at h
              subst h
              simp [ih ys h2]
      have hl := hlen _ _ ha
      have : ¬ vs.toArray.size = 1 := fun e => by
        have h3 : fn.results.toList.length = 1 := by rw [← hl, h1.1]; simpa using e
        match hq : fn.results.toList, h3 with
        | [r], _ => exact hne r hq
      rw [run vs h2, dif_neg this]

/-- THE ENTRY: a contract out of the code. -/
theorem callA_of_EW {f : FuncId} {fn : Func} {c : Code} {args : List AV} {R : AV → Mem → Prop} (hf : P.funcs[f]? = some fn) (hb : fn.body = some c) (hn : (fn.name == "runtime.NumGoroutine") = false)
    (h : EW P (args.length + (fn.ntmps - args.length)) (fun fr σ' => ∃ x, resA P fn.results.toList fr σ' = some x ∧ R x σ') [.code c] (initFr args) σ) : CallA P f args σ R := by
  refine ⟨⟨fn, hf, by simp [hb], hn⟩, fun φ w vs hr ha => calls_of_wp hf hb ?_⟩
  have hinit : RelF φ σ w (initFr args) (vs.toArray ++ Array.replicate (fn.ntmps - vs.toArray.size) Go.undef) := by
    intro k
    rw [Array.getD_eq_getD_getElem?]
    unfold initFr
    rw [List.getD_eq_getElem?_getD]
    by_cases hk : k < args.length
    · have hk' : k < vs.length := by rw [← ha.1]; exact hk
      rw [Array.getElem?_append_left (by simpa using hk'), List.getElem?_toArray, List.getElem?_eq_getElem hk, List.getElem?_eq_getElem hk']
      exact ha.2 k _ _ (List.getElem?_eq_getElem hk) (List.getElem?_eq_getElem hk')
    · have hk' : ¬ k < vs.length := by rw [← ha.1]; exact hk
      rw [List.getElem?_eq_none (by omega), Array.getElem?_append_right (by simp; omega)]
      have : ((Array.replicate (fn.ntmps - vs.toArray.size) Go.undef)[k - vs.toArray.size]?).getD Go.undef = Go.undef := by
        rw [Array.getElem?_replicate]; split <;> rfl
      rw [this]
      exact .tup [] [] rfl (fun j x v h => by simp at h)
  have hs := sound (φ0 := φ) (σ0 := σ) (w0 := w) h φ w ⟨vs.toArray ++ Array.replicate (fn.ntmps - vs.toArray.size) Go.undef, []⟩ hr hinit rfl (by simp [ha.1]) (Step.refl φ σ w)
  simp only [LK] at hs
  refine Code.wp_mono (fun e a w' he => ?_) hs
  have fin : St φ σ w (args.length + (fn.ntmps - args.length)) (fun fr σ' => ∃ x, resA P fn.results.toList fr σ' = some x ∧ R x σ') a w' → a.defers = [] ∧ ∃ v, (results fn a.tmps).run P w' = .ok v w' ∧ ∃ v' x φ' σ', Ending.returned v = .returned v' ∧ RelM φ' σ' w' ∧ RvM φ' σ' w' x v' ∧ Step φ σ w φ' σ' w' ∧ R x σ' := by
    rintro ⟨φ', σ', fr, h1, h2, h3, h4, h5, x, h6, h7⟩
    obtain ⟨v, h8, h9⟩ := run_results h1 h2 h6
    exact ⟨h3, v, h9, v, x, φ', σ', rfl, h1, h8, h5, h7⟩
  cases e with
  | normal => exact fin he
  | ret => exact fin he
  | _ => exact he.elim

/-! ### Results as data -/
/-- x, with every object from n0 on read off as data. -/
inductive Frz (n0 : Nat) (σ : Mem) : AV → AV → Prop
  | lit (v : Value) : Frz n0 σ (.lit v) (.lit v)
  | nils : Frz n0 σ .nils (.imm 0 [])
  | nil : Frz n0 σ .nils .nils
  | imm (n : Nat) (cs ys : List AV) : cs.length = ys.length → (∀ (j : Nat) (x y : AV), cs[j]? = some x → ys[j]? = some y → Frz n0 σ x y) → Frz n0 σ (.imm n cs) (.imm n ys)
  | arr (id off n sz : Nat) (cs ys : List AV) : n0 ≤ id → σ.get id = some cs → off + ys.length ≤ cs.length → (∀ (j : Nat) (x y : AV), (cs.drop off)[j]? = some x → ys[j]? = some y → Frz n0 σ x y) → Frz n0 σ (.arr id off n sz) (.imm n ys)
  | old (id off n sz : Nat) : id < n0 → Frz n0 σ (.arr id off n sz) (.arr id off n sz)
  | optr (id off : Nat) : id < n0 → Frz n0 σ (.ptr id off) (.ptr id off)
  | agg (cs ys : List AV) : cs.length = ys.length → (∀ (j : Nat) (x y : AV), cs[j]? = some x → ys[j]? = some y → Frz n0 σ x y) → Frz n0 σ (.agg cs) (.agg ys)
  | tup (cs ys : List AV) : cs.length = ys.length → (∀ (j : Nat) (x y : AV), cs[j]? = some x → ys[j]? = some y → Frz n0 σ x y) → Frz n0 σ (.tup cs) (.tup ys)

/-- Objects' numbers below n. -/
inductive WfA (n : Nat) : AV → Prop
  | lit (v : Value) : WfA n (.lit v)
  | nils : WfA n .nils
  | imm (m : Nat) (cs : List AV) : (∀ (j : Nat) (x : AV), cs[j]? = some x → WfA n x) → WfA n (.imm m cs)
  | arr (id off m sz : Nat) : id < n → WfA n (.arr id off m sz)
  | ptr (id off : Nat) : id < n → WfA n (.ptr id off)
  | iptr (cs : List AV) : (∀ (j : Nat) (x : AV), cs[j]? = some x → WfA n x) → WfA n (.iptr cs)
  | fn (f : FuncId) (cs : List AV) : (∀ (j : Nat) (x : AV), cs[j]? = some x → WfA n x) → WfA n (.fn f cs)
  | agg (cs : List AV) : (∀ (j : Nat) (x : AV), cs[j]? = some x → WfA n x) → WfA n (.agg cs)
  | tup (cs : List AV) : (∀ (j : Nat) (x : AV), cs[j]? = some x → WfA n x) → WfA n (.tup cs)

theorem wf_of_rv {n : Nat} {L : Nat → Prop} {x : AV} {v : Value} (h : Rv φ n L w x v) : WfA n x := by
  have get : ∀ {xs : List AV} {vs : List Value} {j : Nat} {x : AV}, xs.length = vs.length → xs[j]? = some x → ∃ v, vs[j]? = some v := fun {xs vs j x} hl hx =>
    ⟨vs[j]'(by rw [← hl]; exact (List.getElem?_eq_some_iff.1 hx).1), List.getElem?_eq_getElem _⟩
  induction h with
  | lit v => exact .lit v
  | nils => exact .nils
  | imm0 A c hc => exact .imm 0 [] (fun j x h => by simp at h)
  | imm m cs ad c vs h1 _ h3 h4 h5 h6 ih => exact .imm m cs ih
  | arr id off m sz c h1 => exact .arr id off m sz h1
  | ptr id off h1 => exact .ptr id off h1
  | iptr cs ad vs h1 _ h3 h4 ih => exact .iptr cs ih
  | fn f xs vs h1 _ ih => exact .fn f xs fun j x hx => by obtain ⟨v, hv⟩ := get h1 hx; exact ih j x v hx hv
  | agg xs vs h1 _ h3 ih => exact .agg xs fun j x hx => by obtain ⟨v, hv⟩ := get h1 hx; exact ih j x v hx hv
  | tup xs vs h1 _ ih => exact .tup xs fun j x hx => by obtain ⟨v, hv⟩ := get h1 hx; exact ih j x v hx hv

theorem Rv.restrict {n n' : Nat} {L L' : Nat → Prop} {x : AV} {v : Value} (h : Rv φ n' L' w x v) (hL : ∀ b, L b → L' b) (hw : WfA n x) : Rv φ n L w x v := by
  induction h with
  | lit v => exact .lit v
  | nils => exact .nils
  | imm0 A c hc => exact .imm0 A c hc
  | imm m cs ad c vs h1 _ h3 h4 h5 h6 ih => cases hw with | imm _ _ k => exact .imm m cs ad c vs h1 (fun j x hx => ih j x hx (k j x hx)) (fun e => h3 (hL _ e)) h4 h5 h6
  | arr id off m sz c h1 h2 h3 h4 => cases hw with | arr _ _ _ _ k => exact .arr id off m sz c k h2 h3 h4
  | ptr id off h1 => cases hw with | ptr _ _ k => exact .ptr id off k
  | iptr cs ad vs h1 _ h3 h4 ih => cases hw with | iptr _ k => exact .iptr cs ad vs h1 (fun j x hx => ih j x hx (k j x hx)) (fun e => h3 (hL _ e)) h4
  | fn f xs vs h1 _ ih => cases hw with | fn _ _ k => exact .fn f xs vs h1 (fun j x v hx hv => ih j x v hx hv (k j x hx))
  | agg xs vs h1 _ h3 ih => cases hw with | agg _ k => exact .agg xs vs h1 (fun j x v hx hv => ih j x v hx hv (k j x hx)) h3
  | tup xs vs h1 _ ih => cases hw with | tup _ k => exact .tup xs vs h1 (fun j x v hx hv => ih j x v hx hv (k j x hx))

theorem rv_frz {n0 : Nat} {σ' : Mem} {L : Nat → Prop} (hr : RelM φ σ' w) (hL : ∀ b, L b → ∃ id, id < n0 ∧ (σ'.get id).isSome = true ∧ φ id = b) {x y : AV} (h : Frz n0 σ' x y) : ∀ v, RvM φ σ' w x v → Rv φ n0 L w y v := by
  have hL' : ∀ b, L b → Live φ σ' b := fun b hb => by obtain ⟨id, _, h1, h2⟩ := hL b hb; exact ⟨id, h1, h2⟩
  have list : ∀ {cs ys : List AV} {vs : List Value}, cs.length = ys.length → cs.length = vs.length → (∀ (j : Nat) (x y : AV), cs[j]? = some x → ys[j]? = some y → ∀ v, RvM φ σ' w x v → Rv φ n0 L w y v) → (∀ (j : Nat) (x : AV) (v : Value), cs[j]? = some x → vs[j]? = some v → RvM φ σ' w x v) →
      ∀ (j : Nat) (y : AV) (v : Value), ys[j]? = some y → vs[j]? = some v → Rv φ n0 L w y v := by
    intro cs ys vs h1 h2 h3 h4 j y v hy hv
    have hj : j < cs.length := by rw [h1]; exact (List.getElem?_eq_some_iff.1 hy).1
    exact h3 j _ y (List.getElem?_eq_getElem hj) hy v (h4 j _ v (List.getElem?_eq_getElem hj) hv)
  induction h with
  | lit u => intro v hv; cases hv; exact .lit _
  | nils => intro v hv; cases hv; exact .imm0 none 0 (Nat.zero_le _)
  | nil => intro v hv; cases hv; exact .nils
  | imm n cs ys h1 _ ih =>
    intro v hv
    cases hv with
    | imm0 A c hc =>
      have : ys = [] := List.eq_nil_of_length_eq_zero (by simpa using h1.symm)
      subst this
      exact .imm0 A c hc
    | imm _ _ ad c vs k1 k2 k3 k4 k5 k6 =>
      refine .imm n ys ad c vs (fun j hj => k1 j (by omega)) (fun j y hy => ?_) (fun e => k3 (hL' _ e)) k4 k5 k6
      have hj : j < cs.length := by rw [h1]; exact (List.getElem?_eq_some_iff.1 hy).1
      exact ih j _ y (List.getElem?_eq_getElem hj) hy _ (k2 j _ (List.getElem?_eq_getElem hj))
  | arr id off n sz cs ys h0 h1 h2 _ ih =>
    intro v hv
    cases hv with
    | arr _ _ _ _ c k1 k2 k3 k4 =>
      obtain ⟨cur, g1, g2, g3⟩ := hr.cell id cs h1
      refine .imm n ys ⟨φ id, off, none⟩ c (fun j => cur.getD (off + j) Go.undef) (fun j hj => ?_) (fun j y hy => ?_) (fun hl => ?_) (Array.getElem?_eq_some_iff.1 g1).1 k2 k3
      · have hjc : off + j < cs.length := by omega
        obtain ⟨u, g4, g5, _⟩ := g3 (off + j) _ (List.getElem?_eq_getElem hjc)
        rw [Addr.add_lit, cell_of_row w (φ id) (off + j) cur _ (0, 0) g1]
        simp only [Array.getD_eq_getD_getElem?, g4, Option.getD_some]
        exact ⟨trivial, g5⟩
      · have hjy : j < ys.length := (List.getElem?_eq_some_iff.1 hy).1
        have hjc : off + j < cs.length := by omega
        obtain ⟨u, g4, _, g6⟩ := g3 (off + j) _ (List.getElem?_eq_getElem hjc)
        simp only [Array.getD_eq_getD_getElem?, g4, Option.getD_some]
        exact ih j _ y (by rw [List.getElem?_drop]; exact List.getElem?_eq_getElem hjc) hy u g6
      · obtain ⟨id', q1, q2, q3⟩ := hL _ hl
        have := hr.inj id' id q2 (by simp [h1]) q3
        omega
  | old id off n sz h0 => intro v hv; cases hv with | arr _ _ _ _ c k1 k2 k3 k4 => exact .arr id off n sz c h0 k2 k3 k4
  | optr id off h0 => intro v hv; cases hv with | ptr _ _ k1 => exact .ptr id off h0
  | agg cs ys h1 _ ih =>
    intro v hv
    cases hv with | agg _ vs k1 k2 k3 => exact .agg ys vs (by omega) (list h1 k1 ih k2) k3
  | tup cs ys h1 _ ih =>
    intro v hv
    cases hv with | tup _ vs k1 k2 => exact .tup ys vs (by omega) (list h1 k1 ih k2)

/-- A function that hands back data: whatever memory there is, it stays. -/
def PureA (P : Program) (f : FuncId) (args : List AV) (D : AV) : Prop := ∀ σ, CallA P f args σ fun x σ' => x = D ∧ σ' = σ

theorem CallA.mono {f : FuncId} {args : List AV} {R R' : AV → Mem → Prop} (h : CallA P f args σ R) (hr : ∀ x σ', R x σ' → R' x σ') : CallA P f args σ R' :=
  ⟨h.1, fun φ w vs h1 h2 => (h.2 φ w vs h1 h2).mono fun _ _ ⟨v, x, φ', σ', k1, k2, k3, k4, k5⟩ => ⟨v, x, φ', σ', k1, k2, k3, k4, hr x σ' k5⟩⟩

/-- Objects of the call's own are let go, its result read off as data. -/
theorem callA_frz {f : FuncId} {args : List AV} {D : AV} (h : CallA P f args σ fun x σ' => Frz σ.next σ' x D ∧ ∀ i, i < σ.next → σ'.get i = σ.get i) : CallA P f args σ fun x σ' => x = D ∧ σ' = σ := by
  refine ⟨h.1, fun φ w vs h1 h2 => (h.2 φ w vs h1 h2).mono ?_⟩
  rintro e w' ⟨v, x, φ', σ', rfl, k1, k2, k3, k4, k5⟩
  have some_ : ∀ id, (σ.get id).isSome = true → id < σ.next ∧ (σ'.get id).isSome = true := fun id hid => by
    obtain ⟨cs, hcs⟩ := Option.isSome_iff_exists.1 hid
    have hlt := h1.live id cs hcs
    exact ⟨hlt, by rw [k5 id hlt]; exact hid⟩
  have live_ : ∀ b, Live φ' σ b → Live φ' σ' b := fun b ⟨id, q1, q2⟩ => ⟨id, (some_ id q1).2, q2⟩
  have s : Step φ σ w φ' σ w' := by
    refine ⟨Nat.le_refl _, k3.phi, fun b hb => ?_, k3.size, k3.same, k3.shape, k3.os, k3.tape, k3.output⟩
    obtain ⟨id, q1, q2⟩ := hb
    rw [k3.phi id (some_ id q1).1] at q2
    exact .inl ⟨id, q1, q2⟩
  refine ⟨v, D, φ', σ, rfl, ⟨h1.live, fun id cs hid => ?_, fun i j hi hj he => k1.inj i j (some_ i hi).2 (some_ j hj).2 he⟩, ?_, s, rfl, rfl⟩
  · have hlt := h1.live id cs hid
    obtain ⟨cur0, p1, _, p3⟩ := h1.cell id cs hid
    obtain ⟨cur, q1, q2, q3⟩ := k1.cell id cs (by rw [k5 id hlt]; exact hid)
    obtain ⟨c2, f2, q7, _⟩ := k3.shape _ _ _ _ p1
    have hty : σ'.ty id = σ.ty id := by
      rw [k3.phi id hlt, q7] at q1
      simp only [Option.some.injEq, Obj.cells.injEq] at q1
      exact q1.2.1.symm
    rw [hty] at q1
    refine ⟨cur, q1, q2, fun j x hx => ?_⟩
    obtain ⟨u, q4, q5, q6⟩ := q3 j x hx
    obtain ⟨u0, _, _, p6⟩ := p3 j x hx
    exact ⟨u, q4, q5, q6.restrict live_ (wf_of_rv p6)⟩
  · exact rv_frz (n0 := σ.next) (L := Live φ' σ) k1 (fun b ⟨id, q1, q2⟩ => ⟨id, (some_ id q1).1, (some_ id q1).2, q2⟩) k4 v k2

theorem pureA_of_EW {f : FuncId} {fn : Func} {c : Code} {args : List AV} {D : AV} (hf : P.funcs[f]? = some fn) (hb : fn.body = some c) (hn : (fn.name == "runtime.NumGoroutine") = false)
    (h : ∀ σ, EW P (args.length + (fn.ntmps - args.length)) (fun fr σ' => ∃ x, resA P fn.results.toList fr σ' = some x ∧ Frz σ.next σ' x D ∧ ∀ i, i < σ.next → σ'.get i = σ.get i) [.code c] (initFr args) σ) : PureA P f args D :=
  fun σ => callA_frz (callA_of_EW hf hb hn (h σ))

/-! ### A contract of the kit's, as one of ours -/
theorem pureA_of_calls {f : FuncId} {args : List AV} {D : AV} (hc : Callable P f) (hD : rigidA D = true) (hc1 : ∀ v ∈ (match conc D with | .agg vs => vs.toList | _ => []), v.oneCell' = true)
    (h : ∀ φ σ w vs, RelM φ σ w → RvL φ σ w args vs → Calls P f vs.toArray w fun e w' => e = .returned (conc D) ∧ Below w.heap.size w w') : PureA P f args D := by
  intro σ
  refine ⟨hc, fun φ w vs h1 h2 => (h φ σ w vs h1 h2).mono ?_⟩
  rintro e w' ⟨rfl, hb⟩
  have hcls : Cls w w' := hb
  refine ⟨conc D, D, φ, σ, rfl, h1.cls hcls, ?_, Cls.step hcls, rfl, rfl⟩
  have el : ∀ {y : AV}, (match y with | .lit _ => true | .nils => true | _ => false) = true → RvM φ σ w' y (conc1 y) := by
    intro y hy
    cases y <;> first | (simp at hy; done) | constructor
  have elL : ∀ {xs : List AV}, (xs.all fun | .lit _ => true | .nils => true | _ => false) = true → ∀ (j : Nat) (x : AV) (v : Value), xs[j]? = some x → (xs.map conc1)[j]? = some v → RvM φ σ w' x v := by
    intro xs ha j x v hx hv
    rw [List.getElem?_map, hx] at hv
    simp only [Option.map_some, Option.some.injEq] at hv
    subst hv
    exact el (List.all_eq_true.1 ha x (List.mem_of_getElem? hx))
  cases D <;> first | (simp [rigidA] at hD; done) | skip
  · exact .lit _
  · exact .nils
  · rename_i xs
    exact .agg xs _ (by simp) (elL hD) (by simpa [conc] using hc1)
  · rename_i xs
    exact .tup xs _ (by simp) (elL hD)

/-! ### What a law's call comes to -/
theorem calls_of_law {f : FuncId} {args : List AV} {vs : List Value} {b : Bool} (h : CallA P f args Mem.empty fun x _ => x = .bool b) (hv : RvL (fun _ => 0) Mem.empty w args vs) :
    Calls P f vs.toArray w fun e w' => e = .returned (.bool b) ∧ Below w.heap.size w w' := by
  have hdead : ∀ b, ¬ Live (fun _ => 0) Mem.empty b := fun b ⟨id, h, _⟩ => by simp [Mem.empty] at h
  refine (h.2 (fun _ => 0) w vs ⟨fun id cs h => (by cases h), fun id cs h => (by cases h), fun i j hi _ _ => (by cases hi)⟩ hv).mono ?_
  rintro e w' ⟨v, x, φ', σ', rfl, h1, h2, h3, rfl⟩
  cases h2
  exact ⟨rfl, h3.os, h3.tape, h3.output, h3.size, fun b hb => h3.same b hb (hdead b)⟩
end
end Go.Ew
