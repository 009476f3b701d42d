/-
  The rules are sound: what 'EW' says of a function's code, the model's calls do. Nothing here is about one program.
-/
import Derived.Test.YtkjikcmjcdlifaaEwE
namespace Go.Ew
open Go Go.RowKit

section
variable {P : Program} {φ : Nat → Nat} {σ : Mem} {w : World}

/-- A state of the model that stands for one of ours in which K holds. -/
def St (φ0 : Nat → Nat) (σ0 : Mem) (w0 : World) (N : Nat) (K : Fr → Mem → Prop) (a : Act) (w : World) : Prop :=
  ∃ φ σ fr, RelM φ σ w ∧ RelF φ σ w fr a.tmps ∧ a.defers = [] ∧ a.tmps.size = N ∧ Step φ0 σ0 w0 φ σ w ∧ K fr σ

/-- What the model owes where our stack is to be done. -/
def LK (P : Program) (φ0 : Nat → Nat) (σ0 : Mem) (w0 : World) (N : Nat) (Q : Fr → Mem → Prop) : List Itm → Exit → Act → World → Prop
  | [], e, a, w => match e with
    | .normal => St φ0 σ0 w0 N Q a w
    | .ret => St φ0 σ0 w0 N Q a w
    | _ => False
  | .code c :: k, e, a, w => match e with
    | .normal => c.wp P (LK P φ0 σ0 w0 N Q k) a w
    | e => LK P φ0 σ0 w0 N Q k e a w
  | .blk id :: k, e, a, w => match e with
    | .exit id' => if id' = id then LK P φ0 σ0 w0 N Q k .normal a w else LK P φ0 σ0 w0 N Q k (.exit id') a w
    | e => LK P φ0 σ0 w0 N Q k e a w
  | .goal K :: k, e, a, w => match e with
    | .normal => St φ0 σ0 w0 N K a w
    | e => LK P φ0 σ0 w0 N Q k e a w
  | .ops q l all :: k, e, a, w => match e with
    | .normal => if q then wpQuiet P all (Cls w) (fun a' => ∀ w', Cls w w' → LK P φ0 σ0 w0 N Q k .normal a' w') l a else wpList P all (LK P φ0 σ0 w0 N Q k) l a w
    | e => LK P φ0 σ0 w0 N Q k e a w
  | .run q o l all :: k, e, a, w => match e with
    | .normal => if q then o.quiet P a (Cls w) (wpQuiet P all (Cls w) (fun a' => ∀ w', Cls w w' → LK P φ0 σ0 w0 N Q k .normal a' w') l) else o.wp P a w (wpList P all (LK P φ0 σ0 w0 N Q k) l) (LK P φ0 σ0 w0 N Q k)
    | e => LK P φ0 σ0 w0 N Q k e a w

variable {φ0 : Nat → Nat} {σ0 : Mem} {w0 : World} {N : Nat} {Q : Fr → Mem → Prop}

theorem LK_ret : ∀ (k : List Itm) (a : Act) (w : World), St φ0 σ0 w0 N Q a w → LK P φ0 σ0 w0 N Q k .ret a w
  | [], _, _, h => h
  | .code _ :: k, a, w, h => LK_ret k a w h
  | .blk _ :: k, a, w, h => LK_ret k a w h
  | .goal _ :: k, a, w, h => LK_ret k a w h
  | .ops _ _ _ :: k, a, w, h => LK_ret k a w h
  | .run _ _ _ _ :: k, a, w, h => LK_ret k a w h

theorem LK_exit {id : Nat} : ∀ (k k' : List Itm) (a : Act) (w : World), dropTo id k = some k' → LK P φ0 σ0 w0 N Q k' .normal a w → LK P φ0 σ0 w0 N Q k (.exit id) a w
  | [], k', a, w, hd, h => by simp [dropTo] at hd
  | .blk id' :: k, k', a, w, hd, h => by
    simp only [dropTo] at hd
    simp only [LK]
    by_cases hid : id' = id
    · subst hid
      simp only [if_true, Option.some.injEq] at hd ⊢
      subst hd; exact h
    · simp only [hid, if_false] at hd
      rw [if_neg (fun e => hid e.symm)]
      exact LK_exit k k' a w hd h
  | .code _ :: k, k', a, w, hd, h => LK_exit k k' a w (by simpa [dropTo] using hd) h
  | .goal _ :: k, k', a, w, hd, h => LK_exit k k' a w (by simpa [dropTo] using hd) h
  | .ops _ _ _ :: k, k', a, w, hd, h => LK_exit k k' a w (by simpa [dropTo] using hd) h
  | .run _ _ _ _ :: k, k', a, w, hd, h => LK_exit k k' a w (by simpa [dropTo] using hd) h

theorem LK_code (c : Code) (k : List Itm) : LK P φ0 σ0 w0 N Q (.code c :: k) = Exit.then (c.wp P (LK P φ0 σ0 w0 N Q k)) (LK P φ0 σ0 w0 N Q k) := by
  funext e a w; cases e <;> rfl
theorem LK_blk (id : Nat) (k : List Itm) : LK P φ0 σ0 w0 N Q (.blk id :: k) = Exit.inBlock id (LK P φ0 σ0 w0 N Q k) := by
  funext e a w; cases e <;> rfl
theorem LK_goal (K : Fr → Mem → Prop) (k : List Itm) : LK P φ0 σ0 w0 N Q (.goal K :: k) = Exit.then (St φ0 σ0 w0 N K) (LK P φ0 σ0 w0 N Q k) := by
  funext e a w; cases e <;> rfl

/-- A loop by a number of one's own that each round lowers. -/
theorem wp_loop_ghost {c : Code} {Q : Exit → Act → World → Prop} {a : Act} {w : World} (I : Nat → Act → World → Prop) (n : Nat) (h₀ : I n a w)
    (round : ∀ n a w, I n a w → c.wp P (Exit.then (fun a' w' => ∃ m, m < n ∧ I m a' w') Q) a w) : (Code.loop c).wp P Q a w := by
  intro b k cs
  have key : ∀ n a w, I n a w → ∃ e a' w', Q e a' w' ∧ Arrives P (lone (b.at a (.code c :: .inLoop c :: k)) cs w) b k cs e a' w' := by
    intro n
    induction n using Nat.strongRecOn with
    | _ n ih =>
      intro a w hI
      obtain ⟨e, a₁, w₁, hq, harr⟩ := round n a w hI b (.inLoop c :: k) cs
      cases e with
      | normal =>
        obtain ⟨m, hlt, hI₁⟩ := hq
        obtain ⟨e₂, a₂, w₂, hq₂, harr₂⟩ := ih m hlt a₁ w₁ hI₁
        exact ⟨e₂, a₂, w₂, hq₂, .of_steps (Steps.trans harr (.one step_inLoop)) harr₂⟩
      | exit id => exact ⟨_, a₁, w₁, hq, .pass (x := .inLoop c) rfl (fun _ _ => .inl (by simp)) harr⟩
      | goto l => exact ⟨_, a₁, w₁, hq, .pass (x := .inLoop c) rfl (fun _ _ => .inl (by simp)) harr⟩
      | ret => exact ⟨_, a₁, w₁, hq, .pass (x := .inLoop c) rfl (fun _ _ => .inl (by simp)) harr⟩
      | panic ch => exact ⟨_, a₁, w₁, hq, .pass (x := .inLoop c) rfl (fun _ _ => .inl (by simp)) harr⟩
      | outgrown => exact ⟨_, a₁, w₁, hq, .pass (x := .inLoop c) rfl (fun _ _ => .inl (by simp)) harr⟩
  obtain ⟨e, a', w', hq, harr⟩ := key n a w h₀
  exact ⟨e, a', w', hq, .of_steps (.one step_loop) harr⟩

/-! ### Guards -/
theorem guard_run {all : Array Oper} {o : Oper} {fr : Fr} {t : Array Value} (h : guardA all o fr = .run) : Region.wanted o (yielded all t) = true := by
  unfold guardA at h
  unfold Region.wanted
  split at h
  · rename_i hg; simp [hg]
  · split at h
    · cases h
    · split at h <;> cases h

theorem guard_spec {all : Array Oper} {o : Oper} {fr : Fr} {t : Array Value} (hf : RelF φ σ w fr t) :
    (guardA all o fr = .skip → Region.wanted o (yielded all t) = false) ∧ ∀ x b, guardA all o fr = .test x b → Region.wanted o (yielded all t) = (x == b) := by
  unfold guardA Region.wanted yielded
  cases hg : o.guard with
  | none => exact ⟨fun h => (by cases h), fun x b h => (by cases h)⟩
  | some jb =>
    obtain ⟨j, b⟩ := jb
    simp only
    cases hd : (all[j]?).bind (·.dst) with
    | none => exact ⟨fun _ => (by simp), fun x b h => (by cases h)⟩
    | some d =>
      have hv := hf d
      simp only [Option.bind_some]
      rw [Array.getD_eq_getD_getElem?] at hv
      constructor
      · intro h
        split at h
        · cases h
        · rename_i e
          rw [e] at hv
          cases ht : t[d]? with
          | none => simp
          | some v =>
            rw [ht] at hv
            simp only [Option.getD_some] at hv
            cases hv
            simp
        · cases h
      · intro x b' h
        split at h
        · rename_i y e
          cases h
          rw [e] at hv
          cases ht : t[d]? with
          | none => rw [ht] at hv; simp only [Option.getD_none] at hv; cases hv
          | some v =>
            rw [ht] at hv
            simp only [Option.getD_some] at hv
            cases hv
            cases x <;> cases b <;> rfl
        · cases h
        · cases h

/-! ### Calls -/
theorem val_nc {q : Option AV} {f : FuncId} {args : List AV} : NextA.val σ q ≠ .call f args := by cases q <;> simp [NextA.val]
theorem append_nc {t : TypeId} {s x : AV} {f : FuncId} {args : List AV} : appendA P σ t s x ≠ .call f args := by
  unfold appendA; (repeat' split) <;> simp
theorem appendStr_nc {t u : TypeId} {s x : AV} {f : FuncId} {args : List AV} : appendStrA P σ t u s x ≠ .call f args := by
  unfold appendStrA; (repeat' split) <;> simp
theorem buildSlice_nc {t : TypeId} {n : Nat} {ps : List (Nat × AV)} {f : FuncId} {args : List AV} : buildSliceA P σ t n ps ≠ .call f args := by
  unfold buildSliceA; (repeat' split) <;> simp
theorem makeSlice_nc {t : TypeId} {l c : AV} {f : FuncId} {args : List AV} : makeSliceA P σ t l c ≠ .call f args := by
  unfold makeSliceA; (repeat' split) <;> simp
theorem store_nc {t : TypeId} {x y : AV} {f : FuncId} {args : List AV} : storeA P σ t x y ≠ .call f args := by
  unfold storeA; (repeat' split) <;> simp

theorem evOp_is_call {op : Op} {ρ : Operand → AV} {f : FuncId} {args : List AV} (h : evOp P op ρ σ = .call f args) :
    ∃ g cargs ats caps, op = .call ⟨.value g, cargs, ats⟩ ∧ ρ g = .fn f caps ∧ args = cargs.toList.map ρ ++ caps := by
  unfold evOp at h
  split at h <;> first | exact absurd h val_nc | exact absurd h buildSlice_nc | exact absurd h makeSlice_nc | exact absurd h store_nc | (cases h; done) | skip
  all_goals first
    | (split at h <;> cases h; done)
    | skip
  rename_i c
  obtain ⟨callee, cargs, ats⟩ := c
  cases callee with
  | value g =>
    simp only at h
    split at h <;> first | (cases h; done) | skip
    rename_i g' caps he
    cases h
    exact ⟨g, cargs, ats, caps, rfl, he, rfl⟩
  | invoke r m => cases h
  | builtin b =>
    cases b <;> first | (cases h; done) | skip
    all_goals
      simp only at h
      split at h <;> first | exact absurd h val_nc | (cases h; done) | skip
    split at h <;> first | exact absurd h append_nc | exact absurd h appendStr_nc | (cases h; done)

theorem evOp_call {o : Oper} {fr : Fr} {a : Act} {f : FuncId} {args : List AV} (hf : RelF φ σ w fr a.tmps) (h : evOp P o.op (evalA fr) σ = .call f args) (hc : Callable P f) :
    ∃ vs : List Value, RvL φ σ w args vs ∧ ∀ w', (execOp a.eval o).run P w' = .ok (.enter f vs.toArray) w' := by
  obtain ⟨dst, op, type, pos, after, guard⟩ := o
  obtain ⟨g, ⟨cargs⟩, ats, caps, rfl, he, rfl⟩ := evOp_is_call h
  have hg := rv_eval hf g
  rw [he] at hg
  cases hv : a.eval g <;> rw [hv] at hg <;> cases hg
  rename_i us hl hu
  have ha := rv_evals hf cargs
  refine ⟨cargs.map a.eval ++ us, ⟨by simp [hl], fun j x v hx hv => ?_⟩, fun w' => ?_⟩
  · by_cases hj : j < cargs.length
    · rw [List.getElem?_append_left (by simpa using hj)] at hx hv
      exact ha.2 j x v hx hv
    · rw [List.getElem?_append_right (by simpa using hj)] at hx hv
      simp only [List.length_map] at hx hv
      exact hu _ x v hx hv
  · obtain ⟨fn, h1, h2, h3⟩ := hc
    have h4 : ¬ fn.body = none := fun e => by rw [e] at h2; cases h2
    have h5 : ¬ fn.name = "runtime.NumGoroutine" := by simpa using h3
    simp [execOp, resolve, hv, Deferred.ofValue, invoke, callFunc, h1, h4, h5]

/-! ### Values that determine the model's -/
def conc1 : AV → Value
  | .lit v => v
  | _ => .slice none 0 0
def conc : AV → Value
  | .agg xs => .agg (xs.map conc1).toArray
  | .tup xs => .tuple (xs.map conc1).toArray
  | x => conc1 x

theorem rigid1 {n : Nat} {L : Nat → Prop} {xs : List AV} (h : (xs.all fun | .lit _ => true | .nils => true | _ => false) = true) {vs : List Value} (hl : xs.length = vs.length) (hv : ∀ (j : Nat) (x : AV) (v : Value), xs[j]? = some x → vs[j]? = some v → Rv φ n L w x v) : vs = xs.map conc1 := by
  apply List.ext_getElem?
  intro j
  rw [List.getElem?_map]
  cases hx : xs[j]? with
  | none =>
    have := List.getElem?_eq_none_iff.1 hx
    rw [List.getElem?_eq_none (by omega)]; rfl
  | some x =>
    have hj : j < vs.length := by rw [← hl]; exact (List.getElem?_eq_some_iff.1 hx).1
    have hr := hv j x _ hx (List.getElem?_eq_getElem hj)
    rw [List.getElem?_eq_getElem hj]
    have hm := List.all_eq_true.1 h x (List.mem_of_getElem? hx)
    simp only [Option.map_some, Option.some.injEq]
    generalize vs[j] = u at hr
    cases x <;> first | (simp at hm; done) | skip
    · cases hr; rfl
    · cases hr; rfl

theorem rigid_conc {n : Nat} {L : Nat → Prop} {x : AV} {v : Value} (h : rigidA x = true) (hv : Rv φ n L w x v) : v = conc x := by
  cases hv <;> first | (simp [rigidA] at h; done) | rfl | skip
  · rename_i xs vs h1 h2 h3
    rw [rigid1 h h1 h2]; rfl
  · rename_i xs vs h1 h2
    rw [rigid1 h h1 h2]; rfl

theorem rigid_any {n n' : Nat} {L L' : Nat → Prop} {φ' : Nat → Nat} {w' : World} {x : AV} {v : Value} (h : rigidA x = true) (hv : Rv φ n L w x v) : Rv φ' n' L' w' x v := by
  have el : ∀ {y : AV} {u : Value}, (match y with | .lit _ => true | .nils => true | _ => false) = true → Rv φ n L w y u → Rv φ' n' L' w' y u := by
    intro y u hy hu
    cases y <;> first | (simp at hy; done) | (cases hu; constructor)
  cases hv <;> first | (simp [rigidA] at h; done) | (constructor; done) | skip
  · rename_i xs vs h1 h2 h3
    exact .agg xs vs h1 (fun j x v hx hv => el (List.all_eq_true.1 h x (List.mem_of_getElem? hx)) (h2 j x v hx hv)) h3
  · rename_i xs vs h1 h2
    exact .tup xs vs h1 (fun j x v hx hv => el (List.all_eq_true.1 h x (List.mem_of_getElem? hx)) (h2 j x v hx hv))

/-! ### SOUNDNESS -/
theorem sound {k : List Itm} {fr : Fr} (h : EW P N Q k fr σ) : ∀ (φ : Nat → Nat) (w : World) (a : Act), RelM φ σ w → RelF φ σ w fr a.tmps → a.defers = [] → a.tmps.size = N → Step φ0 σ0 w0 φ σ w → LK P φ0 σ0 w0 N Q k .normal a w := by
  induction h with
  | nil hq => exact fun φ w a hr hf hd hn hs => ⟨φ, _, _, hr, hf, hd, hn, hs, hq⟩
  | goal hk => exact fun φ w a hr hf hd hn hs => ⟨φ, _, _, hr, hf, hd, hn, hs, hk⟩
  | blk _ ih => exact fun φ w a hr hf hd hn hs => ih φ w a hr hf hd hn hs
  | skip _ ih => exact fun φ w a hr hf hd hn hs => wp_skip (ih φ w a hr hf hd hn hs)
  | @seq x y k _ _ _ ih =>
    intro φ w a hr hf hd hn hs
    have := ih φ w a hr hf hd hn hs
    simp only [LK] at this ⊢
    refine wp_seq ?_
    rw [← LK_code y k]
    exact this
  | @cond c x y k fr σ t hc _ _ iht ihf =>
    intro φ w a hr hf hd hn hs
    have hv := rv_eval hf c
    rw [hc] at hv
    have hv' : a.eval c = .bool t := by
      cases he : a.eval c <;> rw [he] at hv <;> cases hv
      rfl
    exact wp_cond_split hv' (fun ht => iht ht φ w a hr hf hd hn hs) (fun ht => ihf ht φ w a hr hf hd hn hs)
  | @block id c k fr σ _ ih =>
    intro φ w a hr hf hd hn hs
    have := ih φ w a hr hf hd hn hs
    simp only [LK] at this ⊢
    refine wp_block ?_
    rw [← LK_blk id k]
    exact this
  | @loop c k fr σ I n h0 _ ih =>
    intro φ w a hr hf hd hn hs
    simp only [LK]
    refine wp_loop_ghost (fun n a w => St φ0 σ0 w0 N (I n) a w) n ⟨φ, σ, fr, hr, hf, hd, hn, hs, h0⟩ ?_
    rintro n a w ⟨φ, σ, fr, hr, hf, hd, hn', hs, hI⟩
    have : c.wp P (LK P φ0 σ0 w0 N Q (.goal (fun fr' σ' => ∃ m, m < n ∧ I m fr' σ') :: k)) a w := ih n fr σ hI φ w a hr hf hd hn' hs
    rw [LK_goal] at this
    refine Code.wp_mono (fun e a w he => ?_) this
    cases e with
    | normal =>
      obtain ⟨φ, σ, fr, k1, k2, k3, k4, k5, m, k6, k7⟩ := he
      exact ⟨m, k6, φ, σ, fr, k1, k2, k3, k4, k5, k7⟩
    | _ => exact he
  | exit hd _ ih => exact fun φ w a hr hf hde hn hs => wp_exit (LK_exit _ _ a w hd (ih φ w a hr hf hde hn hs))
  | ret hq => exact fun φ w a hr hf hd hn hs => wp_ret (LK_ret _ a w ⟨φ, _, _, hr, hf, hd, hn, hs, hq⟩)
  | region _ ih =>
    intro φ w a hr hf hd hn hs
    have := ih φ w a hr hf hd hn hs
    exact wp_region_list (by simpa [LK] using this)
  | regionD h1 h2 _ ih =>
    intro φ w a hr hf hd hn hs
    have := ih φ w a hr hf hd hn hs
    exact wp_region_quiet h1 h2 (Cls.drew w) (by simpa [LK] using this)
  | @raw id ops k fr σ K h1 _ ih =>
    intro φ w a hr hf hd hn hs
    refine Code.wp_mono (fun e a' w' he => ?_) (h1 φ w a hr hf hd hn)
    obtain ⟨rfl, φ', σ', fr', k1, k2, k3, k4, k5, k6⟩ := he
    exact ih fr' σ' k6 φ' w' a' k1 k2 k3 k4 (hs.trans k5)
  | @opsNil q all k fr σ _ ih =>
    intro φ w a hr hf hd hn hs
    cases q with
    | false => exact ih φ w a hr hf hd hn hs
    | true =>
      intro w' hw'
      exact ih φ w' a (hr.cls hw') (hf.step (Cls.step hw')) hd hn (hs.trans (Cls.step hw'))
  | @opsRun q o l all k fr σ hg _ ih =>
    intro φ w a hr hf hd hn hs
    have := ih φ w a hr hf hd hn hs
    have hw := guard_run (t := a.tmps) hg
    cases q with
    | false =>
      simp only [LK, Bool.false_eq_true, if_false] at this ⊢
      unfold wpList
      rw [if_pos hw]
      exact .inl this
    | true =>
      simp only [LK, if_true] at this ⊢
      unfold wpQuiet
      rw [if_pos hw]
      exact this
  | @opsSkip q o l all k fr σ hg hdst _ ih =>
    intro φ w a hr hf hd hn hs
    have hf' : RelF φ σ w (putA fr o.dst .undef) (a.put o.dst Go.undef).tmps := hf.put (.tup [] [] rfl (fun j x v h => by simp at h)) (by rw [hn]; exact hdst)
    have := ih φ w (a.put o.dst Go.undef) hr hf' (by cases o.dst <;> exact hd) (by rw [size_put]; exact hn) hs
    have hw := (guard_spec hf).1 hg
    cases q with
    | false =>
      simp only [LK, Bool.false_eq_true, if_false] at this ⊢
      unfold wpList
      rw [if_neg (by simp [hw])]
      exact this
    | true =>
      simp only [LK, if_true] at this ⊢
      unfold wpQuiet
      rw [if_neg (by simp [hw])]
      exact this
  | @opsTest q o l all k fr σ x b hg hdst _ _ ih1 ih2 =>
    intro φ w a hr hf hd hn hs
    have hw := (guard_spec hf).2 x b hg
    by_cases hxb : x = b
    · have := ih1 hxb φ w a hr hf hd hn hs
      have hw' : Region.wanted o (yielded all a.tmps) = true := by rw [hw, hxb]; simp
      cases q with
      | false =>
        simp only [LK, Bool.false_eq_true, if_false] at this ⊢
        unfold wpList
        rw [if_pos hw']
        exact .inl this
      | true =>
        simp only [LK, if_true] at this ⊢
        unfold wpQuiet
        rw [if_pos hw']
        exact this
    · have hf' : RelF φ σ w (putA fr o.dst .undef) (a.put o.dst Go.undef).tmps := hf.put (.tup [] [] rfl (fun j x v h => by simp at h)) (by rw [hn]; exact hdst)
      have := ih2 hxb φ w (a.put o.dst Go.undef) hr hf' (by cases o.dst <;> exact hd) (by rw [size_put]; exact hn) hs
      have hw' : Region.wanted o (yielded all a.tmps) = false := by rw [hw]; simpa using hxb
      cases q with
      | false =>
        simp only [LK, Bool.false_eq_true, if_false] at this ⊢
        unfold wpList
        rw [if_neg (by simp [hw'])]
        exact this
      | true =>
        simp only [LK, if_true] at this ⊢
        unfold wpQuiet
        rw [if_neg (by simp [hw'])]
        exact this
  | @op q o l all k fr σ x σ' he hdst hq _ ih =>
    intro φ w a hr hf hd hn hs
    cases q with
    | false =>
      obtain ⟨n, v, w', φ', h1, h2, h3, h4, h5⟩ := evOp_ok hr hf he
      have hf' : RelF φ' σ' w' (putA fr o.dst x) (a.put o.dst v).tmps := (hf.step h5).put h4 (by rw [hn]; exact hdst)
      have := ih φ' w' (a.put o.dst v) h3 hf' (by cases o.dst <;> exact hd) (by rw [size_put]; exact hn) (hs.trans h5)
      simp only [LK, Bool.false_eq_true, if_false] at this ⊢
      unfold Oper.wp
      rw [h1]
      rcases h2 with rfl | ⟨rfl, rfl⟩
      · rw [Oper.upon_value]; exact this
      · rw [Oper.upon_skip]; exact this
    | true =>
      obtain ⟨rfl, v, h1, h2⟩ := evOp_quiet hr hf (hq rfl) he
      have hf' := hf.put (dst := o.dst) h1 (by rw [hn]; exact hdst)
      have := ih φ w (a.put o.dst v) hr hf' (by cases o.dst <;> exact hd) (by rw [size_put]; exact hn) hs
      simp only [LK, if_true] at this ⊢
      refine ⟨v, fun w' hw' => ?_, this⟩
      unfold Oper.quietAt
      rw [h2 w' hw']
      exact ⟨rfl, rfl⟩
  | @call o l all k fr σ f args R he hdst hc _ ih =>
    intro φ w a hr hf hd hn hs
    obtain ⟨vs, h1, h2⟩ := evOp_call hf he hc.1
    simp only [LK, Bool.false_eq_true, if_false]
    unfold Oper.wp
    rw [h2 w, Oper.upon_enter]
    refine (hc.2 φ w vs hr h1).mono ?_
    rintro e w' ⟨v, x, φ', σ', rfl, h3, h4, h5, h6⟩
    have hf' : RelF φ' σ' w' (putA fr o.dst x) (a.put o.dst v).tmps := (hf.step h5).put h4 (by rw [hn]; exact hdst)
    have := ih x σ' h6 φ' w' (a.put o.dst v) h3 hf' (by cases o.dst <;> exact hd) (by rw [size_put]; exact hn) (hs.trans h5)
    simpa [LK] using this
  | @qcall o l all k fr σ f args D he hdst hc hrg _ ih =>
    intro φ w a hr hf hd hn hs
    obtain ⟨vs, h1, h2⟩ := evOp_call hf he (hc σ).1
    simp only [LK, if_true]
    have hdead : ∀ b, ¬ Live φ ⟨σ.next, σ.ty, fun _ => none⟩ b := fun b ⟨id, h, _⟩ => by simp at h
    have step : ∀ w', Cls w w' → Step φ σ w φ ⟨σ.next, σ.ty, fun _ => none⟩ w' := fun w' hw' =>
      ⟨Nat.le_refl _, fun _ _ => rfl, fun b hb => absurd hb (hdead b), hw'.size, fun b hb _ => hw'.block b hb, fun b cur e fz hb => ⟨cur, fz, by rw [hw'.block b (Array.getElem?_eq_some_iff.1 hb).1]; exact hb, rfl⟩, hw'.os, hw'.tape, hw'.output⟩
    have hr0 : ∀ w', RelM φ ⟨σ.next, σ.ty, fun _ => none⟩ w' := fun w' => ⟨fun id cs h => (by cases h), fun id cs h => (by cases h), fun i j hi _ _ => (by cases hi)⟩
    have call : ∀ w', Cls w w' → Calls P f vs.toArray w' fun e w'' => e = .returned (conc D) ∧ Cls w w'' := by
      intro w' hw'
      refine ((hc ⟨σ.next, σ.ty, fun _ => none⟩).2 φ w' vs (hr0 w') (h1.step (step w' hw'))).mono ?_
      rintro e w'' ⟨v, x, φ', σ'', rfl, h3, h4, h5, rfl, rfl⟩
      refine ⟨by rw [rigid_conc hrg h4], ?_⟩
      have hb : Below w'.heap.size w' w'' := ⟨h5.os, h5.tape, h5.output, h5.size, fun b hb => h5.same b hb (hdead b)⟩
      exact Below.trans hw' (hb.mono hw'.size)
    have hD : RvM φ σ w D (conc D) := by
      obtain ⟨e, w'', fr', ⟨v, x, φ', σ'', rfl, h3, h4, h5, rfl, rfl⟩, _⟩ := (hc ⟨σ.next, σ.ty, fun _ => none⟩).2 φ w vs (hr0 w) (h1.step (step w (Cls.refl w))) []
      rw [← rigid_conc hrg h4]
      exact rigid_any hrg h4
    have hf' : RelF φ σ w (putA fr o.dst D) (a.put o.dst (conc D)).tmps := hf.put hD (by rw [hn]; exact hdst)
    have := ih φ w (a.put o.dst (conc D)) hr hf' (by cases o.dst <;> exact hd) (by rw [size_put]; exact hn) hs
    simp only [LK, if_true] at this
    refine ⟨conc D, fun w' hw' => ?_, this⟩
    unfold Oper.quietAt
    rw [h2 w']
    exact ⟨rfl, call w' hw'⟩
end
end Go.Ew
