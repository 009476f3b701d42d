/-
  The rules as equations, for 'simp': one step of a function's code each. Nothing here is about one program.
-/
import Derived.Test.YtkjikcmjcdlifaaEwG
namespace Go.Ew
open Go Go.RowKit

section
variable {P : Program} {N : Nat} {Q : Fr → Mem → Prop} {k : List Itm} {fr : Fr} {σ : Mem}

/-- A test of a known or unknown outcome. (Data alone stand in it: so that 'simp' does not look behind an open test.) -/
def EWc (x : AV) (P : Program) (N : Nat) (Q : Fr → Mem → Prop) (a b : Code) (k : List Itm) (fr : Fr) (σ : Mem) : Prop := ∃ t, x = .lit (.bool t) ∧ (t = true → EW P N Q (.code a :: k) fr σ) ∧ (t = false → EW P N Q (.code b :: k) fr σ)
theorem EWc_true (a b : Code) : EWc (.lit (.bool true)) P N Q a b k fr σ = EW P N Q (.code a :: k) fr σ := by
  apply propext
  constructor
  · rintro ⟨t, h, h1, _⟩; cases h; exact h1 rfl
  · intro h; exact ⟨true, rfl, fun _ => h, fun h => by cases h⟩
theorem EWc_false (a b : Code) : EWc (.lit (.bool false)) P N Q a b k fr σ = EW P N Q (.code b :: k) fr σ := by
  apply propext
  constructor
  · rintro ⟨t, h, _, h1⟩; cases h; exact h1 rfl
  · intro h; exact ⟨false, rfl, fun h => (by cases h), fun _ => h⟩
theorem EWc_intro {t : Bool} {a b : Code} (h1 : t = true → EW P N Q (.code a :: k) fr σ) (h2 : t = false → EW P N Q (.code b :: k) fr σ) : EWc (.lit (.bool t)) P N Q a b k fr σ := ⟨t, rfl, h1, h2⟩

/-- A guard. -/
def EWg (g : GuardA) (ok : Bool) (P : Program) (N : Nat) (Q : Fr → Mem → Prop) (q : Bool) (o : Oper) (l : List Oper) (all : Array Oper) (k : List Itm) (fr : Fr) (σ : Mem) : Prop :=
  match g with
  | .run => EW P N Q (.run q o l all :: k) fr σ
  | .skip => ok = true ∧ EW P N Q (.ops q l all :: k) (putA fr o.dst .undef) σ
  | .test x b => ok = true ∧ (x = b → EW P N Q (.run q o l all :: k) fr σ) ∧ (x ≠ b → EW P N Q (.ops q l all :: k) (putA fr o.dst .undef) σ)
  | .fail => False
section
variable {q : Bool} {o : Oper} {l : List Oper} {all : Array Oper}
theorem EWg_run (ok : Bool) : EWg .run ok P N Q q o l all k fr σ = EW P N Q (.run q o l all :: k) fr σ := rfl
theorem EWg_skip : EWg .skip true P N Q q o l all k fr σ = EW P N Q (.ops q l all :: k) (putA fr o.dst .undef) σ := by simp [EWg]
theorem EWg_yes : EWg (.test true true) true P N Q q o l all k fr σ = EW P N Q (.run q o l all :: k) fr σ := by simp [EWg]
theorem EWg_no : EWg (.test false false) true P N Q q o l all k fr σ = EW P N Q (.run q o l all :: k) fr σ := by simp [EWg]
theorem EWg_off : EWg (.test true false) true P N Q q o l all k fr σ = EW P N Q (.ops q l all :: k) (putA fr o.dst .undef) σ := by simp [EWg]
theorem EWg_off' : EWg (.test false true) true P N Q q o l all k fr σ = EW P N Q (.ops q l all :: k) (putA fr o.dst .undef) σ := by simp [EWg]
theorem EWg_intro {x : Bool} (h1 : x = true → EW P N Q (.run q o l all :: k) fr σ) (h2 : x = false → EW P N Q (.ops q l all :: k) (putA fr o.dst .undef) σ) : EWg (.test x true) true P N Q q o l all k fr σ := by
  cases x <;> simp_all [EWg]
theorem EWg_intro' {x : Bool} (h1 : x = true → EW P N Q (.ops q l all :: k) (putA fr o.dst .undef) σ) (h2 : x = false → EW P N Q (.run q o l all :: k) fr σ) : EWg (.test x false) true P N Q q o l all k fr σ := by
  cases x <;> simp_all [EWg]
end

/-- A call that is to be met by a contract. -/
def EWcall (P : Program) (N : Nat) (Q : Fr → Mem → Prop) (f : FuncId) (args : List AV) (dst : Option Tmp) (l : List Oper) (all : Array Oper) (k : List Itm) (fr : Fr) (σ : Mem) : Prop :=
  ∃ R, CallA P f args σ R ∧ ∀ x σ', R x σ' → EW P N Q (.ops false l all :: k) (putA fr dst x) σ'
/-- A call in a region that draws its order. -/
def EWqcall (P : Program) (N : Nat) (Q : Fr → Mem → Prop) (f : FuncId) (args : List AV) (dst : Option Tmp) (l : List Oper) (all : Array Oper) (k : List Itm) (fr : Fr) (σ : Mem) : Prop :=
  ∃ D, PureA P f args D ∧ rigidA D = true ∧ EW P N Q (.ops true l all :: k) (putA fr dst D) σ
@[congr] theorem EWcall_congr {f f' : FuncId} {args args' : List AV} {dst : Option Tmp} {l : List Oper} {all : Array Oper} {fr' : Fr} {σ' : Mem} (h0 : f = f') (h1 : args = args') (h2 : fr = fr') (h3 : σ = σ') :
    EWcall P N Q f args dst l all k fr σ = EWcall P N Q f' args' dst l all k fr' σ' := by rw [h0, h1, h2, h3]
@[congr] theorem EWqcall_congr {f f' : FuncId} {args args' : List AV} {dst : Option Tmp} {l : List Oper} {all : Array Oper} {fr' : Fr} {σ' : Mem} (h0 : f = f') (h1 : args = args') (h2 : fr = fr') (h3 : σ = σ') :
    EWqcall P N Q f args dst l all k fr σ = EWqcall P N Q f' args' dst l all k fr' σ' := by rw [h0, h1, h2, h3]

theorem EWcall_pure {f : FuncId} {args : List AV} {D : AV} {dst : Option Tmp} {l : List Oper} {all : Array Oper} (h : PureA P f args D) (hk : EW P N Q (.ops false l all :: k) (putA fr dst D) σ) : EWcall P N Q f args dst l all k fr σ :=
  ⟨_, h σ, fun x σ' ⟨h1, h2⟩ => by subst h1; subst h2; exact hk⟩
theorem EWcall_of {f : FuncId} {args : List AV} {R : AV → Mem → Prop} {dst : Option Tmp} {l : List Oper} {all : Array Oper} (h : CallA P f args σ R) (hk : ∀ x σ', R x σ' → EW P N Q (.ops false l all :: k) (putA fr dst x) σ') : EWcall P N Q f args dst l all k fr σ := ⟨R, h, hk⟩
theorem EWqcall_pure {f : FuncId} {args : List AV} {D : AV} {dst : Option Tmp} {l : List Oper} {all : Array Oper} (h : PureA P f args D) (hr : rigidA D = true) (hk : EW P N Q (.ops true l all :: k) (putA fr dst D) σ) : EWqcall P N Q f args dst l all k fr σ := ⟨D, h, hr, hk⟩

/-- What stands behind one operation. -/
def EWn (n : NextA) (P : Program) (N : Nat) (Q : Fr → Mem → Prop) (dst : Option Tmp) (ok : Bool) (l : List Oper) (all : Array Oper) (k : List Itm) (fr : Fr) : Mem → Prop := fun σ =>
  match n with
  | .ok x σ' => ok = true ∧ EW P N Q (.ops false l all :: k) (putA fr dst x) σ'
  | .call f args => ok = true ∧ EWcall P N Q f args dst l all k fr σ
  | .fail => False
def EWnq (n : NextA) (P : Program) (N : Nat) (Q : Fr → Mem → Prop) (quiet : Bool) (dst : Option Tmp) (ok : Bool) (l : List Oper) (all : Array Oper) (k : List Itm) (fr : Fr) : Mem → Prop := fun σ =>
  match n with
  | .ok x σ' => ok = true ∧ quiet = true ∧ EW P N Q (.ops true l all :: k) (putA fr dst x) σ'
  | .call f args => ok = true ∧ EWqcall P N Q f args dst l all k fr σ
  | .fail => False
@[congr] theorem EWn_congr {n n' : NextA} {dst : Option Tmp} {ok ok' : Bool} {l : List Oper} {all : Array Oper} {fr' : Fr} {σ' : Mem} (h0 : n = n') (h1 : ok = ok') (h2 : fr = fr') (h3 : σ = σ') :
    EWn n P N Q dst ok l all k fr σ = EWn n' P N Q dst ok' l all k fr' σ' := by rw [h0, h1, h2, h3]
@[congr] theorem EWnq_congr {n n' : NextA} {qu qu' : Bool} {dst : Option Tmp} {ok ok' : Bool} {l : List Oper} {all : Array Oper} {fr' : Fr} {σ' : Mem} (h0 : n = n') (hq : qu = qu') (h1 : ok = ok') (h2 : fr = fr') (h3 : σ = σ') :
    EWnq n P N Q qu dst ok l all k fr σ = EWnq n' P N Q qu' dst ok' l all k fr' σ' := by rw [h0, hq, h1, h2, h3]
theorem EWn_ok (x : AV) (σ' : Mem) (dst : Option Tmp) (l : List Oper) (all : Array Oper) : EWn (.ok x σ') P N Q dst true l all k fr σ = EW P N Q (.ops false l all :: k) (putA fr dst x) σ' := by simp [EWn]
theorem EWn_call (f : FuncId) (args : List AV) (dst : Option Tmp) (l : List Oper) (all : Array Oper) : EWn (.call f args) P N Q dst true l all k fr σ = EWcall P N Q f args dst l all k fr σ := by simp [EWn]
theorem EWnq_ok (x : AV) (σ' : Mem) (dst : Option Tmp) (l : List Oper) (all : Array Oper) : EWnq (.ok x σ') P N Q true dst true l all k fr σ = EW P N Q (.ops true l all :: k) (putA fr dst x) σ' := by simp [EWnq]
theorem EWnq_call (f : FuncId) (args : List AV) (qu : Bool) (dst : Option Tmp) (l : List Oper) (all : Array Oper) : EWnq (.call f args) P N Q qu dst true l all k fr σ = EWqcall P N Q f args dst l all k fr σ := by simp [EWnq]

@[congr] theorem EW_congr {fr' : Fr} {σ' : Mem} (h2 : fr = fr') (h3 : σ = σ') : EW P N Q k fr σ = EW P N Q k fr' σ' := by rw [h2, h3]

theorem EW_nil : EW P N Q [] fr σ = Q fr σ := propext ⟨fun h => by cases h; assumption, .nil⟩
theorem EW_goal (K : Fr → Mem → Prop) : EW P N Q (.goal K :: k) fr σ = K fr σ := propext ⟨fun h => by cases h; assumption, .goal⟩
theorem EW_blk (id : Nat) : EW P N Q (.blk id :: k) fr σ = EW P N Q k fr σ := propext ⟨fun h => by cases h; assumption, .blk⟩
theorem EW_skip : EW P N Q (.code .skip :: k) fr σ = EW P N Q k fr σ := propext ⟨fun h => by cases h; assumption, .skip⟩
theorem EW_seq (a b : Code) : EW P N Q (.code (.seq a b) :: k) fr σ = EW P N Q (.code a :: .code b :: k) fr σ := propext ⟨fun h => by cases h; assumption, .seq⟩
theorem EW_cond (c : Operand) (a b : Code) : EW P N Q (.code (.cond c a b) :: k) fr σ = EWc (evalA fr c) P N Q a b k fr σ :=
  propext ⟨fun h => by cases h with | cond t h1 h2 h3 => exact ⟨t, h1, h2, h3⟩, fun ⟨t, h1, h2, h3⟩ => .cond t h1 h2 h3⟩
theorem EW_block (id : Nat) (c : Code) : EW P N Q (.code (.block id c) :: k) fr σ = EW P N Q (.code c :: .blk id :: k) fr σ := propext ⟨fun h => by cases h; assumption, .block⟩
theorem EW_ret : EW P N Q (.code .ret :: k) fr σ = Q fr σ := propext ⟨fun h => by cases h; assumption, .ret⟩
def EWx (k' : Option (List Itm)) (P : Program) (N : Nat) (Q : Fr → Mem → Prop) (fr : Fr) : Mem → Prop := fun σ => match k' with | some k' => EW P N Q k' fr σ | none => False
@[congr] theorem EWx_congr {k1 k2 : Option (List Itm)} (h : k1 = k2) : EWx k1 P N Q fr σ = EWx k2 P N Q fr σ := by rw [h]
theorem EWx_some (k' : List Itm) : EWx (some k') P N Q fr σ = EW P N Q k' fr σ := rfl
theorem EW_exit (id : Nat) : EW P N Q (.code (.exit id) :: k) fr σ = EWx (dropTo id k) P N Q fr σ := by
  apply propext
  constructor
  · intro h; cases h with | exit h1 h2 => rw [h1]; exact h2
  · intro h
    cases hd : dropTo id k with
    | none => rw [hd] at h; exact h.elim
    | some k' => rw [hd] at h; exact .exit hd h
theorem EW_region (id : Nat) (l : List Oper) : EW P N Q (.code (.region id l.toArray false) :: k) fr σ = EW P N Q (.ops false l l.toArray :: k) fr σ :=
  propext ⟨fun h => by cases h with | region h => simpa using h, fun h => .region (by simpa using h)⟩
theorem EW_regionD {id : Nat} {l : List Oper} (h1 : P.follows .mixedOrders = true) (h2 : Region.lexB .any l.toArray = true) (h : EW P N Q (.ops true l l.toArray :: k) fr σ) : EW P N Q (.code (.region id l.toArray true) :: k) fr σ := .regionD h1 h2 (by simpa using h)
theorem EW_opsNil (q : Bool) (all : Array Oper) : EW P N Q (.ops q [] all :: k) fr σ = EW P N Q k fr σ := propext ⟨fun h => by cases h; assumption, .opsNil⟩
theorem EW_ops (q : Bool) (o : Oper) (l : List Oper) (all : Array Oper) :
    EW P N Q (.ops q (o :: l) all :: k) fr σ = EWg (guardA all o fr) (dstOk N o.dst) P N Q q o l all k fr σ := by
  apply propext
  constructor
  · intro h
    cases h with
    | opsRun h1 h2 => rw [h1]; exact h2
    | opsSkip h1 h2 h3 => rw [h1]; exact ⟨h2, h3⟩
    | opsTest x b h1 h2 h3 h4 => rw [h1]; exact ⟨h2, h3, h4⟩
  · intro h
    cases hg : guardA all o fr with
    | run => rw [hg] at h; exact .opsRun hg h
    | skip => rw [hg] at h; exact .opsSkip hg h.1 h.2
    | test x b => rw [hg] at h; exact .opsTest x b hg h.1 h.2.1 h.2.2
    | fail => rw [hg] at h; exact h.elim
theorem EW_run (o : Oper) (l : List Oper) (all : Array Oper) : EW P N Q (.run false o l all :: k) fr σ = EWn (evOp P o.op (evalA fr) σ) P N Q o.dst (dstOk N o.dst) l all k fr σ := by
  apply propext
  constructor
  · intro h
    cases h with
    | op x σ' h1 h2 h3 h4 => rw [h1]; exact ⟨h2, h4⟩
    | call f args R h1 h2 h3 h4 => rw [h1]; exact ⟨h2, R, h3, h4⟩
  · intro h
    cases he : evOp P o.op (evalA fr) σ with
    | ok x σ' => rw [he] at h; exact .op x σ' he h.1 (fun h => by cases h) h.2
    | call f args => rw [he] at h; obtain ⟨h1, R, h2, h3⟩ := h; exact .call f args R he h1 h2 h3
    | fail => rw [he] at h; exact h.elim
theorem EW_runq (o : Oper) (l : List Oper) (all : Array Oper) : EW P N Q (.run true o l all :: k) fr σ = EWnq (evOp P o.op (evalA fr) σ) P N Q (quietOp o.op) o.dst (dstOk N o.dst) l all k fr σ := by
  apply propext
  constructor
  · intro h
    cases h with
    | op x σ' h1 h2 h3 h4 => rw [h1]; exact ⟨h2, h3 rfl, h4⟩
    | qcall f args D h1 h2 h3 h4 h5 => rw [h1]; exact ⟨h2, D, h3, h4, h5⟩
  · intro h
    cases he : evOp P o.op (evalA fr) σ with
    | ok x σ' => rw [he] at h; exact .op x σ' he h.1 (fun _ => h.2.1) h.2.2
    | call f args => rw [he] at h; obtain ⟨h1, D, h2, h3, h4⟩ := h; exact .qcall f args D he h1 h2 h3 h4
    | fail => rw [he] at h; exact h.elim

/-- A LOOP: a relation that holds at each head, with a number that each round lowers. -/
theorem EW_loop {c : Code} (I : Nat → Fr → Mem → Prop) (n : Nat) (h0 : I n fr σ) (h : ∀ n fr σ, I n fr σ → EW P N Q (.code c :: .goal (fun fr' σ' => ∃ m, m < n ∧ I m fr' σ') :: k) fr σ) : EW P N Q (.code (.loop c) :: k) fr σ := .loop I n h0 h

/-! ### Registers, memory -/
theorem upd_same (f : Fr) (i : Nat) (x : AV) : upd f i x i = x := by simp [upd]
theorem upd_ne (f : Fr) (i j : Nat) (x : AV) (h : j ≠ i) : upd f i x j = f j := by simp [upd, h]
theorem putA_some (f : Fr) (d : Nat) (x : AV) : putA f (some d) x = upd f d x := rfl
theorem putA_none (f : Fr) (x : AV) : putA f none x = f := rfl
theorem dstOk_some (d : Nat) : dstOk N (some d) = decide (d < N) := rfl
theorem dstOk_none : dstOk N none = true := rfl
theorem evalA_tmp (t : Nat) : evalA fr (.tmp t) = fr t := rfl
theorem evalA_func (f : FuncId) : evalA fr (.func f) = .fn f [] := rfl
theorem evalA_int (kd : IntKind) (n : Int) : evalA fr (.const (.int kd n)) = .lit (.int kd n) := rfl
theorem evalA_bool (b : Bool) : evalA fr (.const (.bool b)) = .lit (.bool b) := rfl
theorem evalA_string (s : ByteArray) : evalA fr (.const (.string s)) = .lit (.string s) := rfl
theorem evalA_nils : evalA fr (.const (.slice none 0 0)) = .nils := rfl
theorem evalA_ptr (a : Option Addr) : evalA fr (.const (.pointer a)) = .lit (.pointer a) := rfl
theorem evalA_const (v : Value) : evalA fr (.const v) = constA v := rfl
theorem initFr_eq (args : List AV) (i : Nat) : initFr args i = args.getD i .undef := rfl
theorem get_alloc_same (e : TypeId) (cs : List AV) : (σ.alloc e cs).get σ.next = some cs := by simp [Mem.alloc]
theorem get_alloc (e : TypeId) (cs : List AV) (i : Nat) : (σ.alloc e cs).get i = if i = σ.next then some cs else σ.get i := rfl
theorem get_set (id : Nat) (cs : List AV) (i : Nat) : (σ.set id cs).get i = if i = id then some cs else σ.get i := rfl
theorem get_kill (id : Nat) (i : Nat) : (σ.kill id).get i = if i = id then none else σ.get i := rfl
theorem ty_alloc_same (e : TypeId) (cs : List AV) : (σ.alloc e cs).ty σ.next = e := by simp [Mem.alloc]
theorem ty_alloc (e : TypeId) (cs : List AV) (i : Nat) : (σ.alloc e cs).ty i = if i = σ.next then e else σ.ty i := rfl
theorem ty_set (id : Nat) (cs : List AV) (i : Nat) : (σ.set id cs).ty i = σ.ty i := rfl
theorem ty_kill (id : Nat) (i : Nat) : (σ.kill id).ty i = σ.ty i := rfl
theorem next_alloc (e : TypeId) (cs : List AV) : (σ.alloc e cs).next = σ.next + 1 := rfl
theorem next_set (id : Nat) (cs : List AV) : (σ.set id cs).next = σ.next := rfl
theorem next_kill (id : Nat) : (σ.kill id).next = σ.next := rfl

/-! ### Guards -/
theorem guardA_none (all : Array Oper) (d : Option Tmp) (op : Op) (t : TypeId) (p : String) (af : Array Edge) : guardA all ⟨d, op, t, p, af, none⟩ fr = .run := rfl
def guardT (t : Option Nat) (b : Bool) (fr : Fr) : GuardA :=
  match t with
  | none => .skip
  | some t => match fr t with
    | .lit (.bool x) => .test x b
    | .tup [] => .skip
    | _ => .fail
theorem guardA_some (l : List Oper) (d : Option Tmp) (op : Op) (t : TypeId) (p : String) (af : Array Edge) (j : Nat) (b : Bool) : guardA l.toArray ⟨d, op, t, p, af, some (j, b)⟩ fr = guardT ((l[j]?).bind (·.dst)) b fr := by
  unfold guardA guardT
  simp only [List.getElem?_toArray]
  cases (l[j]?).bind (·.dst) <;> rfl
def guardV (x : AV) (b : Bool) : GuardA :=
  match x with
  | .lit (.bool x) => .test x b
  | .tup [] => .skip
  | _ => .fail
theorem guardT_some (t : Nat) (b : Bool) : guardT (some t) b fr = guardV (fr t) b := rfl
theorem guardV_bool (x b : Bool) : guardV (.lit (.bool x)) b = .test x b := rfl
theorem guardV_undef (b : Bool) : guardV (.tup []) b = .skip := rfl

theorem dropTo_blk (id id' : Nat) : dropTo id (.blk id' :: k) = if id' = id then some k else dropTo id k := rfl
theorem dropTo_code (id : Nat) (c : Code) : dropTo id (.code c :: k) = dropTo id k := rfl
theorem dropTo_goal (id : Nat) (K : Fr → Mem → Prop) : dropTo id (.goal K :: k) = dropTo id k := rfl

theorem val_some (x : AV) : NextA.val σ (some x) = .ok x σ := rfl
end
attribute [go_sem] EWc_true EWc_false EWg_run EWg_skip EWg_yes EWg_no EWg_off EWg_off' EWn_ok EWn_call EWnq_ok EWnq_call EW_nil EW_goal EW_blk EW_skip EW_seq EW_cond EW_block EW_ret EWx_some EW_exit EW_region EW_opsNil EW_ops EW_run EW_runq upd_same upd_ne putA_some putA_none dstOk_some dstOk_none evalA_tmp evalA_func evalA_int evalA_bool evalA_string evalA_nils evalA_ptr initFr_eq get_alloc_same ty_alloc_same ty_set ty_kill next_alloc next_set next_kill guardA_none guardA_some guardT_some guardV_bool guardV_undef dropTo_blk dropTo_code dropTo_goal val_some evOp
end Go.Ew
