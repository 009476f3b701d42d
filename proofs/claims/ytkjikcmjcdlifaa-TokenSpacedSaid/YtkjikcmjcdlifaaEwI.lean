/-
  More equations for 'simp': what each operation comes to; how a function's result is read off. Nothing here is about one program.
-/
import Derived.Test.YtkjikcmjcdlifaaEwH
namespace Go.Ew
open Go Go.RowKit

/-- What was there before is as it was. -/
def Keeps (σ0 σ : Mem) : Prop := ∀ i, i < σ0.next → σ.get i = σ0.get i
section
variable {P : Program} {σ0 σ : Mem}
theorem Keeps.refl (σ : Mem) : Keeps σ σ := fun _ _ => rfl
theorem keeps_self : Keeps σ σ = True := eq_true (Keeps.refl σ)
theorem keeps_alloc (e : TypeId) (cs : List AV) (h : σ0.next ≤ σ.next) : Keeps σ0 (σ.alloc e cs) = Keeps σ0 σ := by
  apply propext
  constructor
  · intro k i hi; have := k i hi; rwa [get_alloc, if_neg (by omega)] at this
  · intro k i hi; rw [get_alloc, if_neg (by omega)]; exact k i hi
theorem keeps_set (id : Nat) (cs : List AV) (h : σ0.next ≤ id) : Keeps σ0 (σ.set id cs) = Keeps σ0 σ := by
  apply propext
  constructor
  · intro k i hi; have := k i hi; rwa [get_set, if_neg (by omega)] at this
  · intro k i hi; rw [get_set, if_neg (by omega)]; exact k i hi
theorem keeps_kill (id : Nat) (h : σ0.next ≤ id) : Keeps σ0 (σ.kill id) = Keeps σ0 σ := by
  apply propext
  constructor
  · intro k i hi; have := k i hi; rwa [get_kill, if_neg (by omega)] at this
  · intro k i hi; rw [get_kill, if_neg (by omega)]; exact k i hi
theorem Keeps.trans {σ1 : Mem} (h : Keeps σ0 σ1) (k : Keeps σ1 σ) (hn : σ0.next ≤ σ1.next) : Keeps σ0 σ := fun i hi => (k i (by omega)).trans (h i hi)

/-- A function's end: its result is the data D, what was there is as it was. -/
def Ends (P : Program) (rs : List ResultVar) (σ0 : Mem) (D : AV) : Fr → Mem → Prop := fun fr σ => ∃ x, resA P rs fr σ = some x ∧ Frz σ0.next σ x D ∧ Keeps σ0 σ
/-- A function's end, in general. -/
def EndsA (P : Program) (rs : List ResultVar) (R : AV → Mem → Prop) : Fr → Mem → Prop := fun fr σ => ∃ x, resA P rs fr σ = some x ∧ R x σ

/-- What there is behind a result. -/
def OptP (o : Option AV) (R : AV → Prop) : Prop := ∃ x, o = some x ∧ R x
theorem OptP_some (x : AV) (R : AV → Prop) : OptP (some x) R = R x := by simp [OptP]
@[congr] theorem OptP_congr {o o' : Option AV} {R : AV → Prop} (h : o = o') : OptP o R = OptP o' R := by rw [h]
theorem Ends_eq (rs : List ResultVar) (D : AV) (fr : Fr) : Ends P rs σ0 D fr σ = OptP (resA P rs fr σ) fun x => Frz σ0.next σ x D ∧ Keeps σ0 σ := rfl
theorem EndsA_eq (rs : List ResultVar) (R : AV → Mem → Prop) (fr : Fr) : EndsA P rs R fr σ = OptP (resA P rs fr σ) fun x => R x σ := rfl

theorem pureA_of {f : FuncId} {fn : Func} {c : Code} {args : List AV} {D : AV} (hf : P.funcs[f]? = some fn) (hb : fn.body = some c) (hn : (fn.name == "runtime.NumGoroutine") = false)
    (h : ∀ σ, EW P (args.length + (fn.ntmps - args.length)) (Ends P fn.results.toList σ D) [.code c] (initFr args) σ) : PureA P f args D := pureA_of_EW hf hb hn h
theorem callA_of {f : FuncId} {fn : Func} {c : Code} {args : List AV} {R : AV → Mem → Prop} (hf : P.funcs[f]? = some fn) (hb : fn.body = some c) (hn : (fn.name == "runtime.NumGoroutine") = false)
    (h : EW P (args.length + (fn.ntmps - args.length)) (EndsA P fn.results.toList R) [.code c] (initFr args) σ) : CallA P f args σ R := callA_of_EW hf hb hn h

theorem resA_tmp (t : Nat) (fr : Fr) : resA P [.tmp t] fr σ = some (fr t) := rfl
theorem resA_cell (a : Nat) (t : TypeId) (fr : Fr) : resA P [.cell a t] fr σ = (atPtr σ (fr a)).bind (readA P t) := rfl
theorem resA_nil (fr : Fr) : resA P [] fr σ = some (.tup []) := rfl
theorem resA_many (r s : ResultVar) (rs : List ResultVar) (fr : Fr) : resA P (r :: s :: rs) fr σ = (resAll P fr σ (r :: s :: rs)).map .tup := rfl
theorem resAll_nil (fr : Fr) : resAll P fr σ [] = some [] := rfl
theorem resAll_tmp (t : Nat) (rs : List ResultVar) (fr : Fr) : resAll P fr σ (.tmp t :: rs) = (resAll P fr σ rs).map fun xs => fr t :: xs := rfl
theorem resAll_cell (a : Nat) (t : TypeId) (rs : List ResultVar) (fr : Fr) : resAll P fr σ (.cell a t :: rs) = ((atPtr σ (fr a)).bind (readA P t)).bind fun x => (resAll P fr σ rs).map fun xs => x :: xs := rfl

/-! ### Reading results off as data -/
variable {n0 : Nat}
theorem frz_lit (v : Value) (D : AV) : Frz n0 σ (.lit v) D = (D = .lit v) := propext ⟨fun h => by cases h; rfl, fun h => by subst h; exact .lit v⟩
/-- Lists of values read off as data. -/
def FrzL (n0 : Nat) (σ : Mem) (xs ys : List AV) : Prop := xs.length = ys.length ∧ ∀ (j : Nat) (x y : AV), xs[j]? = some x → ys[j]? = some y → Frz n0 σ x y
theorem frzL_nil : FrzL n0 σ [] [] = True := eq_true ⟨rfl, fun j x y h => by simp at h⟩
theorem frzL_cons (x y : AV) (xs ys : List AV) : FrzL n0 σ (x :: xs) (y :: ys) = (Frz n0 σ x y ∧ FrzL n0 σ xs ys) := by
  apply propext
  constructor
  · rintro ⟨h1, h2⟩
    exact ⟨h2 0 x y rfl rfl, by simpa using h1, fun j a b ha hb => h2 (j + 1) a b (by simpa using ha) (by simpa using hb)⟩
  · rintro ⟨h1, h2, h3⟩
    refine ⟨by simp [h2], fun j a b ha hb => ?_⟩
    cases j with
    | zero => simp at ha hb; subst ha; subst hb; exact h1
    | succ j => exact h3 j a b (by simpa using ha) (by simpa using hb)
theorem frz_tup (xs ys : List AV) : Frz n0 σ (.tup xs) (.tup ys) = FrzL n0 σ xs ys := propext ⟨fun h => by cases h with | tup _ _ h1 h2 => exact ⟨h1, h2⟩, fun h => .tup _ _ h.1 h.2⟩
theorem frz_agg (xs ys : List AV) : Frz n0 σ (.agg xs) (.agg ys) = FrzL n0 σ xs ys := propext ⟨fun h => by cases h with | agg _ _ h1 h2 => exact ⟨h1, h2⟩, fun h => .agg _ _ h.1 h.2⟩
theorem frz_nils : Frz n0 σ .nils (.imm 0 []) = True := eq_true .nils
theorem frz_imm (n : Nat) (xs ys : List AV) : Frz n0 σ (.imm n xs) (.imm n ys) = FrzL n0 σ xs ys := propext ⟨fun h => by cases h with | imm _ _ _ h1 h2 => exact ⟨h1, h2⟩, fun h => .imm _ _ _ h.1 h.2⟩

/-- Data: no object in it. -/
def DataA (x : AV) : Prop := ∀ n0 σ, Frz n0 σ x x
def DataL (xs : List AV) : Prop := ∀ x ∈ xs, DataA x
theorem DataA.lit (v : Value) : DataA (.lit v) := fun _ _ => .lit v
theorem DataL.frz {xs : List AV} (h : DataL xs) : FrzL n0 σ xs xs := ⟨rfl, fun j x y hx hy => by rw [hx] at hy; cases hy; exact h x (List.mem_of_getElem? hx) _ _⟩
theorem DataA.imm {n : Nat} {xs : List AV} (h : DataL xs) : DataA (.imm n xs) := fun _ _ => .imm n xs xs rfl (h.frz).2
theorem DataA.agg {xs : List AV} (h : DataL xs) : DataA (.agg xs) := fun _ _ => .agg xs xs rfl (h.frz).2
theorem DataL.nil : DataL [] := fun x h => by cases h
theorem DataL.cons {x : AV} {xs : List AV} (h : DataA x) (k : DataL xs) : DataL (x :: xs) := fun y hy => by
  rcases List.mem_cons.1 hy with rfl | hy
  · exact h
  · exact k y hy
theorem DataL.append {xs ys : List AV} (h : DataL xs) (k : DataL ys) : DataL (xs ++ ys) := fun y hy => by
  rcases List.mem_append.1 hy with hy | hy
  · exact h y hy
  · exact k y hy
theorem DataL.map {α : Type} {f : α → AV} (h : ∀ a, DataA (f a)) (l : List α) : DataL (l.map f) := fun y hy => by
  obtain ⟨a, _, rfl⟩ := List.mem_map.1 hy; exact h a
theorem DataL.flatMap {α : Type} {f : α → List AV} (h : ∀ a, DataL (f a)) (l : List α) : DataL (l.flatMap f) := fun y hy => by
  obtain ⟨a, _, h2⟩ := List.mem_flatMap.1 hy; exact h a y h2
/-- A slice of the call's own, read off as data. -/
theorem frz_arr {id n sz : Nat} {cs : List AV} (h0 : n0 ≤ id) (h1 : σ.get id = some cs) (hd : DataL cs) : Frz n0 σ (.arr id 0 n sz) (.imm n cs) :=
  .arr id 0 n sz cs cs h0 h1 (by simp) (by simpa using (hd.frz (n0 := n0) (σ := σ)).2)

/-! ### Operations -/
theorem binA_int (op : BinOp) (t : TypeId) (kd : IntKind) (a b : Int) : binA P op t (.lit (.int kd a)) (.lit (.int kd b)) = intBin op kd a b := by simp [binA]
theorem binA_string (op : BinOp) (t : TypeId) (a b : ByteArray) : binA P op t (.lit (.string a)) (.lit (.string b)) = strBin op a.data.toList b.data.toList := by simp [binA]
theorem binA_beq (t : TypeId) (a b : Bool) (h : boolTy P t = true) : binA P .eql t (.lit (.bool a)) (.lit (.bool b)) = some (.lit (.bool (a == b))) := by simp [binA, h]
theorem binA_bne (t : TypeId) (a b : Bool) (h : boolTy P t = true) : binA P .neq t (.lit (.bool a)) (.lit (.bool b)) = some (.lit (.bool (a != b))) := by simp [binA, h]
theorem binA_agg (op : BinOp) (t : TypeId) (xs ys : List AV) : binA P op t (.agg xs) (.agg ys) = match plainTy P t with
    | some ts => if xs.length = ts.length ∧ ys.length = ts.length ∧ (ts.zip xs).all (fun (u, x) => cellFits P u x) ∧ (ts.zip ys).all (fun (u, x) => cellFits P u x) then
        (match op with | .eql => (eqCells xs ys).map fun b => .lit (.bool b) | .neq => (eqCells xs ys).map fun b => .lit (.bool (!b)) | _ => none) else none
    | none => none := rfl
theorem binA_nil1 (op : BinOp) (t : TypeId) (n : Nat) (cs : List AV) : binA P op t (.imm n cs) .nils = match sliceTy P t with
    | some _ => (match op with | .eql => (nilEq (.imm n cs) .nils).map fun b => .lit (.bool b) | .neq => (nilEq (.imm n cs) .nils).map fun b => .lit (.bool (!b)) | _ => none)
    | none => none := rfl
theorem binA_nil2 (op : BinOp) (t : TypeId) : binA P op t .nils .nils = match sliceTy P t with
    | some _ => (match op with | .eql => (nilEq .nils .nils).map fun b => .lit (.bool b) | .neq => (nilEq .nils .nils).map fun b => .lit (.bool (!b)) | _ => none)
    | none => none := rfl
theorem binA_nil3 (op : BinOp) (t : TypeId) (id off n sz : Nat) : binA P op t (.arr id off n sz) .nils = match sliceTy P t with
    | some _ => (match op with | .eql => (nilEq (.arr id off n sz) .nils).map fun b => .lit (.bool b) | .neq => (nilEq (.arr id off n sz) .nils).map fun b => .lit (.bool (!b)) | _ => none)
    | none => none := rfl

theorem binA_nil4 (op : BinOp) (t : TypeId) (a : Option Addr) (n c : Nat) : binA P op t (.lit (.slice a n c)) .nils = match sliceTy P t with
    | some _ => (match op with | .eql => (nilEq (.lit (.slice a n c)) .nils).map fun b => .lit (.bool b) | .neq => (nilEq (.lit (.slice a n c)) .nils).map fun b => .lit (.bool (!b)) | _ => none)
    | none => none := rfl

theorem cellsA_string (b : ByteArray) : cellsA (.lit (.string b)) = some [.lit (.string b)] := rfl
theorem cellsA_int (kd : IntKind) (n : Int) : cellsA (.lit (.int kd n)) = some [.lit (.int kd n)] := rfl
theorem cellsA_bool (b : Bool) : cellsA (.lit (.bool b)) = some [.lit (.bool b)] := rfl
theorem cellsA_pointer (a : Option Addr) : cellsA (.lit (.pointer a)) = some [.lit (.pointer a)] := rfl
theorem cellsA_agg (cs : List AV) : cellsA (.agg cs) = some cs := rfl
theorem cellsA_nils : cellsA .nils = some [.nils] := rfl
theorem cellsA_imm (n : Nat) (cs : List AV) : cellsA (.imm n cs) = some [.imm n cs] := rfl
theorem cellsA_arr (id off n sz : Nat) : cellsA (.arr id off n sz) = some [.arr id off n sz] := rfl
theorem cellsA_ptr (id off : Nat) : cellsA (.ptr id off) = some [.ptr id off] := rfl
theorem cellsA_iptr (cs : List AV) : cellsA (.iptr cs) = some [.iptr cs] := rfl
theorem cellsA_fn (f : FuncId) (cs : List AV) : cellsA (.fn f cs) = some [.fn f cs] := rfl
def fillS (pl : Option (Nat × Nat)) (new : Option (List AV)) (place : Nat → Option (Nat × Nat)) (cells : List AV) (rest : List (Nat × AV)) : Option (List AV) :=
  match pl, new with
  | some (off, size), some new => if new.length = size ∧ off + size ≤ cells.length then fillA place (spliceA cells off new) rest else none
  | _, _ => none
theorem fillA_nil (place : Nat → Option (Nat × Nat)) (cells : List AV) : fillA place cells [] = some cells := rfl
theorem fillA_cons (place : Nat → Option (Nat × Nat)) (cells : List AV) (i : Nat) (x : AV) (rest : List (Nat × AV)) : fillA place cells ((i, x) :: rest) = fillS (place i) (cellsA x) place cells rest := rfl
theorem fillS_some (off size : Nat) (new : List AV) (place : Nat → Option (Nat × Nat)) (cells : List AV) (rest : List (Nat × AV)) : fillS (some (off, size)) (some new) place cells rest = if new.length = size ∧ off + size ≤ cells.length then fillA place (spliceA cells off new) rest else none := rfl
@[congr] theorem fillS_congr {pl pl' : Option (Nat × Nat)} {new new' : Option (List AV)} {place : Nat → Option (Nat × Nat)} {cells cells' : List AV} {rest : List (Nat × AV)} (h : pl = pl') (h' : new = new') (h2 : cells = cells') : fillS pl new place cells rest = fillS pl' new' place cells' rest := by rw [h, h', h2]
theorem int_beq (a b : Int) : (a == b) = decide (a = b) := by by_cases h : a = b <;> simp [h]
theorem int_bne (a b : Int) : (a != b) = !decide (a = b) := by by_cases h : a = b <;> simp [h]
theorem take_drop_end (s : List UInt8) (n : Nat) : (s.drop n).take (s.length - n) = s.drop n := List.take_of_length_le (by simp)
theorem take_tail_end (s : List UInt8) : s.tail.take (s.length - 1) = s.tail := List.take_of_length_le (by simp)
theorem u8_lit (c : UInt8) (n : Nat) (hn : n < 256) : ((c.toNat : Int) = n) = (c = UInt8.ofNat n) := by
  apply propext
  constructor
  · intro h
    apply UInt8.toNat_inj.1
    have : c.toNat = n := by omega
    rw [this, UInt8.toNat_ofNat_of_lt' hn]
  · rintro rfl
    rw [UInt8.toNat_ofNat_of_lt' hn]
theorem wrap64_of (n : Int) (h1 : -9223372036854775808 ≤ n) (h2 : n ≤ 9223372036854775807) : IntKind.i64.wrap n = n := by rw [IntKind.wrap_i64]; omega
theorem wrapu8_of (n : Int) (h1 : 0 ≤ n) (h2 : n ≤ 255) : IntKind.u8.wrap n = n := by
  have := IntWalk.u8_in n (by omega)
  exact this

/-- An index of a list of equal parts. -/
theorem drop_flatMap {α : Type} {f : α → List AV} {sz : Nat} (hf : ∀ a, (f a).length = sz) : ∀ (l : List α) (i : Nat) (h : i < l.length), (l.flatMap f).drop (i * sz) = f l[i] ++ (l.drop (i + 1)).flatMap f
  | a :: l, 0, h => by simp
  | a :: l, i + 1, h => by
    rw [List.flatMap_cons, Nat.add_mul, Nat.one_mul, Nat.add_comm, ← List.drop_drop, show (f a ++ l.flatMap f).drop sz = l.flatMap f by rw [← hf a]; exact List.drop_left]
    exact drop_flatMap hf l i (by simpa using h)
theorem length_flatMap {α : Type} {f : α → List AV} {sz : Nat} (hf : ∀ a, (f a).length = sz) : ∀ l : List α, (l.flatMap f).length = l.length * sz
  | [] => by simp
  | a :: l => by rw [List.flatMap_cons, List.length_append, hf a, length_flatMap hf l, List.length_cons, Nat.add_mul, Nat.one_mul, Nat.add_comm]
end
attribute [go_sem] keeps_self keeps_alloc keeps_set keeps_kill OptP_some Ends_eq EndsA_eq resA_tmp resA_cell resA_nil resA_many resAll_nil resAll_tmp resAll_cell frz_lit frzL_nil frzL_cons frz_tup frz_agg frz_nils frz_imm
  binA_int binA_string binA_beq binA_bne binA_agg binA_nil1 binA_nil2 binA_nil3 binA_nil4 intBin strBin unA convA lenA intOfA boundA sliceA indexAddrA indexA fieldAddrA fieldA readA atPtr buildA zerosA buildSliceA makeSliceA storeA nilCheckA extractA pickA maxA minA itemsA appendA
  quietOp eqCells eqCell cellFits nilEq spliceA appendStrA bytesA
  cellsA_string cellsA_int cellsA_bool cellsA_pointer cellsA_agg cellsA_nils cellsA_imm cellsA_arr cellsA_ptr cellsA_iptr cellsA_fn fillA_nil fillA_cons fillS_some int_beq int_bne take_drop_end take_tail_end
end Go.Ew
