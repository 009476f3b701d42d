/-
  A program logic of our own over the model: values by content ('AV'), memory of the call's own ('Mem'), and the rules 'EW'.
  This text: the definitions. Nothing here is about one program.
-/
import Derived.WalkKit
import Derived.Deep.QuietTactic
namespace Go.Ew
open Go

/-- A value by content. 'lit': the model's own value; 'nils': the nil slice; 'imm n cs': a slice of n elements that nobody writes, its cells cs; 'arr id off n sz': a slice onto the object id of the call's own memory;
'ptr id off': a pointer there; 'iptr cs': a pointer to cells that nobody writes; 'fn': a function value; 'agg': a struct; 'tup': several results. -/
inductive AV where
  | lit (v : Value)
  | nils
  | imm (n : Nat) (cs : List AV)
  | arr (id off n sz : Nat)
  | ptr (id off : Nat)
  | iptr (cs : List AV)
  | fn (f : FuncId) (caps : List AV)
  | agg (cs : List AV)
  | tup (vs : List AV)

abbrev AV.undef : AV := .tup []
abbrev AV.int (n : Int) : AV := .lit (.int .i64 n)
abbrev AV.bool (b : Bool) : AV := .lit (.bool b)
abbrev AV.u8 (n : Int) : AV := .lit (.int .u8 n)
abbrev AV.str (l : List UInt8) : AV := .lit (.string ⟨⟨l⟩⟩)

/-- The call's own memory: objects by their number; 'none': there is none, or it is no longer the call's to write. -/
structure Mem where
  next : Nat
  ty : Nat → TypeId
  get : Nat → Option (List AV)

def Mem.alloc (σ : Mem) (e : TypeId) (cs : List AV) : Mem := ⟨σ.next + 1, fun i => if i = σ.next then e else σ.ty i, fun i => if i = σ.next then some cs else σ.get i⟩
def Mem.set (σ : Mem) (id : Nat) (cs : List AV) : Mem := ⟨σ.next, σ.ty, fun i => if i = id then some cs else σ.get i⟩
def Mem.kill (σ : Mem) (id : Nat) : Mem := ⟨σ.next, σ.ty, fun i => if i = id then none else σ.get i⟩
def Mem.empty : Mem := ⟨0, fun _ => 0, fun _ => none⟩

abbrev Fr := Nat → AV
def upd (f : Fr) (k : Nat) (x : AV) : Fr := fun j => if j = k then x else f j
def putA (f : Fr) : Option Tmp → AV → Fr
  | some d, x => upd f d x
  | none, _ => f
def dstOk (N : Nat) : Option Tmp → Bool
  | some d => decide (d < N)
  | none => true

/-! ### Types, as far as the rules want them -/
def strTy (P : Program) (t : TypeId) : Bool := match P.underlying t with | some .string => true | _ => false
def intTy (P : Program) (t : TypeId) : Option IntKind := match P.underlying t with | some (.int k) => some k | _ => none
def boolTy (P : Program) (t : TypeId) : Bool := match P.underlying t with | some .bool => true | _ => false
def sliceTy (P : Program) (t : TypeId) : Option (TypeId × Nat × Nat) := match P.underlying t with | some (.slice e) => (P.info? e).map fun i => (e, i.size, i.bytes) | _ => none
def aggTy (P : Program) (t : TypeId) : Option Bool := (P.underlying t).map fun | .struct _ | .array _ _ => true | _ => false
def sizeTy (P : Program) (t : TypeId) : Option Nat := (P.info? t).map (·.size)
def fieldTy (P : Program) (t : TypeId) (i : Nat) : Option (Nat × Nat × TypeId) :=
  match P.underlying t with
  | some (.struct fs) => (fs[i]?).bind fun f => (P.info? f.type).bind fun j => if j.size = 0 then none else some (f.offset, j.size, f.type)
  | _ => none
/-- Where the parts of a struct or an array lie, and how many cells each has. -/
def placesTy (P : Program) (t : TypeId) : Option (List (Nat × Nat)) :=
  match P.underlying t with
  | some (.struct fs) => fs.toList.mapM fun f => (P.info? f.type).map fun i => (f.offset, i.size)
  | some (.array n e) => (P.info? e).map fun i => (List.range n).map fun k => (k * i.size, i.size)
  | _ => none
/-- An array type: length, element type, an element's cells. -/
def arrayTy (P : Program) (t : TypeId) : Option (Nat × TypeId × Nat) := match P.underlying t with | some (.array n e) => (P.info? e).map fun i => (n, e, i.size) | _ => none

/-! ### Values of the model, by content -/
def cellA : Value → AV
  | .slice none n c => if n = 0 ∧ c = 0 then .nils else .lit (.slice none n c)
  | .func (.func f) a c => if a.toList = [] ∧ c.toList = [] then .fn f [] else .lit (.func (.func f) a c)
  | v => .lit v
def constA : Value → AV
  | .agg vs => if vs.toList.all Value.oneCell' then .agg (vs.toList.map cellA) else .lit (.agg vs)
  | .tuple vs => if vs.toList = [] then .tup [] else .lit (.tuple vs)
  | v => cellA v
def zeroTy (P : Program) (t : TypeId) : Option (List AV) :=
  (P.info? t).bind fun i => i.zero.bind fun v => if v.cells.toList.all Value.oneCell' then some (v.cells.toList.map cellA) else none

def evalA (fr : Fr) : Operand → AV
  | .tmp t => fr t
  | .const v => constA v
  | .global g => .lit (.pointer (some ⟨g, 0, none⟩))
  | .func f => .fn f []

def cellsA : AV → Option (List AV)
  | .agg cs => some cs
  | .tup _ => none
  | .lit v => if v.oneCell' then some [.lit v] else none
  | x => some [x]

def spliceA (cs : List AV) (off : Nat) (new : List AV) : List AV := cs.take off ++ new ++ cs.drop (off + new.length)

/-- What a load of type t reads off the cells from the address on. -/
def readA (P : Program) (t : TypeId) (cs : List AV) : Option AV :=
  match aggTy P t, sizeTy P t with
  | some true, some n => if n ≤ cs.length then some (.agg (cs.take n)) else none
  | some false, _ => cs.head?
  | _, _ => none

def atPtr (σ : Mem) : AV → Option (List AV)
  | .ptr id off => (σ.get id).bind fun cs => if off < cs.length then some (cs.drop off) else none
  | .iptr cs => some cs
  | _ => none

inductive NextA where
  | ok (x : AV) (σ : Mem)
  | call (f : FuncId) (args : List AV)
  | fail

def NextA.val (σ : Mem) : Option AV → NextA
  | some x => .ok x σ
  | none => .fail

/-! ### Operations -/
def intBin (op : BinOp) (k : IntKind) (a b : Int) : Option AV :=
  match op with
  | .add => some (.lit (.int k (k.wrap (a + b))))
  | .sub => some (.lit (.int k (k.wrap (a - b))))
  | .mul => some (.lit (.int k (k.wrap (a * b))))
  | .quo => if b = 0 then none else some (.lit (.int k (k.wrap (a.tdiv b))))
  | .rem => if b = 0 then none else some (.lit (.int k (a.tmod b)))
  | .eql => some (.lit (.bool (a == b)))
  | .neq => some (.lit (.bool (a != b)))
  | .lss => some (.lit (.bool (decide (a < b))))
  | .leq => some (.lit (.bool (decide (a ≤ b))))
  | .gtr => some (.lit (.bool (decide (b < a))))
  | .geq => some (.lit (.bool (decide (b ≤ a))))
  | _ => none

def strBin (op : BinOp) (a b : List UInt8) : Option AV :=
  match op with
  | .add => if a.length + b.length ≤ 9223372036854775807 then some (.str (a ++ b)) else none
  | .eql => some (.lit (.bool (a == b)))
  | .neq => some (.lit (.bool (a != b)))
  | .lss => some (.lit (.bool (Op.bytesLess a b)))
  | _ => none

/-- '==' of two one-cell values of kinds that we know. -/
def eqCell : AV → AV → Option Bool
  | .lit (.int k a), .lit (.int k' b) => if k = k' then some (a == b) else none
  | .lit (.bool a), .lit (.bool b) => some (a == b)
  | .lit (.string a), .lit (.string b) => some (a.data.toList == b.data.toList)
  | _, _ => none
/-- '==' of two structs, cell by cell. -/
def eqCells : List AV → List AV → Option Bool
  | [], [] => some true
  | x :: xs, y :: ys => (eqCell x y).bind fun a => (eqCells xs ys).map fun b => a && b
  | _, _ => none
/-- A struct type of one-cell fields of int, bool, string, in order, none blank. -/
def plainTy (P : Program) (t : TypeId) : Option (List TypeId) :=
  match P.underlying t with
  | some (.struct fs) =>
    if fs.toList.zipIdx.all (fun (f, i) => f.offset == i && f.name != "_" && (P.info? f.type).any (fun j => j.size == 1) && (P.underlying f.type).any (fun | .int _ | .bool | .string => true | _ => false)) && !P.stoodInHeld t && !P.eqGuardType P.depth t
    then some (fs.toList.map (·.type)) else none
  | _ => none
/-- A one-cell value fits a type of '==' that we know. -/
def cellFits (P : Program) (t : TypeId) : AV → Bool
  | .lit (.int _ _) => (intTy P t).isSome
  | .lit (.bool _) => boolTy P t
  | .lit (.string _) => strTy P t
  | _ => false

def nilEq : AV → AV → Option Bool
  | .nils, .nils => some true
  | .imm n _, .nils => if 0 < n then some false else none
  | .nils, .imm n _ => if 0 < n then some false else none
  | .arr .., .nils => some false
  | .nils, .arr .. => some false
  | .lit (.slice (some _) _ _), .nils => some false
  | .lit (.slice none _ _), .nils => some true
  | _, _ => none

def binA (P : Program) (op : BinOp) (t : TypeId) : AV → AV → Option AV
  | .lit (.int k a), .lit (.int k' b) => if k = k' then intBin op k a b else none
  | .lit (.string a), .lit (.string b) => strBin op a.data.toList b.data.toList
  | .lit (.bool a), .lit (.bool b) => if boolTy P t then (match op with | .eql => some (.lit (.bool (a == b))) | .neq => some (.lit (.bool (a != b))) | _ => none) else none
  | .agg xs, .agg ys =>
    match plainTy P t with
    | some ts => if xs.length = ts.length ∧ ys.length = ts.length ∧ (ts.zip xs).all (fun (u, x) => cellFits P u x) ∧ (ts.zip ys).all (fun (u, x) => cellFits P u x) then
        (match op with | .eql => (eqCells xs ys).map fun b => .lit (.bool b) | .neq => (eqCells xs ys).map fun b => .lit (.bool (!b)) | _ => none) else none
    | none => none
  | x, y =>
    match sliceTy P t with
    | some _ => (match op with | .eql => (nilEq x y).map fun b => .lit (.bool b) | .neq => (nilEq x y).map fun b => .lit (.bool (!b)) | _ => none)
    | none => none

def unA (op : UnOp) : AV → Option AV
  | .lit (.int k n) => (match op with | .neg => some (.lit (.int k (k.wrap (0 - n)))) | _ => none)
  | .lit (.bool b) => (match op with | .not => some (.lit (.bool (!b))) | _ => none)
  | _ => none

def convA (P : Program) (src dst : TypeId) : AV → Option AV
  | .lit (.int _ n) => (match P.underlying src, intTy P dst with | some _, some k => some (.lit (.int k (k.wrap n))) | _, _ => none)
  | .lit (.string s) => if strTy P src ∧ strTy P dst then some (.lit (.string s)) else none
  | _ => none

/-- The elements of a slice: how many, and their cells. -/
def itemsA (σ : Mem) (sz : Nat) : AV → Option (Nat × List AV)
  | .nils => some (0, [])
  | .imm n cs => if cs.length = n * sz then some (n, cs) else none
  | .lit (.slice _ 0 _) => some (0, [])
  | .arr id off n sz' => (σ.get id).bind fun cs => if sz' = sz ∧ off + n * sz ≤ cs.length then some (n, (cs.drop off).take (n * sz)) else none
  | _ => none

def appendA (P : Program) (σ : Mem) (t : TypeId) (s x : AV) : NextA :=
  match sliceTy P t with
  | some (e, sz, bytes) =>
    (match zeroTy P e, itemsA σ sz x with
     | some z, some (m, new) =>
       if z.length = sz then
         (match s with
          | .nils => if m = 0 then .ok .nils σ else if m ≤ 9223372036854775807 ∧ m * bytes ≤ 140737488355328 then .ok (.arr σ.next 0 m sz) (σ.alloc e new) else .fail
          | .arr id off n sz' =>
            (match σ.get id with
             | some cs => if off = 0 ∧ sz' = sz ∧ σ.ty id = e ∧ n * sz ≤ cs.length ∧ n + m ≤ 9223372036854775807 ∧ (n + m) * bytes ≤ 140737488355328 then .ok (.arr σ.next 0 (n + m) sz) ((σ.kill id).alloc e (cs.take (n * sz) ++ new)) else .fail
             | none => .fail)
          | _ => .fail)
       else .fail
     | _, _ => .fail)
  | none => .fail

/-- A string's bytes as values. -/
def bytesA (l : List UInt8) : List AV := l.map fun b => .u8 b.toNat
/-- 'append' of a string to a slice of bytes. -/
def appendStrA (P : Program) (σ : Mem) (t u : TypeId) (s x : AV) : NextA :=
  match sliceTy P t, x with
  | some (e, sz, bytes), .lit (.string b) =>
    (match zeroTy P e with
     | some z =>
       if strTy P u = true ∧ sz = 1 ∧ bytes = 1 ∧ z.length = 1 then
         (match s with
          | .nils => if b.data.toList = [] then .ok .nils σ else if b.data.toList.length ≤ 140737488355328 then .ok (.arr σ.next 0 b.data.toList.length 1) (σ.alloc e (bytesA b.data.toList)) else .fail
          | .arr id off n sz' =>
            (match σ.get id with
             | some cs => if off = 0 ∧ sz' = 1 ∧ σ.ty id = e ∧ n ≤ cs.length ∧ n + b.data.toList.length ≤ 140737488355328 then .ok (.arr σ.next 0 (n + b.data.toList.length) 1) ((σ.kill id).alloc e (cs.take n ++ bytesA b.data.toList)) else .fail
             | none => .fail)
          | _ => .fail)
       else .fail
     | none => .fail)
  | _, _ => .fail

def lenA (P : Program) (t : TypeId) : AV → Option AV
  | .lit (.string s) => if strTy P t then some (.int s.data.toList.length) else none
  | .nils => (sliceTy P t).map fun _ => .int (0 : Nat)
  | .imm n _ => (sliceTy P t).map fun _ => .int n
  | .arr _ _ n _ => (sliceTy P t).map fun _ => .int n
  | _ => none

def intOfA : AV → Option Int
  | .lit (.int _ n) => some n
  | _ => none

/-- A bound of a slice expression: none: the given default. -/
def boundA (d : Int) : Option AV → Option Int
  | none => some d
  | some x => intOfA x

def sliceA (P : Program) (t : TypeId) (x : AV) (lo hi : Option AV) : Option AV :=
  match x with
  | .lit (.string s) =>
    (match boundA 0 lo, boundA s.data.toList.length hi with
     | some l, some h => if strTy P t ∧ 0 ≤ l ∧ l ≤ h ∧ h ≤ s.data.toList.length then some (.str ((s.data.toList.drop l.toNat).take (h.toNat - l.toNat))) else none
     | _, _ => none)
  | .nils =>
    (match sliceTy P t, boundA 0 lo, boundA 0 hi with
     | some _, some l, some h => if l = 0 ∧ h = 0 then some .nils else none
     | _, _, _ => none)
  | .imm n cs =>
    (match sliceTy P t, boundA 0 lo, boundA n hi with
     | some (_, sz, _), some l, some h => if 0 ≤ l ∧ l ≤ h ∧ h ≤ n then some (.imm (h.toNat - l.toNat) ((cs.drop (l.toNat * sz)).take ((h.toNat - l.toNat) * sz))) else none
     | _, _, _ => none)
  | .arr id off n sz' =>
    (match sliceTy P t, boundA 0 lo, boundA n hi with
     | some (_, sz, _), some l, some h =>
       if sz' = sz ∧ 0 ≤ l ∧ l ≤ h ∧ h ≤ n then
         (if l = 0 then some (.arr id off h.toNat sz) else if l < n then some (.arr id (off + l.toNat * sz) (h.toNat - l.toNat) sz) else some (.imm 0 []))
       else none
     | _, _, _ => none)
  | _ => none

def indexAddrA (P : Program) (t : TypeId) (x i : AV) : Option AV :=
  match intOfA i with
  | none => none
  | some i =>
    match sliceTy P t with
    | some (_, sz, _) =>
      (match x with
       | .imm n cs => if 0 ≤ i ∧ i < n then some (.iptr (cs.drop (i.toNat * sz))) else none
       | .arr id off n sz' => if sz' = sz ∧ 0 ≤ i ∧ i < n then some (.ptr id (off + i.toNat * sz)) else none
       | _ => none)
    | none =>
      match arrayTy P t with
      | some (n, _, sz) =>
        (match x with
         | .ptr id off => if 0 ≤ i ∧ i < n then some (.ptr id (off + i.toNat * sz)) else none
         | .iptr cs => if 0 ≤ i ∧ i < n then some (.iptr (cs.drop (i.toNat * sz))) else none
         | _ => none)
      | none => none

def indexA (P : Program) (t : TypeId) (x i : AV) : Option AV :=
  match x, intOfA i with
  | .lit (.string s), some i => if strTy P t ∧ 0 ≤ i ∧ i < s.data.toList.length then some (.u8 (s.data.toList.getD i.toNat 0).toNat) else none
  | .agg cs, some i =>
    (match arrayTy P t with
     | some (n, e, sz) => if 0 ≤ i ∧ i < n then readA P e (cs.drop (i.toNat * sz)) else none
     | none => none)
  | _, _ => none

def fieldAddrA (P : Program) (t : TypeId) (x : AV) (i : Nat) : Option AV :=
  match fieldTy P t i with
  | some (off, _, _) => (match x with | .ptr id o => some (.ptr id (o + off)) | .iptr cs => some (.iptr (cs.drop off)) | _ => none)
  | none => none

def fieldA (P : Program) (t : TypeId) (x : AV) (i : Nat) : Option AV :=
  match fieldTy P t i, x with
  | some (off, _, u), .agg cs => readA P u (cs.drop off)
  | _, _ => none

def fillA (place : Nat → Option (Nat × Nat)) (cells : List AV) : List (Nat × AV) → Option (List AV)
  | [] => some cells
  | (i, x) :: rest =>
    match place i, cellsA x with
    | some (off, size), some new => if new.length = size ∧ off + size ≤ cells.length then fillA place (spliceA cells off new) rest else none
    | _, _ => none

def buildA (P : Program) (t : TypeId) (parts : List (Nat × AV)) : Option AV :=
  match zeroTy P t, placesTy P t with
  | some z, some pl => (fillA (fun i => pl[i]?) z parts).map .agg
  | _, _ => none

def zerosA (z : List AV) : Nat → List AV
  | 0 => []
  | n + 1 => z ++ zerosA z n

def buildSliceA (P : Program) (σ : Mem) (t : TypeId) (len : Nat) (parts : List (Nat × AV)) : NextA :=
  match sliceTy P t with
  | some (e, sz, _) =>
    (match zeroTy P e with
     | some z =>
       if z.length = sz ∧ len * sz ≤ 16777216 ∧ len ≤ 16777216 then
         (match fillA (fun i => some (i * sz, sz)) (zerosA z len) parts with
          | some cells => .ok (.arr σ.next 0 len sz) (σ.alloc e cells)
          | none => .fail)
       else .fail
     | none => .fail)
  | none => .fail

def makeSliceA (P : Program) (σ : Mem) (t : TypeId) (l c : AV) : NextA :=
  match sliceTy P t with
  | some (e, sz, bytes) =>
    (match zeroTy P e, intOfA l, intOfA c with
     | some z, some l, some c =>
       if z.length = sz ∧ 0 < sz ∧ 0 ≤ l ∧ l ≤ c ∧ c ≤ 9223372036854775807 ∧ (bytes : Int) * c ≤ 281474976710656 then .ok (.arr σ.next 0 l.toNat sz) (σ.alloc e (zerosA z l.toNat)) else .fail
     | _, _, _ => .fail)
  | none => .fail

def storeA (P : Program) (σ : Mem) (t : TypeId) (a x : AV) : NextA :=
  match a, cellsA x with
  | .ptr id off, some new =>
    (match σ.get id with
     | some cs => if sizeTy P t = some new.length ∧ off + new.length ≤ cs.length then .ok .undef (σ.set id (spliceA cs off new)) else .fail
     | none => .fail)
  | _, _ => .fail

def nilCheckA : AV → Option AV
  | .ptr id off => some (.ptr id off)
  | .iptr cs => some (.iptr cs)
  | .fn f caps => some (.fn f caps)
  | _ => none

def extractA : AV → Nat → Option AV
  | .tup vs, i => vs[i]?
  | _, _ => none

def pickA : AV → AV → AV → Option AV
  | .lit (.bool c), a, b => some (if c then a else b)
  | _, _, _ => none

def maxA : AV → AV → Option AV
  | .lit (.int k a), .lit (.int k' b) => if k = k' then some (.lit (.int k (max a b))) else none
  | _, _ => none
def minA : AV → AV → Option AV
  | .lit (.int k a), .lit (.int k' b) => if k = k' then some (.lit (.int k (min a b))) else none
  | _, _ => none

/-- What one operation comes to. -/
def evOp (P : Program) (o : Op) (ρ : Operand → AV) (σ : Mem) : NextA :=
  match o with
  | .move x => .ok (ρ x) σ
  | .assign x => .ok (ρ x) σ
  | .pick c a b => .val σ (pickA (ρ c) (ρ a) (ρ b))
  | .alloc t => (match zeroTy P t with | some z => .ok (.ptr σ.next 0) (σ.alloc t z) | none => .fail)
  | .box t x => (match cellsA (ρ x) with | some cs => .ok (.ptr σ.next 0) (σ.alloc t cs) | none => .fail)
  | .build t parts => .val σ (buildA P t (parts.toList.map fun (i, x) => (i, ρ x)))
  | .buildSlice t len parts => buildSliceA P σ t len (parts.toList.map fun (i, x) => (i, ρ x))
  | .load t a => .val σ ((atPtr σ (ρ a)).bind (readA P t))
  | .store t a x => storeA P σ t (ρ a) (ρ x)
  | .nilCheck x => .val σ (nilCheckA (ρ x))
  | .binOp op t x y _ => .val σ (binA P op t (ρ x) (ρ y))
  | .unOp op _ x => .val σ (unA op (ρ x))
  | .convert s d x => .val σ (convA P s d (ρ x))
  | .makeFunc (.func f) first captured => if first.size = 0 then .ok (.fn f (captured.toList.map ρ)) σ else .fail
  | .makeSlice t l c => makeSliceA P σ t (ρ l) (ρ c)
  | .slice t x lo hi none => .val σ (sliceA P t (ρ x) (lo.map ρ) (hi.map ρ))
  | .fieldAddr t x i => .val σ (fieldAddrA P t (ρ x) i)
  | .field t x i => .val σ (fieldA P t (ρ x) i)
  | .indexAddr t x i => .val σ (indexAddrA P t (ρ x) (ρ i))
  | .index t x i => .val σ (indexA P t (ρ x) (ρ i))
  | .extract x i => .val σ (extractA (ρ x) i)
  | .call c =>
    (match c.callee with
     | .value f => (match ρ f with | .fn g caps => .call g (c.args.toList.map ρ ++ caps) | _ => .fail)
     | .builtin .len => (match c.args.toList, c.argTypes.toList with | [x], t :: _ => .val σ (lenA P t (ρ x)) | _, _ => .fail)
     | .builtin .append => (match c.args.toList, c.argTypes.toList with | [s, x], [t, u] => if t = u then appendA P σ t (ρ s) (ρ x) else appendStrA P σ t u (ρ s) (ρ x) | _, _ => .fail)
     | .builtin .max => (match c.args.toList with | [x, y] => .val σ (maxA (ρ x) (ρ y)) | _ => .fail)
     | .builtin .min => (match c.args.toList with | [x, y] => .val σ (minA (ρ x) (ρ y)) | _ => .fail)
     | _ => .fail)
  | _ => .fail

/-- Operations that read alone. -/
def quietOp : Op → Bool
  | .move _ | .assign _ | .pick .. | .build .. | .load .. | .nilCheck _ | .unOp .. | .convert .. | .slice .. | .fieldAddr .. | .field .. | .indexAddr .. | .index .. | .extract .. | .binOp .. => true
  | .makeFunc .. => true
  | .call { callee := .builtin .len, .. } | .call { callee := .builtin .max, .. } | .call { callee := .builtin .min, .. } => true
  | _ => false

/-! ### Guards -/
inductive GuardA where
  | run | skip
  | test (x b : Bool)
  | fail
def guardA (all : Array Oper) (o : Oper) (fr : Fr) : GuardA :=
  match o.guard with
  | none => .run
  | some (j, b) =>
    match (all[j]?).bind (·.dst) with
    | none => .skip
    | some t => match fr t with
      | .lit (.bool x) => .test x b
      | .tup [] => .skip
      | _ => .fail

/-! ### The stack of what is to be done -/
inductive Itm where
  | code (c : Code)
  | blk (id : Nat)
  | goal (K : Fr → Mem → Prop)
  | ops (q : Bool) (l : List Oper) (all : Array Oper)
  | run (q : Bool) (o : Oper) (l : List Oper) (all : Array Oper)

def dropTo (id : Nat) : List Itm → Option (List Itm)
  | [] => none
  | .blk id' :: k => if id' = id then some k else dropTo id k
  | _ :: k => dropTo id k

/-! ### How values and memory by content stand to the model's -/
inductive Rv (φ : Nat → Nat) (n : Nat) (L : Nat → Prop) (w : World) : AV → Value → Prop
  | lit (v : Value) : Rv φ n L w (.lit v) v
  | nils : Rv φ n L w .nils (.slice none 0 0)
  | imm0 (A : Option Addr) (c : Nat) : c ≤ maxLen → Rv φ n L w (.imm 0 []) (.slice A 0 c)
  | imm (m : Nat) (cs : List AV) (ad : Addr) (c : Nat) (vs : Nat → Value) : (∀ j, j < cs.length → w.cell? (ad.add j) = some (vs j) ∧ (vs j).oneCell' = true) → (∀ (j : Nat) (x : AV), cs[j]? = some x → Rv φ n L w x (vs j)) →
      ¬ L ad.block → ad.block < w.heap.size → m ≤ c → c ≤ maxLen → Rv φ n L w (.imm m cs) (.slice (some ad) m c)
  | arr (id off m sz c : Nat) : id < n → m ≤ c → c ≤ maxLen → (∃ cur e fz, w.heap[φ id]? = some (.cells cur e fz) ∧ off + c * sz ≤ cur.size) → Rv φ n L w (.arr id off m sz) (.slice (some ⟨φ id, off, none⟩) m c)
  | ptr (id off : Nat) : id < n → Rv φ n L w (.ptr id off) (.pointer (some ⟨φ id, off, none⟩))
  | iptr (cs : List AV) (ad : Addr) (vs : Nat → Value) : (∀ j, j < cs.length → w.cell? (ad.add j) = some (vs j) ∧ (vs j).oneCell' = true) → (∀ (j : Nat) (x : AV), cs[j]? = some x → Rv φ n L w x (vs j)) →
      ¬ L ad.block → ad.block < w.heap.size → Rv φ n L w (.iptr cs) (.pointer (some ad))
  | fn (f : FuncId) (xs : List AV) (vs : List Value) : xs.length = vs.length → (∀ (j : Nat) (x : AV) (v : Value), xs[j]? = some x → vs[j]? = some v → Rv φ n L w x v) → Rv φ n L w (.fn f xs) (.func (.func f) #[] vs.toArray)
  | agg (xs : List AV) (vs : List Value) : xs.length = vs.length → (∀ (j : Nat) (x : AV) (v : Value), xs[j]? = some x → vs[j]? = some v → Rv φ n L w x v) → (∀ v ∈ vs, v.oneCell' = true) → Rv φ n L w (.agg xs) (.agg vs.toArray)
  | tup (xs : List AV) (vs : List Value) : xs.length = vs.length → (∀ (j : Nat) (x : AV) (v : Value), xs[j]? = some x → vs[j]? = some v → Rv φ n L w x v) → Rv φ n L w (.tup xs) (.tuple vs.toArray)

/-- The blocks of the call's own objects. -/
def Live (φ : Nat → Nat) (σ : Mem) (b : Nat) : Prop := ∃ id, (σ.get id).isSome = true ∧ φ id = b

abbrev RvM (φ : Nat → Nat) (σ : Mem) (w : World) : AV → Value → Prop := Rv φ σ.next (Live φ σ) w

/-- A list of values by content, and one of the model's. -/
def RvL (φ : Nat → Nat) (σ : Mem) (w : World) (xs : List AV) (vs : List Value) : Prop := xs.length = vs.length ∧ ∀ (j : Nat) (x : AV) (v : Value), xs[j]? = some x → vs[j]? = some v → RvM φ σ w x v

structure RelM (φ : Nat → Nat) (σ : Mem) (w : World) : Prop where
  live : ∀ id cs, σ.get id = some cs → id < σ.next
  cell : ∀ id cs, σ.get id = some cs → ∃ cur, w.heap[φ id]? = some (.cells cur (σ.ty id) (0, 0)) ∧ cs.length ≤ cur.size ∧ ∀ (j : Nat) (x : AV), cs[j]? = some x → ∃ v, cur[j]? = some v ∧ v.oneCell' = true ∧ RvM φ σ w x v
  inj : ∀ i j, (σ.get i).isSome = true → (σ.get j).isSome = true → φ i = φ j → i = j

def RelF (φ : Nat → Nat) (σ : Mem) (w : World) (fr : Fr) (tmps : Array Value) : Prop := ∀ k, RvM φ σ w (fr k) (tmps.getD k Go.undef)

/-- From one state to a later one: what is not the call's own stays. -/
structure Step (φ : Nat → Nat) (σ : Mem) (w : World) (φ' : Nat → Nat) (σ' : Mem) (w' : World) : Prop where
  next : σ.next ≤ σ'.next
  phi : ∀ id, id < σ.next → φ' id = φ id
  fresh : ∀ b, Live φ' σ' b → Live φ σ b ∨ w.heap.size ≤ b
  size : w.heap.size ≤ w'.heap.size
  same : ∀ b, b < w.heap.size → ¬ Live φ σ b → w'.heap[b]? = w.heap[b]?
  shape : ∀ (b : Nat) (cur : Array Value) (e : TypeId) (fz : Nat × Nat), w.heap[b]? = some (.cells cur e fz) → ∃ cur' fz', w'.heap[b]? = some (.cells cur' e fz') ∧ cur'.size = cur.size
  os : w'.os = w.os
  tape : w'.tape = w.tape
  output : w'.output = w.output

/-- A function that can be called: it has a body. -/
def Callable (P : Program) (f : FuncId) : Prop := ∃ fn, P.funcs[f]? = some fn ∧ fn.body.isSome = true ∧ (fn.name == "runtime.NumGoroutine") = false

/-- THE CONTRACT of a call: with these arguments, in this memory, it returns, and R holds of the result and of the memory then. -/
def CallA (P : Program) (f : FuncId) (args : List AV) (σ : Mem) (R : AV → Mem → Prop) : Prop :=
  Callable P f ∧ ∀ φ w vs, RelM φ σ w → RvL φ σ w args vs → Calls P f vs.toArray w fun e w' => ∃ v x φ' σ', e = .returned v ∧ RelM φ' σ' w' ∧ RvM φ' σ' w' x v ∧ Step φ σ w φ' σ' w' ∧ R x σ'

/-- Values that determine the model's value. -/
def rigidA : AV → Bool
  | .lit _ => true
  | .nils => true
  | .agg xs => xs.all fun | .lit _ => true | .nils => true | _ => false
  | .tup xs => xs.all fun | .lit _ => true | .nils => true | _ => false
  | _ => false

/-- THE RULES. -/
inductive EW (P : Program) (N : Nat) (Q : Fr → Mem → Prop) : List Itm → Fr → Mem → Prop
  | nil {fr σ} : Q fr σ → EW P N Q [] fr σ
  | goal {K k fr σ} : K fr σ → EW P N Q (.goal K :: k) fr σ
  | blk {id k fr σ} : EW P N Q k fr σ → EW P N Q (.blk id :: k) fr σ
  | skip {k fr σ} : EW P N Q k fr σ → EW P N Q (.code .skip :: k) fr σ
  | seq {a b k fr σ} : EW P N Q (.code a :: .code b :: k) fr σ → EW P N Q (.code (.seq a b) :: k) fr σ
  | cond {c a b k fr σ} (t : Bool) : evalA fr c = .lit (.bool t) → (t = true → EW P N Q (.code a :: k) fr σ) → (t = false → EW P N Q (.code b :: k) fr σ) → EW P N Q (.code (.cond c a b) :: k) fr σ
  | block {id c k fr σ} : EW P N Q (.code c :: .blk id :: k) fr σ → EW P N Q (.code (.block id c) :: k) fr σ
  | loop {c k fr σ} (I : Nat → Fr → Mem → Prop) (n : Nat) : I n fr σ → (∀ n fr σ, I n fr σ → EW P N Q (.code c :: .goal (fun fr' σ' => ∃ m, m < n ∧ I m fr' σ') :: k) fr σ) → EW P N Q (.code (.loop c) :: k) fr σ
  | exit {id k k' fr σ} : dropTo id k = some k' → EW P N Q k' fr σ → EW P N Q (.code (.exit id) :: k) fr σ
  | ret {k fr σ} : Q fr σ → EW P N Q (.code .ret :: k) fr σ
  | region {id ops k fr σ} : EW P N Q (.ops false ops.toList ops :: k) fr σ → EW P N Q (.code (.region id ops false) :: k) fr σ
  | regionD {id ops k fr σ} : P.follows .mixedOrders = true → Region.lexB .any ops = true → EW P N Q (.ops true ops.toList ops :: k) fr σ → EW P N Q (.code (.region id ops true) :: k) fr σ
  | raw {id ops k fr σ} (K : Fr → Mem → Prop) :
      (∀ (φ : Nat → Nat) (w : World) (a : Act), RelM φ σ w → RelF φ σ w fr a.tmps → a.defers = [] → a.tmps.size = N →
        (Code.region id ops true).wp P (fun e a' w' => e = .normal ∧ ∃ φ' σ' fr', RelM φ' σ' w' ∧ RelF φ' σ' w' fr' a'.tmps ∧ a'.defers = [] ∧ a'.tmps.size = N ∧ Step φ σ w φ' σ' w' ∧ K fr' σ') a w) →
      (∀ fr' σ', K fr' σ' → EW P N Q k fr' σ') → EW P N Q (.code (.region id ops true) :: k) fr σ
  | opsNil {q all k fr σ} : EW P N Q k fr σ → EW P N Q (.ops q [] all :: k) fr σ
  | opsRun {q o l all k fr σ} : guardA all o fr = .run → EW P N Q (.run q o l all :: k) fr σ → EW P N Q (.ops q (o :: l) all :: k) fr σ
  | opsSkip {q o l all k fr σ} : guardA all o fr = .skip → dstOk N o.dst = true → EW P N Q (.ops q l all :: k) (putA fr o.dst .undef) σ → EW P N Q (.ops q (o :: l) all :: k) fr σ
  | opsTest {q o l all k fr σ} (x b : Bool) : guardA all o fr = .test x b → dstOk N o.dst = true → (x = b → EW P N Q (.run q o l all :: k) fr σ) → (x ≠ b → EW P N Q (.ops q l all :: k) (putA fr o.dst .undef) σ) → EW P N Q (.ops q (o :: l) all :: k) fr σ
  | op {q o l all k fr σ} (x : AV) (σ' : Mem) : evOp P o.op (evalA fr) σ = .ok x σ' → dstOk N o.dst = true → (q = true → quietOp o.op = true) → EW P N Q (.ops q l all :: k) (putA fr o.dst x) σ' → EW P N Q (.run q o l all :: k) fr σ
  | call {o l all k fr σ} (f : FuncId) (args : List AV) (R : AV → Mem → Prop) : evOp P o.op (evalA fr) σ = .call f args → dstOk N o.dst = true → CallA P f args σ R → (∀ x σ', R x σ' → EW P N Q (.ops false l all :: k) (putA fr o.dst x) σ') →
      EW P N Q (.run false o l all :: k) fr σ
  | qcall {o l all k fr σ} (f : FuncId) (args : List AV) (D : AV) : evOp P o.op (evalA fr) σ = .call f args → dstOk N o.dst = true → (∀ σ, CallA P f args σ fun x σ' => x = D ∧ σ' = σ) → rigidA D = true → EW P N Q (.ops true l all :: k) (putA fr o.dst D) σ →
      EW P N Q (.run true o l all :: k) fr σ

end Go.Ew
