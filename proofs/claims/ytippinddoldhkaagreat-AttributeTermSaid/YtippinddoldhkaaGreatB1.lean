/-
  A program logic of our own over the model: values by content ('AV'), memory of the call's own ('Mem'), and the rules 'EW'.
  This text: the definitions. Nothing here is about one program.
-/
import Derived.WalkKit
import Derived.Deep.QuietTactic
import Derived.Lib.AppendStr
import Derived.Laws.CopyRow
import Derived.Lib.Builder
import Derived.Lib.UnsafeStr
set_option linter.unusedSimpArgs false
set_option linter.unusedVariables false
namespace Go.Ew
open Go

/-- A value by content. 'lit': the model's own value; 'nils': the nil slice; 'imm n cs': a slice of n elements that nobody writes, its cells cs; 'arr id off n sz': a slice onto the object id of the call's own memory;
'ptr id off': a pointer there; 'iptr cs': a pointer to cells that nobody writes; 'fn': a function value; 'agg': a struct; 'tup': several results. -/
inductive AV where
  | lit (v : Value)
  | nils
  | imm (n : Nat) (cs : List AV)
  | arr (id off n sz : Nat)
  | ptr (id off : Nat)
  | iptr (cs : List AV)
  | fn (f : FuncId) (caps : List AV)
  | agg (cs : List AV)
  | tup (vs : List AV)

abbrev AV.undef : AV := .tup []
abbrev AV.int (n : Int) : AV := .lit (.int .i64 n)
abbrev AV.bool (b : Bool) : AV := .lit (.bool b)
abbrev AV.u8 (n : Int) : AV := .lit (.int .u8 n)
abbrev AV.str (l : List UInt8) : AV := .lit (.string ⟨⟨l⟩⟩)

/-- The call's own memory: objects by their number; 'none': there is none, or it is no longer the call's to write. -/
structure Mem where
  next : Nat
  ty : Nat → TypeId
  get : Nat → Option (List AV)

def Mem.alloc (σ : Mem) (e : TypeId) (cs : List AV) : Mem := ⟨σ.next + 1, fun i => if i = σ.next then e else σ.ty i, fun i => if i = σ.next then some cs else σ.get i⟩
def Mem.set (σ : Mem) (id : Nat) (cs : List AV) : Mem := ⟨σ.next, σ.ty, fun i => if i = id then some cs else σ.get i⟩
def Mem.kill (σ : Mem) (id : Nat) : Mem := ⟨σ.next, σ.ty, fun i => if i = id then none else σ.get i⟩
def Mem.empty : Mem := ⟨0, fun _ => 0, fun _ => none⟩

abbrev Fr := Nat → AV
def upd (f : Fr) (k : Nat) (x : AV) : Fr := fun j => if j = k then x else f j
def putA (f : Fr) : Option Tmp → AV → Fr
  | some d, x => upd f d x
  | none, _ => f
def dstOk (N : Nat) : Option Tmp → Bool
  | some d => decide (d < N)
  | none => true

/-! ### Types, as far as the rules want them -/
def strTy (P : Program) (t : TypeId) : Bool := match P.underlying t with | some .string => true | _ => false
def intTy (P : Program) (t : TypeId) : Option IntKind := match P.underlying t with | some (.int k) => some k | _ => none
def boolTy (P : Program) (t : TypeId) : Bool := match P.underlying t with | some .bool => true | _ => false
def sliceTy (P : Program) (t : TypeId) : Option (TypeId × Nat × Nat) := match P.underlying t with | some (.slice e) => (P.info? e).map fun i => (e, i.size, i.bytes) | _ => none
def aggTy (P : Program) (t : TypeId) : Option Bool := (P.underlying t).map fun | .struct _ | .array _ _ => true | _ => false
def sizeTy (P : Program) (t : TypeId) : Option Nat := (P.info? t).map (·.size)
def fieldTy (P : Program) (t : TypeId) (i : Nat) : Option (Nat × Nat × TypeId) :=
  match P.underlying t with
  | some (.struct fs) => (fs[i]?).bind fun f => (P.info? f.type).bind fun j => if j.size = 0 then none else some (f.offset, j.size, f.type)
  | _ => none
/-- Where the parts of a struct or an array lie, and how many cells each has. -/
def placesTy (P : Program) (t : TypeId) : Option (List (Nat × Nat)) :=
  match P.underlying t with
  | some (.struct fs) => fs.toList.mapM fun f => (P.info? f.type).map fun i => (f.offset, i.size)
  | some (.array n e) => (P.info? e).map fun i => (List.range n).map fun k => (k * i.size, i.size)
  | _ => none
/-- An array type: length, element type, an element's cells. -/
def arrayTy (P : Program) (t : TypeId) : Option (Nat × TypeId × Nat) := match P.underlying t with | some (.array n e) => (P.info? e).map fun i => (n, e, i.size) | _ => none

/-! ### Values of the model, by content -/
def cellA : Value → AV
  | .slice none n c => if n = 0 ∧ c = 0 then .nils else .lit (.slice none n c)
  | .func (.func f) a c => if a.toList = [] ∧ c.toList = [] then .fn f [] else .lit (.func (.func f) a c)
  | v => .lit v
def constA : Value → AV
  | .agg vs => if vs.toList.all Value.oneCell' then .agg (vs.toList.map cellA) else .lit (.agg vs)
  | .tuple vs => if vs.toList = [] then .tup [] else .lit (.tuple vs)
  | v => cellA v
def zeroTy (P : Program) (t : TypeId) : Option (List AV) :=
  (P.info? t).bind fun i => i.zero.bind fun v => if v.cells.toList.all Value.oneCell' then some (v.cells.toList.map cellA) else none

def evalA (fr : Fr) : Operand → AV
  | .tmp t => fr t
  | .const v => constA v
  | .global g => .lit (.pointer (some ⟨g, 0, none⟩))
  | .func f => .fn f []

def cellsA : AV → Option (List AV)
  | .agg cs => some cs
  | .tup _ => none
  | .lit v => if v.oneCell' then some [.lit v] else none
  | x => some [x]

def spliceA (cs : List AV) (off : Nat) (new : List AV) : List AV := cs.take off ++ new ++ cs.drop (off + new.length)

/-- What a load of type t reads off the cells from the address on. -/
def readA (P : Program) (t : TypeId) (cs : List AV) : Option AV :=
  match aggTy P t, sizeTy P t with
  | some true, some n => if n ≤ cs.length then some (.agg (cs.take n)) else none
  | some false, _ => cs.head?
  | _, _ => none

def atPtr (σ : Mem) : AV → Option (List AV)
  | .ptr id off => (σ.get id).bind fun cs => if off < cs.length then some (cs.drop off) else none
  | .iptr cs => some cs
  | _ => none

inductive NextA where
  | ok (x : AV) (σ : Mem)
  | call (f : FuncId) (args : List AV)
  | fail

def NextA.val (σ : Mem) : Option AV → NextA
  | some x => .ok x σ
  | none => .fail

/-! ### Operations -/
/-- '&', '|', '^', '&^' on a kind's bits. -/
def bitI (op : BinOp) (k : IntKind) (a b : Int) : Int :=
  match op with
  | .and => k.wrap ((BitVec.ofInt k.bits a &&& BitVec.ofInt k.bits b).toNat : Int)
  | .or => k.wrap ((BitVec.ofInt k.bits a ||| BitVec.ofInt k.bits b).toNat : Int)
  | .xor => k.wrap ((BitVec.ofInt k.bits a ^^^ BitVec.ofInt k.bits b).toNat : Int)
  | _ => k.wrap ((BitVec.ofInt k.bits a &&& ~~~ BitVec.ofInt k.bits b).toNat : Int)
def shlI (k : IntKind) (a b : Int) : Int := k.wrap (a * 2 ^ (min b.toNat k.bits))
def shrI (k : IntKind) (a b : Int) : Int := a.fdiv (2 ^ (min b.toNat k.bits))
def shiftBin (op : BinOp) (k : IntKind) (a b : Int) : Option AV :=
  match op with
  | .shl => if b < 0 then none else some (.lit (.int k (shlI k a b)))
  | .shr => if b < 0 then none else some (.lit (.int k (shrI k a b)))
  | _ => none
def intBin (op : BinOp) (k : IntKind) (a b : Int) : Option AV :=
  match op with
  | .add => some (.lit (.int k (k.wrap (a + b))))
  | .sub => some (.lit (.int k (k.wrap (a - b))))
  | .mul => some (.lit (.int k (k.wrap (a * b))))
  | .quo => if b = 0 then none else some (.lit (.int k (k.wrap (a.tdiv b))))
  | .rem => if b = 0 then none else some (.lit (.int k (a.tmod b)))
  | .eql => some (.lit (.bool (a == b)))
  | .neq => some (.lit (.bool (a != b)))
  | .lss => some (.lit (.bool (decide (a < b))))
  | .leq => some (.lit (.bool (decide (a ≤ b))))
  | .gtr => some (.lit (.bool (decide (b < a))))
  | .geq => some (.lit (.bool (decide (b ≤ a))))
  | .and => some (.lit (.int k (bitI .and k a b)))
  | .or => some (.lit (.int k (bitI .or k a b)))
  | .xor => some (.lit (.int k (bitI .xor k a b)))
  | .andNot => some (.lit (.int k (bitI .andNot k a b)))
  | .shl => shiftBin .shl k a b
  | .shr => shiftBin .shr k a b

def strBin (op : BinOp) (a b : List UInt8) : Option AV :=
  match op with
  | .add => if a.length + b.length ≤ 9223372036854775807 then some (.str (a ++ b)) else none
  | .eql => some (.lit (.bool (a == b)))
  | .neq => some (.lit (.bool (a != b)))
  | .lss => some (.lit (.bool (Op.bytesLess a b)))
  | _ => none

/-- '==' of two one-cell values of kinds that we know. -/
def eqCell : AV → AV → Option Bool
  | .lit (.int k a), .lit (.int k' b) => if k = k' then some (a == b) else none
  | .lit (.bool a), .lit (.bool b) => some (a == b)
  | .lit (.string a), .lit (.string b) => some (a.data.toList == b.data.toList)
  | _, _ => none
/-- '==' of two structs, cell by cell. -/
def eqCells : List AV → List AV → Option Bool
  | [], [] => some true
  | x :: xs, y :: ys => (eqCell x y).bind fun a => (eqCells xs ys).map fun b => a && b
  | _, _ => none
/-- A struct type of one-cell fields of int, bool, string, in order, none blank. -/
def plainTy (P : Program) (t : TypeId) : Option (List TypeId) :=
  match P.underlying t with
  | some (.struct fs) =>
    if fs.toList.zipIdx.all (fun (f, i) => f.offset == i && f.name != "_" && (P.info? f.type).any (fun j => j.size == 1) && (P.underlying f.type).any (fun | .int _ | .bool | .string => true | _ => false)) && !P.stoodInHeld t && !P.eqGuardType P.depth t
    then some (fs.toList.map (·.type)) else none
  | _ => none
/-- A one-cell value fits a type of '==' that we know. -/
def cellFits (P : Program) (t : TypeId) : AV → Bool
  | .lit (.int _ _) => (intTy P t).isSome
  | .lit (.bool _) => boolTy P t
  | .lit (.string _) => strTy P t
  | _ => false

def nilEq : AV → AV → Option Bool
  | .nils, .nils => some true
  | .imm n _, .nils => if 0 < n then some false else none
  | .nils, .imm n _ => if 0 < n then some false else none
  | .arr .., .nils => some false
  | .nils, .arr .. => some false
  | .lit (.slice (some _) _ _), .nils => some false
  | .lit (.slice none _ _), .nils => some true
  | _, _ => none

def binA (P : Program) (op : BinOp) (t : TypeId) : AV → AV → Option AV
  | .lit (.int k a), .lit (.int k' b) => if k = k' then intBin op k a b else shiftBin op k a b
  | .lit (.string a), .lit (.string b) => strBin op a.data.toList b.data.toList
  | .lit (.bool a), .lit (.bool b) => if boolTy P t then (match op with | .eql => some (.lit (.bool (a == b))) | .neq => some (.lit (.bool (a != b))) | _ => none) else none
  | .agg xs, .agg ys =>
    match plainTy P t with
    | some ts => if xs.length = ts.length ∧ ys.length = ts.length ∧ (ts.zip xs).all (fun (u, x) => cellFits P u x) ∧ (ts.zip ys).all (fun (u, x) => cellFits P u x) then
        (match op with | .eql => (eqCells xs ys).map fun b => .lit (.bool b) | .neq => (eqCells xs ys).map fun b => .lit (.bool (!b)) | _ => none) else none
    | none => none
  | x, y =>
    match sliceTy P t with
    | some _ => (match op with | .eql => (nilEq x y).map fun b => .lit (.bool b) | .neq => (nilEq x y).map fun b => .lit (.bool (!b)) | _ => none)
    | none => none

def unA (op : UnOp) : AV → Option AV
  | .lit (.int k n) => (match op with | .neg => some (.lit (.int k (k.wrap (0 - n)))) | _ => none)
  | .lit (.bool b) => (match op with | .not => some (.lit (.bool (!b))) | _ => none)
  | _ => none

def convA (P : Program) (src dst : TypeId) : AV → Option AV
  | .lit (.int _ n) => (match P.underlying src, intTy P dst with | some _, some k => some (.lit (.int k (k.wrap n))) | _, _ => none)
  | .lit (.string s) => if strTy P src ∧ strTy P dst then some (.lit (.string s)) else none
  | _ => none

/-- The elements of a slice: how many, and their cells. -/
def itemsA (σ : Mem) (sz : Nat) : AV → Option (Nat × List AV)
  | .nils => some (0, [])
  | .imm n cs => if cs.length = n * sz then some (n, cs) else none
  | .lit (.slice _ 0 _) => some (0, [])
  | .arr id off n sz' => (σ.get id).bind fun cs => if sz' = sz ∧ off + n * sz ≤ cs.length then some (n, (cs.drop off).take (n * sz)) else none
  | _ => none

def appendA (P : Program) (σ : Mem) (t : TypeId) (s x : AV) : NextA :=
  match sliceTy P t with
  | some (e, sz, bytes) =>
    (match zeroTy P e, itemsA σ sz x with
     | some z, some (m, new) =>
       if z.length = sz then
         (match s with
          | .nils => if m = 0 then .ok .nils σ else if m ≤ 9223372036854775807 ∧ m * bytes ≤ 140737488355328 then .ok (.arr σ.next 0 m sz) (σ.alloc e new) else .fail
          | .arr id off n sz' =>
            (match σ.get id with
             | some cs => if off = 0 ∧ sz' = sz ∧ σ.ty id = e ∧ n * sz ≤ cs.length ∧ n + m ≤ 9223372036854775807 ∧ (n + m) * bytes ≤ 140737488355328 then .ok (.arr σ.next 0 (n + m) sz) ((σ.kill id).alloc e (cs.take (n * sz) ++ new)) else .fail
             | none => .fail)
          | _ => .fail)
       else .fail
     | _, _ => .fail)
  | none => .fail

/-- A string's bytes as values. -/
def bytesA (l : List UInt8) : List AV := l.map fun b => .u8 b.toNat
/-- 'append' of a string to a slice of bytes. -/
def appendStrA (P : Program) (σ : Mem) (t u : TypeId) (s x : AV) : NextA :=
  match sliceTy P t, x with
  | some (e, sz, bytes), .lit (.string b) =>
    (match zeroTy P e with
     | some z =>
       if strTy P u = true ∧ sz = 1 ∧ bytes = 1 ∧ z.length = 1 then
         (match s with
          | .nils => if b.data.toList = [] then .ok .nils σ else if b.data.toList.length ≤ 140737488355328 then .ok (.arr σ.next 0 b.data.toList.length 1) (σ.alloc e (bytesA b.data.toList)) else .fail
          | .arr id off n sz' =>
            (match σ.get id with
             | some cs => if off = 0 ∧ sz' = 1 ∧ σ.ty id = e ∧ n ≤ cs.length ∧ n + b.data.toList.length ≤ 140737488355328 then .ok (.arr σ.next 0 (n + b.data.toList.length) 1) ((σ.kill id).alloc e (cs.take n ++ bytesA b.data.toList)) else .fail
             | none => .fail)
          | _ => .fail)
       else .fail
     | none => .fail)
  | _, _ => .fail

/-- 'copy' onto a slice of the call's own; elements of one cell; at least one is copied. -/
def copyA (P : Program) (σ : Mem) (t : TypeId) (d s : AV) : NextA :=
  match sliceTy P t with
  | some (_, sz, _) =>
    (match itemsA σ sz s with
     | some (m, new) =>
       (match d with
        | .arr id off n sz' =>
          (match σ.get id with
           | some cs => if sz = 1 ∧ sz' = 1 ∧ off + n ≤ cs.length ∧ 0 < m ∧ 0 < n then .ok (.int (min m n : Nat)) (σ.set id (spliceA cs off (new.take (min m n)))) else .fail
           | none => .fail)
        | _ => .fail)
     | none => .fail)
  | none => .fail

def lenA (P : Program) (t : TypeId) : AV → Option AV
  | .lit (.string s) => if strTy P t then some (.int s.data.toList.length) else none
  | .nils => (sliceTy P t).map fun _ => .int (0 : Nat)
  | .imm n _ => (sliceTy P t).map fun _ => .int n
  | .arr _ _ n _ => (sliceTy P t).map fun _ => .int n
  | _ => none

def intOfA : AV → Option Int
  | .lit (.int _ n) => some n
  | _ => none

/-- A bound of a slice expression: none: the given default. -/
def boundA (d : Int) : Option AV → Option Int
  | none => some d
  | some x => intOfA x

def sliceA (P : Program) (t : TypeId) (x : AV) (lo hi : Option AV) : Option AV :=
  match x with
  | .lit (.string s) =>
    (match boundA 0 lo, boundA s.data.toList.length hi with
     | some l, some h => if strTy P t ∧ 0 ≤ l ∧ l ≤ h ∧ h ≤ s.data.toList.length then some (.str ((s.data.toList.drop l.toNat).take (h.toNat - l.toNat))) else none
     | _, _ => none)
  | .nils =>
    (match sliceTy P t, boundA 0 lo, boundA 0 hi with
     | some _, some l, some h => if l = 0 ∧ h = 0 then some .nils else none
     | _, _, _ => none)
  | .imm n cs =>
    (match sliceTy P t, boundA 0 lo, boundA n hi with
     | some (_, sz, _), some l, some h => if 0 ≤ l ∧ l ≤ h ∧ h ≤ n then some (.imm (h.toNat - l.toNat) ((cs.drop (l.toNat * sz)).take ((h.toNat - l.toNat) * sz))) else none
     | _, _, _ => none)
  | .arr id off n sz' =>
    (match sliceTy P t, boundA 0 lo, boundA n hi with
     | some (_, sz, _), some l, some h =>
       if sz' = sz ∧ 0 ≤ l ∧ l ≤ h ∧ h ≤ n then
         (if l = 0 then some (.arr id off h.toNat sz) else if l < n then some (.arr id (off + l.toNat * sz) (h.toNat - l.toNat) sz) else some (.imm 0 []))
       else none
     | _, _, _ => none)
  | _ => none

def indexAddrA (P : Program) (t : TypeId) (x i : AV) : Option AV :=
  match intOfA i with
  | none => none
  | some i =>
    match sliceTy P t with
    | some (_, sz, _) =>
      (match x with
       | .imm n cs => if 0 ≤ i ∧ i < n then some (.iptr (cs.drop (i.toNat * sz))) else none
       | .arr id off n sz' => if sz' = sz ∧ 0 ≤ i ∧ i < n then some (.ptr id (off + i.toNat * sz)) else none
       | _ => none)
    | none =>
      match arrayTy P t with
      | some (n, _, sz) =>
        (match x with
         | .ptr id off => if 0 ≤ i ∧ i < n then some (.ptr id (off + i.toNat * sz)) else none
         | .iptr cs => if 0 ≤ i ∧ i < n then some (.iptr (cs.drop (i.toNat * sz))) else none
         | _ => none)
      | none => none

def indexA (P : Program) (t : TypeId) (x i : AV) : Option AV :=
  match x, intOfA i with
  | .lit (.string s), some i => if strTy P t ∧ 0 ≤ i ∧ i < s.data.toList.length then some (.u8 (s.data.toList.getD i.toNat 0).toNat) else none
  | .agg cs, some i =>
    (match arrayTy P t with
     | some (n, e, sz) => if 0 ≤ i ∧ i < n then readA P e (cs.drop (i.toNat * sz)) else none
     | none => none)
  | _, _ => none

def fieldAddrA (P : Program) (t : TypeId) (x : AV) (i : Nat) : Option AV :=
  match fieldTy P t i with
  | some (off, _, _) => (match x with | .ptr id o => some (.ptr id (o + off)) | .iptr cs => some (.iptr (cs.drop off)) | _ => none)
  | none => none

def fieldA (P : Program) (t : TypeId) (x : AV) (i : Nat) : Option AV :=
  match fieldTy P t i, x with
  | some (off, _, u), .agg cs => readA P u (cs.drop off)
  | _, _ => none

def fillA (place : Nat → Option (Nat × Nat)) (cells : List AV) : List (Nat × AV) → Option (List AV)
  | [] => some cells
  | (i, x) :: rest =>
    match place i, cellsA x with
    | some (off, size), some new => if new.length = size ∧ off + size ≤ cells.length then fillA place (spliceA cells off new) rest else none
    | _, _ => none

def buildA (P : Program) (t : TypeId) (parts : List (Nat × AV)) : Option AV :=
  match zeroTy P t, placesTy P t with
  | some z, some pl => (fillA (fun i => pl[i]?) z parts).map .agg
  | _, _ => none

def zerosA (z : List AV) : Nat → List AV
  | 0 => []
  | n + 1 => z ++ zerosA z n

def buildSliceA (P : Program) (σ : Mem) (t : TypeId) (len : Nat) (parts : List (Nat × AV)) : NextA :=
  match sliceTy P t with
  | some (e, sz, _) =>
    (match zeroTy P e with
     | some z =>
       if z.length = sz ∧ len * sz ≤ 16777216 ∧ len ≤ 16777216 then
         (match fillA (fun i => some (i * sz, sz)) (zerosA z len) parts with
          | some cells => .ok (.arr σ.next 0 len sz) (σ.alloc e cells)
          | none => .fail)
       else .fail
     | none => .fail)
  | none => .fail

def makeSliceA (P : Program) (σ : Mem) (t : TypeId) (l c : AV) : NextA :=
  match sliceTy P t with
  | some (e, sz, bytes) =>
    (match zeroTy P e, intOfA l, intOfA c with
     | some z, some l, some c =>
       if z.length = sz ∧ 0 < sz ∧ 0 ≤ l ∧ l ≤ c ∧ c ≤ 9223372036854775807 ∧ (bytes : Int) * c ≤ 281474976710656 then .ok (.arr σ.next 0 l.toNat sz) (σ.alloc e (zerosA z l.toNat)) else .fail
     | _, _, _ => .fail)
  | none => .fail

def storeA (P : Program) (σ : Mem) (t : TypeId) (a x : AV) : NextA :=
  match a, cellsA x with
  | .ptr id off, some new =>
    (match σ.get id with
     | some cs => if sizeTy P t = some new.length ∧ off + new.length ≤ cs.length then .ok .undef (σ.set id (spliceA cs off new)) else .fail
     | none => .fail)
  | _, _ => .fail

def nilCheckA : AV → Option AV
  | .ptr id off => some (.ptr id off)
  | .iptr cs => some (.iptr cs)
  | .fn f caps => some (.fn f caps)
  | _ => none

def extractA : AV → Nat → Option AV
  | .tup vs, i => vs[i]?
  | _, _ => none

def pickA : AV → AV → AV → Option AV
  | .lit (.bool c), a, b => some (if c then a else b)
  | _, _, _ => none

def maxA : AV → AV → Option AV
  | .lit (.int k a), .lit (.int k' b) => if k = k' then some (.lit (.int k (max a b))) else none
  | _, _ => none
def minA : AV → AV → Option AV
  | .lit (.int k a), .lit (.int k' b) => if k = k' then some (.lit (.int k (min a b))) else none
  | _, _ => none

/-- What one operation comes to. -/
def evOp (P : Program) (o : Op) (ρ : Operand → AV) (σ : Mem) : NextA :=
  match o with
  | .move x => .ok (ρ x) σ
  | .assign x => .ok (ρ x) σ
  | .pick c a b => .val σ (pickA (ρ c) (ρ a) (ρ b))
  | .alloc t => (match zeroTy P t with | some z => .ok (.ptr σ.next 0) (σ.alloc t z) | none => .fail)
  | .box t x => (match cellsA (ρ x) with | some cs => .ok (.ptr σ.next 0) (σ.alloc t cs) | none => .fail)
  | .build t parts => .val σ (buildA P t (parts.toList.map fun (i, x) => (i, ρ x)))
  | .buildSlice t len parts => buildSliceA P σ t len (parts.toList.map fun (i, x) => (i, ρ x))
  | .load t a => .val σ ((atPtr σ (ρ a)).bind (readA P t))
  | .store t a x => storeA P σ t (ρ a) (ρ x)
  | .nilCheck x => .val σ (nilCheckA (ρ x))
  | .binOp op t x y _ => .val σ (binA P op t (ρ x) (ρ y))
  | .unOp op _ x => .val σ (unA op (ρ x))
  | .convert s d x => .val σ (convA P s d (ρ x))
  | .makeFunc (.func f) first captured => if first.size = 0 then .ok (.fn f (captured.toList.map ρ)) σ else .fail
  | .makeSlice t l c => makeSliceA P σ t (ρ l) (ρ c)
  | .slice t x lo hi none => .val σ (sliceA P t (ρ x) (lo.map ρ) (hi.map ρ))
  | .fieldAddr t x i => .val σ (fieldAddrA P t (ρ x) i)
  | .field t x i => .val σ (fieldA P t (ρ x) i)
  | .indexAddr t x i => .val σ (indexAddrA P t (ρ x) (ρ i))
  | .index t x i => .val σ (indexA P t (ρ x) (ρ i))
  | .extract x i => .val σ (extractA (ρ x) i)
  | .call c =>
    (match c.callee with
     | .value f => (match ρ f with | .fn g caps => .call g (c.args.toList.map ρ ++ caps) | _ => .fail)
     | .builtin .len => (match c.args.toList, c.argTypes.toList with | [x], t :: _ => .val σ (lenA P t (ρ x)) | _, _ => .fail)
     | .builtin .append => (match c.args.toList, c.argTypes.toList with | [s, x], [t, u] => if t = u then appendA P σ t (ρ s) (ρ x) else appendStrA P σ t u (ρ s) (ρ x) | _, _ => .fail)
     | .builtin .copy => (match c.args.toList, c.argTypes.toList with | [d, s], [t, _] => copyA P σ t (ρ d) (ρ s) | _, _ => .fail)
     | .builtin .max => (match c.args.toList with | [x, y] => .val σ (maxA (ρ x) (ρ y)) | _ => .fail)
     | .builtin .min => (match c.args.toList with | [x, y] => .val σ (minA (ρ x) (ρ y)) | _ => .fail)
     | _ => .fail)
  | _ => .fail

/-- Operations that read alone. -/
def quietOp : Op → Bool
  | .move _ | .assign _ | .pick .. | .build .. | .load .. | .nilCheck _ | .unOp .. | .convert .. | .slice .. | .fieldAddr .. | .field .. | .indexAddr .. | .index .. | .extract .. | .binOp .. => true
  | .makeFunc .. => true
  | .call { callee := .builtin .len, .. } | .call { callee := .builtin .max, .. } | .call { callee := .builtin .min, .. } => true
  | _ => false

/-! ### Guards -/
inductive GuardA where
  | run | skip
  | test (x b : Bool)
  | fail
def guardA (all : Array Oper) (o : Oper) (fr : Fr) : GuardA :=
  match o.guard with
  | none => .run
  | some (j, b) =>
    match (all[j]?).bind (·.dst) with
    | none => .skip
    | some t => match fr t with
      | .lit (.bool x) => .test x b
      | .tup [] => .skip
      | _ => .fail

/-! ### The stack of what is to be done -/
inductive Itm where
  | code (c : Code)
  | blk (id : Nat)
  | goal (K : Fr → Mem → Prop)
  | ops (q : Bool) (l : List Oper) (all : Array Oper)
  | run (q : Bool) (o : Oper) (l : List Oper) (all : Array Oper)

def dropTo (id : Nat) : List Itm → Option (List Itm)
  | [] => none
  | .blk id' :: k => if id' = id then some k else dropTo id k
  | _ :: k => dropTo id k

/-! ### How values and memory by content stand to the model's -/
inductive Rv (φ : Nat → Nat) (n : Nat) (L : Nat → Prop) (w : World) : AV → Value → Prop
  | lit (v : Value) : Rv φ n L w (.lit v) v
  | nils : Rv φ n L w .nils (.slice none 0 0)
  | imm0 (A : Option Addr) (c : Nat) : c ≤ maxLen → Rv φ n L w (.imm 0 []) (.slice A 0 c)
  | imm (m : Nat) (cs : List AV) (ad : Addr) (c : Nat) (vs : Nat → Value) : (∀ j, j < cs.length → w.cell? (ad.add j) = some (vs j) ∧ (vs j).oneCell' = true) → (∀ (j : Nat) (x : AV), cs[j]? = some x → Rv φ n L w x (vs j)) →
      ¬ L ad.block → ad.block < w.heap.size → m ≤ c → c ≤ maxLen → Rv φ n L w (.imm m cs) (.slice (some ad) m c)
  | arr (id off m sz c : Nat) : id < n → m ≤ c → c ≤ maxLen → (∃ cur e fz, w.heap[φ id]? = some (.cells cur e fz) ∧ off + c * sz ≤ cur.size) → Rv φ n L w (.arr id off m sz) (.slice (some ⟨φ id, off, none⟩) m c)
  | ptr (id off : Nat) : id < n → Rv φ n L w (.ptr id off) (.pointer (some ⟨φ id, off, none⟩))
  | iptr (cs : List AV) (ad : Addr) (vs : Nat → Value) : (∀ j, j < cs.length → w.cell? (ad.add j) = some (vs j) ∧ (vs j).oneCell' = true) → (∀ (j : Nat) (x : AV), cs[j]? = some x → Rv φ n L w x (vs j)) →
      ¬ L ad.block → ad.block < w.heap.size → Rv φ n L w (.iptr cs) (.pointer (some ad))
  | fn (f : FuncId) (xs : List AV) (vs : List Value) : xs.length = vs.length → (∀ (j : Nat) (x : AV) (v : Value), xs[j]? = some x → vs[j]? = some v → Rv φ n L w x v) → Rv φ n L w (.fn f xs) (.func (.func f) #[] vs.toArray)
  | agg (xs : List AV) (vs : List Value) : xs.length = vs.length → (∀ (j : Nat) (x : AV) (v : Value), xs[j]? = some x → vs[j]? = some v → Rv φ n L w x v) → (∀ v ∈ vs, v.oneCell' = true) → Rv φ n L w (.agg xs) (.agg vs.toArray)
  | tup (xs : List AV) (vs : List Value) : xs.length = vs.length → (∀ (j : Nat) (x : AV) (v : Value), xs[j]? = some x → vs[j]? = some v → Rv φ n L w x v) → Rv φ n L w (.tup xs) (.tuple vs.toArray)

/-- The blocks of the call's own objects. -/
def Live (φ : Nat → Nat) (σ : Mem) (b : Nat) : Prop := ∃ id, (σ.get id).isSome = true ∧ φ id = b

abbrev RvM (φ : Nat → Nat) (σ : Mem) (w : World) : AV → Value → Prop := Rv φ σ.next (Live φ σ) w

/-- A list of values by content, and one of the model's. -/
def RvL (φ : Nat → Nat) (σ : Mem) (w : World) (xs : List AV) (vs : List Value) : Prop := xs.length = vs.length ∧ ∀ (j : Nat) (x : AV) (v : Value), xs[j]? = some x → vs[j]? = some v → RvM φ σ w x v

structure RelM (φ : Nat → Nat) (σ : Mem) (w : World) : Prop where
  live : ∀ id cs, σ.get id = some cs → id < σ.next
  cell : ∀ id cs, σ.get id = some cs → ∃ cur, w.heap[φ id]? = some (.cells cur (σ.ty id) (0, 0)) ∧ cs.length ≤ cur.size ∧ ∀ (j : Nat) (x : AV), cs[j]? = some x → ∃ v, cur[j]? = some v ∧ v.oneCell' = true ∧ RvM φ σ w x v
  inj : ∀ i j, (σ.get i).isSome = true → (σ.get j).isSome = true → φ i = φ j → i = j

def RelF (φ : Nat → Nat) (σ : Mem) (w : World) (fr : Fr) (tmps : Array Value) : Prop := ∀ k, RvM φ σ w (fr k) (tmps.getD k Go.undef)

/-- From one state to a later one: what is not the call's own stays. -/
structure Step (φ : Nat → Nat) (σ : Mem) (w : World) (φ' : Nat → Nat) (σ' : Mem) (w' : World) : Prop where
  next : σ.next ≤ σ'.next
  phi : ∀ id, id < σ.next → φ' id = φ id
  fresh : ∀ b, Live φ' σ' b → Live φ σ b ∨ w.heap.size ≤ b
  size : w.heap.size ≤ w'.heap.size
  same : ∀ b, b < w.heap.size → ¬ Live φ σ b → w'.heap[b]? = w.heap[b]?
  shape : ∀ (b : Nat) (cur : Array Value) (e : TypeId) (fz : Nat × Nat), w.heap[b]? = some (.cells cur e fz) → ∃ cur' fz', w'.heap[b]? = some (.cells cur' e fz') ∧ cur'.size = cur.size
  os : w'.os = w.os
  tape : w'.tape = w.tape
  output : w'.output = w.output

/-- A function that can be called: it has a body. -/
def Callable (P : Program) (f : FuncId) : Prop := ∃ fn, P.funcs[f]? = some fn ∧ fn.body.isSome = true ∧ (fn.name == "runtime.NumGoroutine") = false

/-- THE CONTRACT of a call: with these arguments, in this memory, it returns, and R holds of the result and of the memory then. -/
def CallA (P : Program) (f : FuncId) (args : List AV) (σ : Mem) (R : AV → Mem → Prop) : Prop :=
  Callable P f ∧ ∀ φ w vs, RelM φ σ w → RvL φ σ w args vs → Calls P f vs.toArray w fun e w' => ∃ v x φ' σ', e = .returned v ∧ RelM φ' σ' w' ∧ RvM φ' σ' w' x v ∧ Step φ σ w φ' σ' w' ∧ R x σ'

/-- Values that determine the model's value. -/
def rigidA : AV → Bool
  | .lit _ => true
  | .nils => true
  | .agg xs => xs.all fun | .lit _ => true | .nils => true | _ => false
  | .tup xs => xs.all fun | .lit _ => true | .nils => true | _ => false
  | _ => false

/-- THE RULES. -/
inductive EW (P : Program) (N : Nat) (Q : Fr → Mem → Prop) : List Itm → Fr → Mem → Prop
  | nil {fr σ} : Q fr σ → EW P N Q [] fr σ
  | goal {K k fr σ} : K fr σ → EW P N Q (.goal K :: k) fr σ
  | blk {id k fr σ} : EW P N Q k fr σ → EW P N Q (.blk id :: k) fr σ
  | skip {k fr σ} : EW P N Q k fr σ → EW P N Q (.code .skip :: k) fr σ
  | seq {a b k fr σ} : EW P N Q (.code a :: .code b :: k) fr σ → EW P N Q (.code (.seq a b) :: k) fr σ
  | cond {c a b k fr σ} (t : Bool) : evalA fr c = .lit (.bool t) → (t = true → EW P N Q (.code a :: k) fr σ) → (t = false → EW P N Q (.code b :: k) fr σ) → EW P N Q (.code (.cond c a b) :: k) fr σ
  | block {id c k fr σ} : EW P N Q (.code c :: .blk id :: k) fr σ → EW P N Q (.code (.block id c) :: k) fr σ
  | loop {c k fr σ} (I : Nat → Fr → Mem → Prop) (n : Nat) : I n fr σ → (∀ n fr σ, I n fr σ → EW P N Q (.code c :: .goal (fun fr' σ' => ∃ m, m < n ∧ I m fr' σ') :: k) fr σ) → EW P N Q (.code (.loop c) :: k) fr σ
  | exit {id k k' fr σ} : dropTo id k = some k' → EW P N Q k' fr σ → EW P N Q (.code (.exit id) :: k) fr σ
  | ret {k fr σ} : Q fr σ → EW P N Q (.code .ret :: k) fr σ
  | region {id ops k fr σ} : EW P N Q (.ops false ops.toList ops :: k) fr σ → EW P N Q (.code (.region id ops false) :: k) fr σ
  | regionD {id ops k fr σ} : P.follows .mixedOrders = true → Region.lexB .any ops = true → EW P N Q (.ops true ops.toList ops :: k) fr σ → EW P N Q (.code (.region id ops true) :: k) fr σ
  | raw {id ops k fr σ} (K : Fr → Mem → Prop) :
      (∀ (φ : Nat → Nat) (w : World) (a : Act), RelM φ σ w → RelF φ σ w fr a.tmps → a.defers = [] → a.tmps.size = N →
        (Code.region id ops true).wp P (fun e a' w' => e = .normal ∧ ∃ φ' σ' fr', RelM φ' σ' w' ∧ RelF φ' σ' w' fr' a'.tmps ∧ a'.defers = [] ∧ a'.tmps.size = N ∧ Step φ σ w φ' σ' w' ∧ K fr' σ') a w) →
      (∀ fr' σ', K fr' σ' → EW P N Q k fr' σ') → EW P N Q (.code (.region id ops true) :: k) fr σ
  | opsNil {q all k fr σ} : EW P N Q k fr σ → EW P N Q (.ops q [] all :: k) fr σ
  | opsRun {q o l all k fr σ} : guardA all o fr = .run → EW P N Q (.run q o l all :: k) fr σ → EW P N Q (.ops q (o :: l) all :: k) fr σ
  | opsSkip {q o l all k fr σ} : guardA all o fr = .skip → dstOk N o.dst = true → EW P N Q (.ops q l all :: k) (putA fr o.dst .undef) σ → EW P N Q (.ops q (o :: l) all :: k) fr σ
  | opsTest {q o l all k fr σ} (x b : Bool) : guardA all o fr = .test x b → dstOk N o.dst = true → (x = b → EW P N Q (.run q o l all :: k) fr σ) → (x ≠ b → EW P N Q (.ops q l all :: k) (putA fr o.dst .undef) σ) → EW P N Q (.ops q (o :: l) all :: k) fr σ
  | op {q o l all k fr σ} (x : AV) (σ' : Mem) : evOp P o.op (evalA fr) σ = .ok x σ' → dstOk N o.dst = true → (q = true → quietOp o.op = true) → EW P N Q (.ops q l all :: k) (putA fr o.dst x) σ' → EW P N Q (.run q o l all :: k) fr σ
  | call {o l all k fr σ} (f : FuncId) (args : List AV) (R : AV → Mem → Prop) : evOp P o.op (evalA fr) σ = .call f args → dstOk N o.dst = true → CallA P f args σ R → (∀ x σ', R x σ' → EW P N Q (.ops false l all :: k) (putA fr o.dst x) σ') →
      EW P N Q (.run false o l all :: k) fr σ
  | qcall {o l all k fr σ} (f : FuncId) (args : List AV) (D : AV) : evOp P o.op (evalA fr) σ = .call f args → dstOk N o.dst = true → (∀ σ, CallA P f args σ fun x σ' => x = D ∧ σ' = σ) → rigidA D = true → EW P N Q (.ops true l all :: k) (putA fr o.dst D) σ →
      EW P N Q (.run true o l all :: k) fr σ

end Go.Ew
namespace Go.Ew
open Go Go.RowKit

section
variable {φ φ' φ'' : Nat → Nat} {σ σ' σ'' : Mem} {w w' w'' : World}

theorem block_add (a : Addr) (n : Nat) : (a.add n).block = a.block := by unfold Addr.add; split <;> rfl
theorem add_add (a : Addr) (i j : Nat) : (a.add i).add j = a.add (i + j) := by
  unfold Addr.add
  by_cases hi : i = 0 <;> by_cases hj : j = 0 <;> simp [hi, hj, Nat.add_assoc]

theorem Step.refl (φ : Nat → Nat) (σ : Mem) (w : World) : Step φ σ w φ σ w :=
  ⟨Nat.le_refl _, fun _ _ => rfl, fun _ h => .inl h, Nat.le_refl _, fun _ _ _ => rfl, fun _ cur _ fz h => ⟨cur, fz, h, rfl⟩, rfl, rfl, rfl⟩

theorem Step.trans (h : Step φ σ w φ' σ' w') (k : Step φ' σ' w' φ'' σ'' w'') : Step φ σ w φ'' σ'' w'' where
  next := Nat.le_trans h.next k.next
  phi := fun id hid => (k.phi id (Nat.lt_of_lt_of_le hid h.next)).trans (h.phi id hid)
  fresh := fun b hb => by
    rcases k.fresh b hb with h1 | h1
    · exact h.fresh b h1
    · exact .inr (Nat.le_trans h.size h1)
  size := Nat.le_trans h.size k.size
  same := fun b hb hl => by
    have hl' : ¬ Live φ' σ' b := fun hx => by
      rcases h.fresh b hx with h1 | h1
      · exact hl h1
      · omega
    exact (k.same b (Nat.lt_of_lt_of_le hb h.size) hl').trans (h.same b hb hl)
  shape := fun b cur e fz hb => by
    obtain ⟨cur', fz', h1, h2⟩ := h.shape b cur e fz hb
    obtain ⟨cur'', fz'', h3, h4⟩ := k.shape b cur' e fz' h1
    exact ⟨cur'', fz'', h3, h4.trans h2⟩
  os := k.os.trans h.os
  tape := k.tape.trans h.tape
  output := k.output.trans h.output

theorem Rv.step (s : Step φ σ w φ' σ' w') {x : AV} {v : Value} (h : RvM φ σ w x v) : RvM φ' σ' w' x v := by
  have cellk : ∀ (ad : Addr) (j : Nat), ¬ Live φ σ ad.block → ad.block < w.heap.size → w'.cell? (ad.add j) = w.cell? (ad.add j) := fun ad j hl hb =>
    World.cell?_of_block (by rw [block_add]; exact s.same ad.block hb hl)
  have livek : ∀ b, ¬ Live φ σ b → b < w.heap.size → ¬ Live φ' σ' b := fun b hl hb hx => by
    rcases s.fresh b hx with h1 | h1
    · exact hl h1
    · omega
  induction h with
  | lit v => exact .lit v
  | nils => exact .nils
  | imm0 A c hc => exact .imm0 A c hc
  | imm m cs ad c vs h1 _ h3 h4 h5 h6 ih => exact .imm m cs ad c vs (fun j hj => ⟨(cellk ad j h3 h4).trans (h1 j hj).1, (h1 j hj).2⟩) ih (livek _ h3 h4) (Nat.lt_of_lt_of_le h4 s.size) h5 h6
  | arr id off m sz c h1 h2 h3 h4 =>
    obtain ⟨cur, e, fz, h5, h6⟩ := h4
    obtain ⟨cur', fz', h7, h8⟩ := s.shape _ _ _ _ h5
    rw [← s.phi id h1]
    rw [← s.phi id h1] at h7
    exact .arr id off m sz c (Nat.lt_of_lt_of_le h1 s.next) h2 h3 ⟨cur', e, fz', h7, by omega⟩
  | ptr id off h1 => rw [← s.phi id h1]; exact .ptr id off (Nat.lt_of_lt_of_le h1 s.next)
  | iptr cs ad vs h1 _ h3 h4 ih => exact .iptr cs ad vs (fun j hj => ⟨(cellk ad j h3 h4).trans (h1 j hj).1, (h1 j hj).2⟩) ih (livek _ h3 h4) (Nat.lt_of_lt_of_le h4 s.size)
  | fn f xs vs h1 _ ih => exact .fn f xs vs h1 ih
  | agg xs vs h1 _ h3 ih => exact .agg xs vs h1 ih h3
  | tup xs vs h1 _ ih => exact .tup xs vs h1 ih

theorem RvL.step (s : Step φ σ w φ' σ' w') {xs : List AV} {vs : List Value} (h : RvL φ σ w xs vs) : RvL φ' σ' w' xs vs := ⟨h.1, fun j x v hx hv => (h.2 j x v hx hv).step s⟩
theorem RelF.step (s : Step φ σ w φ' σ' w') {fr : Fr} {t : Array Value} (h : RelF φ σ w fr t) : RelF φ' σ' w' fr t := fun k => (h k).step s

/-- A world in which what was there is as it was: the class of a region that draws. -/
def Cls (w w' : World) : Prop := Below w.heap.size w w'

theorem Cls.refl (w : World) : Cls w w := Below.refl _ _
theorem Cls.drew (w : World) : Cls w { w with drawn := w.drawn + 1 } := (Below.refl _ _).drew
theorem Cls.cell {w w' : World} (h : Cls w w') {a : Addr} (ha : a.block < w.heap.size) : w'.cell? a = w.cell? a := Below.cell h ha
theorem Live.lt (h : RelM φ σ w) {b : Nat} (hb : Live φ σ b) : b < w.heap.size := by
  obtain ⟨id, hid, rfl⟩ := hb
  obtain ⟨cs, hcs⟩ := Option.isSome_iff_exists.1 hid
  obtain ⟨cur, h1, _⟩ := h.cell id cs hcs
  exact (Array.getElem?_eq_some_iff.1 h1).1
theorem Cls.step (h : Cls w w') : Step φ σ w φ σ w' where
  next := Nat.le_refl _
  phi := fun _ _ => rfl
  fresh := fun _ h => .inl h
  size := h.size
  same := fun b hb _ => h.block b hb
  shape := fun b cur e fz hb => ⟨cur, fz, by rw [h.block b (Array.getElem?_eq_some_iff.1 hb).1]; exact hb, rfl⟩
  os := h.os
  tape := h.tape
  output := h.output

/-- The same objects, in a later world in which each still holds its cells. -/
theorem RelM.step (hr : RelM φ σ w) (s : Step φ σ w φ' σ w') (hc : ∀ id cs, σ.get id = some cs → w'.heap[φ' id]? = w.heap[φ id]?) : RelM φ' σ w' where
  live := hr.live
  cell := fun id cs h => by
    obtain ⟨cur, h1, h2, h3⟩ := hr.cell id cs h
    refine ⟨cur, (hc id cs h).trans h1, h2, fun j x hx => ?_⟩
    obtain ⟨v, h4, h5, h6⟩ := h3 j x hx
    exact ⟨v, h4, h5, h6.step s⟩
  inj := fun i j hi hj he => by
    obtain ⟨c1, h1⟩ := Option.isSome_iff_exists.1 hi
    obtain ⟨c2, h2⟩ := Option.isSome_iff_exists.1 hj
    rw [s.phi i (hr.live i c1 h1), s.phi j (hr.live j c2 h2)] at he
    exact hr.inj i j hi hj he
theorem RelM.cls (hr : RelM φ σ w) (h : Cls w w') : RelM φ σ w' :=
  hr.step (Cls.step h) fun id cs hid => h.block _ (Live.lt hr ⟨id, by simp [hid], rfl⟩)

/-! ### Operands -/
theorem rv_cell {n : Nat} {L : Nat → Prop} (v : Value) : Rv φ n L w (cellA v) v := by
  unfold cellA
  split
  · split
    · rename_i h; obtain ⟨rfl, rfl⟩ := h; exact .nils
    · exact .lit _
  · rename_i f a c
    split
    · rename_i h
      have ha : a = #[] := by simpa using h.1
      have hc : c = #[] := by simpa using h.2
      subst ha; subst hc
      exact .fn _ [] [] rfl (fun j x v h => by simp at h)
    · exact .lit _
  · exact .lit _

theorem rv_cells {n : Nat} {L : Nat → Prop} (vs : List Value) : ∀ (j : Nat) (x : AV) (v : Value), (vs.map cellA)[j]? = some x → vs[j]? = some v → Rv φ n L w x v := by
  intro j x v hx hv
  rw [List.getElem?_map, hv] at hx
  simp only [Option.map_some, Option.some.injEq] at hx
  subst hx
  exact rv_cell v

theorem rv_const {n : Nat} {L : Nat → Prop} (v : Value) : Rv φ n L w (constA v) v := by
  unfold constA
  split
  · rename_i vs
    split
    · rename_i h
      have := Rv.agg (φ := φ) (n := n) (L := L) (w := w) (vs.toList.map cellA) vs.toList (by simp) (rv_cells _) (by simpa only [List.all_eq_true] using h)
      simpa using this
    · exact .lit _
  · rename_i vs
    split
    · rename_i h
      have h0 : vs = #[] := by simpa using h
      subst h0
      exact .tup [] [] rfl (fun j x v h => by simp at h)
    · exact .lit _
  · exact rv_cell v

theorem rv_eval {fr : Fr} {a : Act} (h : RelF φ σ w fr a.tmps) (x : Operand) : RvM φ σ w (evalA fr x) (a.eval x) := by
  cases x with
  | tmp t => exact h t
  | const v => exact rv_const v
  | global g => exact .lit _
  | func f => exact .fn f [] [] rfl (fun j x v h => by simp at h)

theorem rv_evals {fr : Fr} {a : Act} (h : RelF φ σ w fr a.tmps) (xs : List Operand) : RvL φ σ w (xs.map (evalA fr)) (xs.map a.eval) := by
  refine ⟨by simp, fun j x v hx hv => ?_⟩
  rw [List.getElem?_map] at hx hv
  cases ho : xs[j]? with
  | none => simp [ho] at hx
  | some o =>
    simp only [ho, Option.map_some, Option.some.injEq] at hx hv
    subst hx; subst hv
    exact rv_eval h o

theorem RelF.put {fr : Fr} {a : Act} {x : AV} {v : Value} {dst : Option Tmp} (h : RelF φ σ w fr a.tmps) (hx : RvM φ σ w x v) (hd : dstOk a.tmps.size dst = true) : RelF φ σ w (putA fr dst x) (a.put dst v).tmps := by
  intro k
  cases dst with
  | none => exact h k
  | some d =>
    have hd' : d < a.tmps.size := by simpa [dstOk] using hd
    simp only [putA, Act.put, upd]
    by_cases hk : k = d
    · subst hk
      simpa [hd'] using hx
    · have hk' : ¬ d = k := fun e => hk e.symm
      simp only [hk, if_false]
      have := h k
      rw [Array.getD_eq_getD_getElem?] at this ⊢
      rwa [Array.getElem?_setIfInBounds_ne hk']

theorem size_put (a : Act) (dst : Option Tmp) (v : Value) : (a.put dst v).tmps.size = a.tmps.size := by cases dst <;> simp [Act.put]

/-! ### The cells of a value -/
theorem rv_cellsA {x : AV} {cs : List AV} {v : Value} (hc : cellsA x = some cs) (h : RvM φ σ w x v) : RvL φ σ w cs v.cells.toList ∧ ∀ u ∈ v.cells.toList, u.oneCell' = true := by
  have one : ∀ (x : AV) (v : Value), RvM φ σ w x v → v.oneCell' = true → v.cells = #[v] → RvL φ σ w [x] v.cells.toList ∧ ∀ u ∈ v.cells.toList, u.oneCell' = true := by
    intro x v h h1 h2
    rw [h2]
    refine ⟨⟨rfl, fun j y u hy hu => ?_⟩, fun u hu => by simp at hu; subst hu; exact h1⟩
    cases j with
    | zero => simp at hy hu; subst hy; subst hu; exact h
    | succ j => simp at hy
  cases h with
  | lit v =>
    simp only [cellsA] at hc
    split at hc
    · rename_i h1
      cases hc
      exact one _ _ (.lit v) h1 (by cases v <;> first | rfl | (simp [Value.oneCell'] at h1))
    · cases hc
  | nils => cases hc; exact one _ _ .nils rfl rfl
  | imm0 A c hc' => cases hc; exact one _ _ (.imm0 A c hc') rfl rfl
  | imm m cs' ad c vs h1 h2 h3 h4 h5 h6 => cases hc; exact one _ _ (.imm m cs' ad c vs h1 h2 h3 h4 h5 h6) rfl rfl
  | arr id off m sz c h1 h2 h3 h4 => cases hc; exact one _ _ (.arr id off m sz c h1 h2 h3 h4) rfl rfl
  | ptr id off h1 => cases hc; exact one _ _ (.ptr id off h1) rfl rfl
  | iptr cs' ad vs h1 h2 h3 h4 => cases hc; exact one _ _ (.iptr cs' ad vs h1 h2 h3 h4) rfl rfl
  | fn f xs vs h1 h2 => cases hc; exact one _ _ (.fn f xs vs h1 h2) rfl rfl
  | agg xs vs h1 h2 h3 => cases hc; exact ⟨⟨by simpa [Value.cells] using h1, by simpa [Value.cells] using h2⟩, by simpa [Value.cells] using h3⟩
  | tup xs vs h1 h2 => cases hc

/-! ### New objects, and objects written -/
/-- A new block, a new object. -/
theorem relM_alloc (hr : RelM φ σ w) (cs : List AV) (cur : Array Value) (e : TypeId) (hl : cs.length ≤ cur.size) (hc : ∀ (j : Nat) (x : AV), cs[j]? = some x → ∃ v, cur[j]? = some v ∧ v.oneCell' = true ∧ RvM φ σ w x v)
    (hw : w'.heap = w.heap.push (.cells cur e (0, 0))) (ho : w'.os = w.os) (ht : w'.tape = w.tape) (hu : w'.output = w.output) :
    ∃ φ', φ' σ.next = w.heap.size ∧ RelM φ' (σ.alloc e cs) w' ∧ Step φ σ w φ' (σ.alloc e cs) w' := by
  refine ⟨fun i => if i = σ.next then w.heap.size else φ i, by simp, ?_⟩
  have old : ∀ i, i < w.heap.size → w'.heap[i]? = w.heap[i]? := fun i hi => by rw [hw, Array.getElem?_push, if_neg (by omega)]
  have new : w'.heap[w.heap.size]? = some (.cells cur e (0, 0)) := by rw [hw]; simp
  have s : Step φ σ w (fun i => if i = σ.next then w.heap.size else φ i) (σ.alloc e cs) w' := by
    refine ⟨Nat.le_succ _, fun id hid => by simp [show id ≠ σ.next by omega], fun b hb => ?_, by rw [hw]; simp, fun b hb _ => old b hb, fun b c e' fz hb => ⟨c, fz, ?_, rfl⟩, ho, ht, hu⟩
    · obtain ⟨id, h1, h2⟩ := hb
      by_cases hid : id = σ.next
      · subst hid; simp at h2; exact .inr (by omega)
      · simp only [hid, if_false] at h2
        simp only [Mem.alloc, hid, if_false] at h1
        exact .inl ⟨id, h1, h2⟩
    · rw [old b (Array.getElem?_eq_some_iff.1 hb).1]; exact hb
  refine ⟨⟨fun id c hid => ?_, fun id c hid => ?_, fun i j hi hj he => ?_⟩, s⟩
  · by_cases h : id = σ.next
    · subst h; exact Nat.lt_succ_self _
    · simp only [Mem.alloc, h, if_false] at hid
      exact Nat.lt_succ_of_lt (hr.live id c hid)
  · by_cases h : id = σ.next
    · subst h
      simp only [Mem.alloc, if_true, Option.some.injEq] at hid
      subst hid
      refine ⟨cur, by simpa [Mem.alloc] using new, hl, fun j x hx => ?_⟩
      obtain ⟨v, h1, h2, h3⟩ := hc j x hx
      exact ⟨v, h1, h2, h3.step s⟩
    · simp only [Mem.alloc, h, if_false] at hid
      obtain ⟨cur', h1, h2, h3⟩ := hr.cell id c hid
      refine ⟨cur', ?_, h2, fun j x hx => ?_⟩
      · simp only [Mem.alloc, h, if_false]
        rw [old _ (Array.getElem?_eq_some_iff.1 h1).1]; exact h1
      · obtain ⟨v, h4, h5, h6⟩ := h3 j x hx
        exact ⟨v, h4, h5, h6.step s⟩
  · have lt : ∀ k, (σ.get k).isSome = true → φ k < w.heap.size := fun k hk => Live.lt hr ⟨k, hk, rfl⟩
    simp only [Mem.alloc] at hi hj
    by_cases h1 : i = σ.next <;> by_cases h2 : j = σ.next
    · omega
    · simp only [h1, h2, if_true, if_false] at hj he
      have := lt j hj; omega
    · simp only [h1, h2, if_true, if_false] at hi he
      have := lt i hi; omega
    · simp only [h1, h2, if_false] at hi hj he
      exact hr.inj i j hi hj he

/-- An object of the call's own is written: its block holds other cells, as many. -/
theorem relM_write (hr : RelM φ σ w) (id : Nat) (cs cs' : List AV) (hid : σ.get id = some cs) (cur cur' : Array Value) (e : TypeId) (he : σ.ty id = e) (hb : w.heap[φ id]? = some (.cells cur e (0, 0))) (hs : cur'.size = cur.size)
    (hw : ∀ i, w'.heap[i]? = if i = φ id then some (.cells cur' e (0, 0)) else w.heap[i]?) (hsz : w'.heap.size = w.heap.size) (hl : cs'.length ≤ cur'.size)
    (hc : ∀ (j : Nat) (x : AV), cs'[j]? = some x → ∃ v, cur'[j]? = some v ∧ v.oneCell' = true ∧ RvM φ σ w x v)
    (ho : w'.os = w.os) (ht : w'.tape = w.tape) (hu : w'.output = w.output) :
    RelM φ (σ.set id cs') w' ∧ Step φ σ w φ (σ.set id cs') w' := by
  have some_ : ∀ k, ((σ.set id cs').get k).isSome = true → (σ.get k).isSome = true := fun k hk => by
    by_cases h : k = id
    · subst h; simp [hid]
    · simpa [Mem.set, h] using hk
  have s : Step φ σ w φ (σ.set id cs') w' := by
    refine ⟨Nat.le_refl _, fun _ _ => rfl, fun b hb => ?_, by omega, fun b hb hl => ?_, fun b c e' fz hbb => ?_, ho, ht, hu⟩
    · obtain ⟨k, h1, h2⟩ := hb; exact .inl ⟨k, some_ k h1, h2⟩
    · rw [hw, if_neg (fun h => hl ⟨id, by simp [hid], h.symm⟩)]
    · by_cases h : b = φ id
      · subst h
        rw [hb] at hbb
        cases hbb
        exact ⟨cur', (0, 0), by rw [hw, if_pos rfl], hs⟩
      · exact ⟨c, fz, by rw [hw, if_neg h]; exact hbb, rfl⟩
  refine ⟨⟨fun k c hk => ?_, fun k c hk => ?_, fun i j hi hj he => hr.inj i j (some_ i hi) (some_ j hj) he⟩, s⟩
  · obtain ⟨c', hc'⟩ := Option.isSome_iff_exists.1 (some_ k (by simp [hk]))
    exact hr.live k c' hc'
  · by_cases h : k = id
    · subst h
      simp only [Mem.set, if_true, Option.some.injEq] at hk
      subst hk
      refine ⟨cur', by rw [hw, if_pos rfl]; simp only [Mem.set, he], hl, fun j x hx => ?_⟩
      obtain ⟨v, h1, h2, h3⟩ := hc j x hx
      exact ⟨v, h1, h2, h3.step s⟩
    · simp only [Mem.set, h, if_false] at hk
      obtain ⟨c1, h1, h2, h3⟩ := hr.cell k c hk
      refine ⟨c1, ?_, h2, fun j x hx => ?_⟩
      · rw [hw, if_neg (fun hh => h (hr.inj k id (by simp [hk]) (by simp [hid]) hh))]; exact h1
      · obtain ⟨v, h4, h5, h6⟩ := h3 j x hx
        exact ⟨v, h4, h5, h6.step s⟩

/-- An object is no longer the call's to write. -/
theorem relM_kill (hr : RelM φ σ w) (id : Nat) : RelM φ (σ.kill id) w ∧ Step φ σ w φ (σ.kill id) w := by
  have some_ : ∀ k cs, (σ.kill id).get k = some cs → σ.get k = some cs := fun k cs hk => by
    by_cases h : k = id
    · subst h; simp [Mem.kill] at hk
    · simpa [Mem.kill, h] using hk
  have s : Step φ σ w φ (σ.kill id) w := by
    refine ⟨Nat.le_refl _, fun _ _ => rfl, fun b hb => ?_, Nat.le_refl _, fun b hb hl => rfl, fun b c e' fz hbb => ⟨c, fz, hbb, rfl⟩, rfl, rfl, rfl⟩
    obtain ⟨k, h1, h2⟩ := hb
    obtain ⟨c, hc⟩ := Option.isSome_iff_exists.1 h1
    exact .inl ⟨k, by simp [some_ k c hc], h2⟩
  refine ⟨⟨fun k c hk => hr.live k c (some_ k c hk), fun k c hk => ?_, fun i j hi hj he => ?_⟩, s⟩
  · obtain ⟨c1, h1, h2, h3⟩ := hr.cell k c (some_ k c hk)
    exact ⟨c1, h1, h2, fun j x hx => by obtain ⟨v, h4, h5, h6⟩ := h3 j x hx; exact ⟨v, h4, h5, h6.step s⟩⟩
  · obtain ⟨c1, h1⟩ := Option.isSome_iff_exists.1 hi
    obtain ⟨c2, h2⟩ := Option.isSome_iff_exists.1 hj
    exact hr.inj i j (by simp [some_ i c1 h1]) (by simp [some_ j c2 h2]) he

/-- An object goes on under a new number, in its own block. -/
theorem relM_rename (hr : RelM φ σ w) (id : Nat) (cs : List AV) (hid : σ.get id = some cs) (e : TypeId) (he : σ.ty id = e) :
    ∃ φ', φ' σ.next = φ id ∧ RelM φ' ((σ.kill id).alloc e cs) w ∧ Step φ σ w φ' ((σ.kill id).alloc e cs) w := by
  have hne : ∀ k, k < σ.next → k ≠ σ.next := fun k hk => by omega
  refine ⟨fun i => if i = σ.next then φ id else φ i, by simp, ?_⟩
  have some_ : ∀ k c, ((σ.kill id).alloc e cs).get k = some c → k ≠ σ.next → k ≠ id ∧ σ.get k = some c := fun k c hk h => by
    simp only [Mem.alloc, Mem.kill, h, if_false] at hk
    by_cases h2 : k = id
    · simp [h2] at hk
    · exact ⟨h2, by simpa [h2] using hk⟩
  have s : Step φ σ w (fun i => if i = σ.next then φ id else φ i) ((σ.kill id).alloc e cs) w := by
    refine ⟨Nat.le_succ _, fun k hk => by simp [hne k hk], fun b hb => ?_, Nat.le_refl _, fun b hb hl => rfl, fun b c e' fz hbb => ⟨c, fz, hbb, rfl⟩, rfl, rfl, rfl⟩
    obtain ⟨k, h1, h2⟩ := hb
    obtain ⟨c, hc⟩ := Option.isSome_iff_exists.1 h1
    by_cases h : k = σ.next
    · subst h; simp at h2; exact .inl ⟨id, by simp [hid], h2⟩
    · simp only [h, if_false] at h2
      exact .inl ⟨k, by simp [(some_ k c hc h).2], h2⟩
  refine ⟨⟨fun k c hk => ?_, fun k c hk => ?_, fun i j hi hj he => ?_⟩, s⟩
  · by_cases h : k = σ.next
    · subst h; exact Nat.lt_succ_self _
    · exact Nat.lt_succ_of_lt (hr.live k c (some_ k c hk h).2)
  · by_cases h : k = σ.next
    · subst h
      simp only [Mem.alloc, Mem.kill, if_true, Option.some.injEq] at hk
      subst hk
      obtain ⟨c1, h1, h2, h3⟩ := hr.cell id cs hid
      exact ⟨c1, by simpa [Mem.alloc, Mem.kill, he] using h1, h2, fun j x hx => by obtain ⟨v, h4, h5, h6⟩ := h3 j x hx; exact ⟨v, h4, h5, h6.step s⟩⟩
    · obtain ⟨c1, h1, h2, h3⟩ := hr.cell k c (some_ k c hk h).2
      exact ⟨c1, by simpa [Mem.alloc, Mem.kill, h] using h1, h2, fun j x hx => by obtain ⟨v, h4, h5, h6⟩ := h3 j x hx; exact ⟨v, h4, h5, h6.step s⟩⟩
  · obtain ⟨c1, h1⟩ := Option.isSome_iff_exists.1 hi
    obtain ⟨c2, h2⟩ := Option.isSome_iff_exists.1 hj
    by_cases h3 : i = σ.next <;> by_cases h4 : j = σ.next
    · omega
    · simp only [h3, h4, if_true, if_false] at he
      exact absurd (hr.inj j id (by simp [(some_ j c2 h2 h4).2]) (by simp [hid]) he.symm) (some_ j c2 h2 h4).1
    · simp only [h3, h4, if_true, if_false] at he
      exact absurd (hr.inj i id (by simp [(some_ i c1 h1 h3).2]) (by simp [hid]) he) (some_ i c1 h1 h3).1
    · simp only [h3, h4, if_false] at he
      exact hr.inj i j (by simp [(some_ i c1 h1 h3).2]) (by simp [(some_ j c2 h2 h4).2]) he
end
end Go.Ew
namespace Go.Ew
open Go Go.RowKit

/-- In every world of the class the run yields v and leaves that world. -/
def Qy (P : Program) (s : Sem Value) (w : World) (v : Value) : Prop := ∀ w', Cls w w' → s.run P w' = .ok v w'

section
variable {P : Program} {φ : Nat → Nat} {σ : Mem} {w : World}

/-! ### Types -/
theorem sliceTy_spec {t e : TypeId} {sz by_ : Nat} (h : sliceTy P t = some (e, sz, by_)) : P.underlying t = some (.slice e) ∧ ∃ i, P.info? e = some i ∧ i.size = sz ∧ i.bytes = by_ := by
  unfold sliceTy at h
  split at h
  · rename_i e' he
    cases hi : P.info? e' with
    | none => simp [hi] at h
    | some i => simp only [hi, Option.map_some, Option.some.injEq, Prod.mk.injEq] at h; obtain ⟨rfl, h2, h3⟩ := h; exact ⟨he, i, hi, h2, h3⟩
  · cases h
theorem strTy_spec {t : TypeId} (h : strTy P t = true) : P.underlying t = some .string := by
  unfold strTy at h; split at h
  · assumption
  · cases h
theorem boolTy_spec {t : TypeId} (h : boolTy P t = true) : P.underlying t = some .bool := by
  unfold boolTy at h; split at h
  · assumption
  · cases h
theorem intTy_spec {t : TypeId} {k : IntKind} (h : intTy P t = some k) : P.underlying t = some (.int k) := by
  unfold intTy at h; split at h
  · rename_i k' hk; cases h; exact hk
  · cases h
theorem sizeTy_spec {t : TypeId} {n : Nat} (h : sizeTy P t = some n) : ∃ i, P.info? t = some i ∧ i.size = n := by
  unfold sizeTy at h
  cases hi : P.info? t with
  | none => simp [hi] at h
  | some i => simp [hi] at h; exact ⟨i, rfl, h⟩
theorem run_sizeOf' {t : TypeId} {n : Nat} (h : sizeTy P t = some n) (w : World) : (sizeOf t).run P w = .ok n w := by
  obtain ⟨i, hi, rfl⟩ := sizeTy_spec h
  simp [sizeOf, typeInfo, hi]
theorem run_sizeOf_info {t : TypeId} {i : TypeInfo} (hi : P.info? t = some i) (w : World) : (sizeOf t).run P w = .ok i.size w := by simp [sizeOf, typeInfo, hi]
theorem run_isAgg' {t : TypeId} {b : Bool} (h : aggTy P t = some b) (w : World) : (isAgg t).run P w = .ok b w := by
  unfold aggTy at h
  cases hu : P.underlying t with
  | none => simp [hu] at h
  | some d =>
    simp only [hu, Option.map_some, Option.some.injEq] at h
    subst h
    cases d <;> simp [isAgg, run_underlying hu]
theorem fieldTy_spec {t : TypeId} {i off n : Nat} {u : TypeId} (h : fieldTy P t i = some (off, n, u)) :
    ∃ fs f j, P.underlying t = some (.struct fs) ∧ fs[i]? = some f ∧ P.info? f.type = some j ∧ j.size = n ∧ n ≠ 0 ∧ f.offset = off ∧ f.type = u := by
  unfold fieldTy at h
  split at h
  · rename_i fs hfs
    cases hf : fs[i]? with
    | none => simp [hf] at h
    | some f =>
      cases hj : P.info? f.type with
      | none => simp [hf, hj] at h
      | some j =>
        simp only [hf, hj, Option.bind_some] at h
        split at h
        · cases h
        · simp only [Option.some.injEq, Prod.mk.injEq] at h
          exact ⟨fs, f, j, hfs, hf, hj, h.2.1, by rw [← h.2.1]; assumption, h.1, h.2.2⟩
  · cases h

/-! ### Cells behind a pointer -/
theorem rv_atPtr {x : AV} {cs : List AV} {v : Value} (hr : RelM φ σ w) (h : atPtr σ x = some cs) (hx : RvM φ σ w x v) :
    ∃ (a : Addr) (vs : Nat → Value), v = .pointer (some a) ∧ a.block < w.heap.size ∧ (∀ j, j < cs.length → w.cell? (a.add j) = some (vs j) ∧ (vs j).oneCell' = true) ∧ ∀ (j : Nat) (y : AV), cs[j]? = some y → RvM φ σ w y (vs j) := by
  cases hx with
  | ptr id off h1 =>
    simp only [atPtr] at h
    cases hg : σ.get id with
    | none => simp [hg] at h
    | some c =>
      simp only [hg, Option.bind_some] at h
      split at h
      · rename_i hoff
        cases h
        obtain ⟨cur, h2, h3, h4⟩ := hr.cell id c hg
        refine ⟨⟨φ id, off, none⟩, fun j => cur.getD (off + j) Go.undef, rfl, (Array.getElem?_eq_some_iff.1 h2).1, fun j hj => ?_, fun j y hy => ?_⟩
        · have hj' : off + j < c.length := by simp at hj; omega
          obtain ⟨v, h5, h6, _⟩ := h4 (off + j) _ (List.getElem?_eq_getElem hj')
          rw [Addr.add_lit, cell_of_row w (φ id) (off + j) cur _ (0, 0) h2]
          simp only [Array.getD_eq_getD_getElem?, h5, Option.getD_some]
          exact ⟨trivial, h6⟩
        · rw [List.getElem?_drop] at hy
          obtain ⟨v, h5, _, h7⟩ := h4 (off + j) _ hy
          simp only [Array.getD_eq_getD_getElem?, h5, Option.getD_some]
          exact h7
      · cases h
  | iptr cs' ad vs h1 h2 h3 h4 => cases h; exact ⟨ad, vs, rfl, h4, h1, h2⟩
  | _ => simp [atPtr] at h

theorem rv_read {t : TypeId} {cs : List AV} {z : AV} {a : Addr} {vs : Nat → Value} (h : readA P t cs = some z) (hb : a.block < w.heap.size) (h1 : ∀ j, j < cs.length → w.cell? (a.add j) = some (vs j) ∧ (vs j).oneCell' = true)
    (h2 : ∀ (j : Nat) (y : AV), cs[j]? = some y → RvM φ σ w y (vs j)) : ∃ r, RvM φ σ w z r ∧ Qy P (loadVar t a) w r := by
  unfold readA at h
  split at h
  · rename_i n ha hn
    split at h
    · rename_i hle
      cases h
      refine ⟨.agg ((List.range n).map vs).toArray, .agg _ _ (by simp; omega) (fun j x v hx hv => ?_) (fun v hv => ?_), fun w' hw' => ?_⟩
      · rw [List.getElem?_map] at hv
        have hj : j < n := by
          rcases Nat.lt_or_ge j n with h | h
          · exact h
          · rw [List.getElem?_eq_none (by simpa using h)] at hv; simp at hv
        rw [List.getElem?_range hj] at hv
        simp only [Option.map_some, Option.some.injEq] at hv
        subst hv
        rw [List.getElem?_take_of_lt hj] at hx
        exact h2 j x hx
      · simp only [List.mem_map, List.mem_range] at hv
        obtain ⟨j, hj, rfl⟩ := hv
        exact (h1 j (by omega)).2
      · have hl := run_loadCells (P := P) w' a n vs (fun j hj => by rw [Cls.cell hw' (by rw [block_add]; exact hb)]; exact (h1 j (by omega)).1)
        simp [loadVar, run_isAgg' ha, run_sizeOf' hn, hl]
    · cases h
  · rename_i ha
    cases cs with
    | nil => cases h
    | cons c cs =>
      cases h
      refine ⟨vs 0, h2 0 z rfl, fun w' hw' => ?_⟩
      have h0 := (h1 0 (by simp)).1
      rw [Addr.add_zero'] at h0
      simp [loadVar, run_isAgg' ha, run_load, Cls.cell hw' hb, h0]
  · cases h

theorem rv_load {t : TypeId} {x z : AV} {v : Value} (hr : RelM φ σ w) (h : (atPtr σ x).bind (readA P t) = some z) (hx : RvM φ σ w x v) : ∃ r, RvM φ σ w z r ∧ Qy P (Instr.loadAt t v) w r := by
  cases hp : atPtr σ x with
  | none => simp [hp] at h
  | some cs =>
    simp only [hp, Option.bind_some] at h
    obtain ⟨a, vs, rfl, hb, h1, h2⟩ := rv_atPtr hr hp hx
    obtain ⟨r, h3, h4⟩ := rv_read h hb h1 h2
    exact ⟨r, h3, fun w' hw' => by simp [Instr.loadAt, Instr.sureAddr, h4 w' hw']⟩

/-- Cells from a later place on. -/
theorem rv_shift {cs : List AV} {a : Addr} {vs : Nat → Value} (n : Nat) (h1 : ∀ j, j < cs.length → w.cell? (a.add j) = some (vs j) ∧ (vs j).oneCell' = true) (h2 : ∀ (j : Nat) (y : AV), cs[j]? = some y → RvM φ σ w y (vs j)) :
    (∀ j, j < (cs.drop n).length → w.cell? ((a.add n).add j) = some (vs (n + j)) ∧ (vs (n + j)).oneCell' = true) ∧ ∀ (j : Nat) (y : AV), (cs.drop n)[j]? = some y → RvM φ σ w y (vs (n + j)) :=
  ⟨fun j hj => by rw [add_add]; exact h1 (n + j) (by simp at hj; omega), fun j y hy => h2 (n + j) y (by rw [← List.getElem?_drop]; exact hy)⟩

theorem rv_fieldAddr {t : TypeId} {x z : AV} {i : Nat} {v : Value} (h : fieldAddrA P t x i = some z) (hx : RvM φ σ w x v) : ∃ r, RvM φ σ w z r ∧ Qy P (Instr.fieldAt t v i) w r := by
  unfold fieldAddrA at h
  split at h
  · rename_i off n u hf
    obtain ⟨fs, f, j, hu, hfi, hj, hn, h0, rfl, _⟩ := fieldTy_spec hf
    have run : ∀ a : Addr, Qy P (Instr.fieldAt t (.pointer (some a)) i) w (.pointer (some (a.add f.offset))) := fun a w' _ => by
      simp [Instr.fieldAt, run_underlying hu, hfi, Instr.sureAddr, fieldPlace, run_sizeOf_info hj, hn, h0]
    cases hx with
    | ptr id off h1 => cases h; exact ⟨_, .ptr id _ h1, by have := run ⟨φ id, off, none⟩; rwa [Addr.add_lit] at this⟩
    | iptr cs ad vs h1 h2 h3 h4 =>
      cases h
      obtain ⟨k1, k2⟩ := rv_shift (φ := φ) (σ := σ) f.offset h1 h2
      exact ⟨_, .iptr _ _ _ k1 k2 (by rw [block_add]; exact h3) (by rw [block_add]; exact h4), run ad⟩
    | _ => simp at h
  · cases h

theorem rv_part {t : TypeId} {xs : List AV} {vs : List Value} {off : Nat} {z : AV} (h : readA P t (xs.drop off) = some z) (h1 : xs.length = vs.length) (h2 : ∀ (j : Nat) (x : AV) (v : Value), xs[j]? = some x → vs[j]? = some v → RvM φ σ w x v) (h3 : ∀ v ∈ vs, v.oneCell' = true) :
    ∃ r, RvM φ σ w z r ∧ Qy P (part t vs.toArray off) w r := by
  unfold readA at h
  split at h
  · rename_i m ha hm
    split at h
    · rename_i hle
      cases h
      have hl : (xs.drop off).length = xs.length - off := by simp
      refine ⟨.agg ((vs.drop off).take m).toArray, .agg _ _ (by simp; omega) (fun j x v hx hv => ?_) (fun v hv => h3 v (List.mem_of_mem_drop (List.mem_of_mem_take hv))), fun w' _ => ?_⟩
      · have hjm : j < m := by
          rcases Nat.lt_or_ge j m with h | h
          · exact h
          · rw [List.getElem?_eq_none (by simp; omega)] at hx; cases hx
        rw [List.getElem?_take_of_lt hjm, List.getElem?_drop] at hx hv
        exact h2 _ x v hx hv
      · simp [part, run_isAgg' ha, run_sizeOf' hm]
    · cases h
  · rename_i ha
    cases hd : xs.drop off with
    | nil => simp [hd] at h
    | cons c rest =>
      simp only [hd, List.head?_cons, Option.some.injEq] at h
      subst h
      have hc : xs[off]? = some c := by rw [← Nat.add_zero off, ← List.getElem?_drop, hd]; rfl
      have hlt : off < vs.length := by rw [← h1]; exact (List.getElem?_eq_some_iff.1 hc).1
      refine ⟨vs[off], h2 off c _ hc (List.getElem?_eq_getElem hlt), fun w' _ => ?_⟩
      simp [part, run_isAgg' ha, hlt]
  · cases h

theorem rv_field {t : TypeId} {x z : AV} {i : Nat} {v : Value} (h : fieldA P t x i = some z) (hx : RvM φ σ w x v) : ∃ r, RvM φ σ w z r ∧ Qy P (Instr.field t v i) w r := by
  unfold fieldA at h
  split at h
  · rename_i off n u cs hf
    obtain ⟨fs, f, j, hu, hfi, hj, hn, h0, rfl, rfl⟩ := fieldTy_spec hf
    cases hx with
    | agg _ vs h1 h2 h3 =>
      obtain ⟨r, hr, hq⟩ := rv_part h h1 h2 h3
      exact ⟨r, hr, fun w' hw' => by simp [Instr.field, run_underlying hu, hfi, asAgg, hq w' hw']⟩
  · cases h

theorem arrayTy_spec {t e : TypeId} {n sz : Nat} (h : arrayTy P t = some (n, e, sz)) : P.underlying t = some (.array n e) ∧ ∃ i, P.info? e = some i ∧ i.size = sz := by
  unfold arrayTy at h
  split at h
  · rename_i n' e' he
    cases hi : P.info? e' with
    | none => simp [hi] at h
    | some i => simp only [hi, Option.map_some, Option.some.injEq, Prod.mk.injEq] at h; obtain ⟨rfl, rfl, h3⟩ := h; exact ⟨he, i, hi, h3⟩
  · cases h

theorem rv_int {x : AV} {n : Int} {v : Value} (h : intOfA x = some n) (hx : RvM φ σ w x v) : ∃ k, v = .int k n := by
  unfold intOfA at h
  split at h
  · rename_i k m; cases h; cases hx; exact ⟨k, rfl⟩
  · cases h

theorem rv_indexAddr {t : TypeId} {x i z : AV} {u v : Value} (h : indexAddrA P t x i = some z) (hx : RvM φ σ w x u) (hi : RvM φ σ w i v) : ∃ r, RvM φ σ w z r ∧ Qy P (Instr.indexAt t u v) w r := by
  unfold indexAddrA at h
  split at h
  · cases h
  rename_i n hn
  obtain ⟨k, rfl⟩ := rv_int hn hi
  split at h
  · rename_i e sz by_ hs
    obtain ⟨hu, j, hj, hsz, _⟩ := sliceTy_spec hs
    have run : ∀ (a : Addr) (len cap : Nat), 0 ≤ n → n < len → Qy P (Instr.indexAt t (.slice (some a) len cap) (.int k n)) w (.pointer (some (a.add (n.toNat * sz)))) := fun a len cap h0 h1 w' _ => by
      simp [Instr.indexAt, asIntOf, run_underlying hu, h0, h1, run_sizeOf_info hj, hsz]
    cases hx with
    | imm m cs ad c vs h1 h2 h3 h4 h5 h6 =>
      simp only at h
      split at h
      · rename_i hb
        cases h
        obtain ⟨k1, k2⟩ := rv_shift (φ := φ) (σ := σ) (n.toNat * sz) h1 h2
        exact ⟨_, .iptr _ _ _ k1 k2 (by rw [block_add]; exact h3) (by rw [block_add]; exact h4), run ad m c hb.1 hb.2⟩
      · cases h
    | imm0 A c hc =>
      simp only at h
      split at h
      · omega
      · cases h
    | arr id off m sz' c h1 h2 h3 h4 =>
      simp only at h
      split at h
      · rename_i hb
        cases h
        exact ⟨_, .ptr id _ h1, by have := run ⟨φ id, off, none⟩ m c hb.2.1 hb.2.2; rwa [Addr.add_lit] at this⟩
      · cases h
    | _ => simp at h
  · split at h
    · rename_i m e sz ha
      obtain ⟨hu, j, hj, hsz⟩ := arrayTy_spec ha
      have run : ∀ a : Addr, 0 ≤ n → n < m → Qy P (Instr.indexAt t (.pointer (some a)) (.int k n)) w (.pointer (some (a.add (n.toNat * sz)))) := fun a h0 h1 w' _ => by
        simp [Instr.indexAt, asIntOf, run_underlying hu, Instr.sureAddr, h0, h1, run_sizeOf_info hj, hsz]
      cases hx with
      | ptr id off h1 =>
        simp only at h
        split at h
        · rename_i hb
          cases h
          exact ⟨_, .ptr id _ h1, by have := run ⟨φ id, off, none⟩ hb.1 hb.2; rwa [Addr.add_lit] at this⟩
        · cases h
      | iptr cs ad vs h1 h2 h3 h4 =>
        simp only at h
        split at h
        · rename_i hb
          cases h
          obtain ⟨k1, k2⟩ := rv_shift (φ := φ) (σ := σ) (n.toNat * sz) h1 h2
          exact ⟨_, .iptr _ _ _ k1 k2 (by rw [block_add]; exact h3) (by rw [block_add]; exact h4), run ad hb.1 hb.2⟩
        · cases h
      | _ => simp at h
    · cases h

theorem rv_index {t : TypeId} {x i z : AV} {u v : Value} (h : indexA P t x i = some z) (hx : RvM φ σ w x u) (hi : RvM φ σ w i v) : ∃ r, RvM φ σ w z r ∧ Qy P (Instr.index t u v) w r := by
  unfold indexA at h
  split at h
  · rename_i s n hn
    obtain ⟨k, rfl⟩ := rv_int hn hi
    cases hx
    split at h
    · rename_i hb
      obtain ⟨hs, h0, h1⟩ := hb
      have hu := strTy_spec hs
      cases h
      refine ⟨_, .lit _, fun w' _ => ?_⟩
      have hlt : n.toNat < s.data.toList.length := by omega
      have hlt' : n.toNat < s.size := by simpa using hlt
      have hg : s[n.toNat]? = some (s.data.toList.getD n.toNat 0) := by
        rw [getElem?_pos s n.toNat hlt']
        simp only [List.getD, List.getElem?_eq_getElem hlt, Option.getD_some]
        rfl
      simp [Instr.index, asIntOf, run_underlying hu, h0, hg]
    · cases h
  · rename_i cs n hn
    obtain ⟨k, rfl⟩ := rv_int hn hi
    split at h
    · rename_i m e sz ha
      obtain ⟨hu, j, hj, hsz⟩ := arrayTy_spec ha
      split at h
      · rename_i hb
        cases hx with
        | agg _ vs h1 h2 h3 =>
          obtain ⟨r, hr, hq⟩ := rv_part h h1 h2 h3
          exact ⟨r, hr, fun w' hw' => by simp [Instr.index, asIntOf, run_underlying hu, hb.1, hb.2, run_sizeOf_info hj, hsz, hq w' hw']⟩
      · cases h
    · cases h
  · cases h

theorem run_sliceBound' {k : IntKind} {i : Int} {y : Nat} {code : BoundsCode} (h0 : 0 ≤ i) (h1 : i ≤ y) (w : World) : (Instr.sliceBound (.int k i) y code).run P w = .ok i.toNat w := by
  simp [Instr.sliceBound, asIntOf, h0, h1]

/-- The bounds of a slice expression without a third. -/
theorem run_bounds {lo hi : Option AV} {lo' hi' : Option Value} {l h : Int} {len cap : Nat} (sl : Bool) (hlo : boundA 0 lo = some l) (hhi : boundA len hi = some h) (rlo : ∀ x, lo = some x → ∃ v, lo' = some v ∧ RvM φ σ w x v) (rhi : ∀ x, hi = some x → ∃ v, hi' = some v ∧ RvM φ σ w x v)
    (nlo : lo = none → lo' = none) (nhi : hi = none → hi' = none) (h0 : 0 ≤ l) (h1 : l ≤ h) (h2 : h ≤ cap) (w' : World) :
    (Instr.sliceBounds sl len cap lo' hi' none).run P w' = .ok (l.toNat, h.toNat, cap) w' := by
  have eh : (hi' = none ∧ h = len) ∨ ∃ k, hi' = some (.int k h) := by
    cases hi with
    | none => simp only [boundA, Option.some.injEq] at hhi; exact .inl ⟨nhi rfl, hhi.symm⟩
    | some x =>
      obtain ⟨v, hv, hr⟩ := rhi x rfl
      obtain ⟨k, rfl⟩ := rv_int (by simpa [boundA] using hhi) hr
      exact .inr ⟨k, hv⟩
  have el : (lo' = none ∧ l = 0) ∨ ∃ k, lo' = some (.int k l) := by
    cases lo with
    | none => simp only [boundA, Option.some.injEq] at hlo; exact .inl ⟨nlo rfl, hlo.symm⟩
    | some x =>
      obtain ⟨v, hv, hr⟩ := rlo x rfl
      obtain ⟨k, rfl⟩ := rv_int (by simpa [boundA] using hlo) hr
      exact .inr ⟨k, hv⟩
  have h3 : l ≤ (h.toNat : Int) := by omega
  have h4 : 0 ≤ h := by omega
  have r1 : ∀ k code (w : World), (Instr.sliceBound (.int k h) cap code).run P w = .ok h.toNat w := fun k code w => run_sliceBound' h4 h2 w
  have r2 : ∀ k code (w : World), (Instr.sliceBound (.int k l) h.toNat code).run P w = .ok l.toNat w := fun k code w => run_sliceBound' h0 h3 w
  have r3 : ∀ k code (w : World), h = len → (Instr.sliceBound (.int k l) len code).run P w = .ok l.toNat w := fun k code w e => run_sliceBound' h0 (by omega) w
  rcases eh with ⟨rfl, e⟩ | ⟨k, rfl⟩ <;> rcases el with ⟨rfl, e'⟩ | ⟨k', rfl⟩
  · simp [Instr.sliceBounds, e, e']
  · simp [Instr.sliceBounds, r3 _ _ _ e, e]
  · simp [Instr.sliceBounds, r1, e']
  · simp [Instr.sliceBounds, r1, r2]

theorem rv_slice {t : TypeId} {x z : AV} {lo hi : Option AV} {lo' hi' : Option Value} {u : Value} (h : sliceA P t x lo hi = some z) (hx : RvM φ σ w x u)
    (rlo : ∀ x, lo = some x → ∃ v, lo' = some v ∧ RvM φ σ w x v) (rhi : ∀ x, hi = some x → ∃ v, hi' = some v ∧ RvM φ σ w x v) (nlo : lo = none → lo' = none) (nhi : hi = none → hi' = none) :
    ∃ r, RvM φ σ w z r ∧ Qy P (Instr.sliceAt t u lo' hi' none) w r := by
  have sl : ∀ (e : TypeId) (sz : Nat) (i : TypeInfo) (a : Option Addr) (len cap : Nat) (l h : Int), P.underlying t = some (.slice e) → P.info? e = some i → i.size = sz → boundA 0 lo = some l → boundA len hi = some h → 0 ≤ l → l ≤ h → h ≤ cap →
      Qy P (Instr.sliceAt t (.slice a len cap) lo' hi' none) w (.slice (if cap = l.toNat then a else a.map (·.add (l.toNat * sz))) (h.toNat - l.toNat) (cap - l.toNat)) := by
    intro e sz i a len cap l h hu hi' hsz hlo hhi h0 h1 h2 w' _
    have hb := run_bounds (P := P) (φ := φ) (σ := σ) (w := w) true hlo hhi rlo rhi nlo nhi h0 h1 h2 w'
    simp [Instr.sliceAt, run_underlying hu, Instr.slice, hb, run_sizeOf_info hi', hsz]
  unfold sliceA at h
  split at h
  · rename_i s
    split at h
    · rename_i l hh hlo hhi
      split at h
      · rename_i hb
        obtain ⟨hs, h0, h1, h2⟩ := hb
        have hu := strTy_spec hs
        cases h
        cases hx
        have hsz : s.data.toList.length = s.size := by simp
        refine ⟨_, .lit _, fun w' _ => ?_⟩
        have hb := run_bounds (P := P) (φ := φ) (σ := σ) (w := w) (len := s.size) (cap := s.size) false hlo (by rw [← hsz]; exact hhi) rlo rhi nlo nhi h0 h1 (by rw [← hsz]; exact h2) w'
        have he : s.extract l.toNat hh.toNat = ⟨⟨(s.data.toList.drop l.toNat).take (hh.toNat - l.toNat)⟩⟩ := by
          apply ByteArray.ext
          rw [ByteArray.data_extract]
          apply Array.ext'
          simp
        simp only [Instr.sliceAt, Sem.run_bind, run_underlying hu, Result.andThen_ok, Instr.slice, Option.isSome_none, Bool.false_eq_true, if_false, hb, Sem.run_pure, he]
      · cases h
    · cases h
  · split at h
    · rename_i q l hh hs hlo hhi
      obtain ⟨e, sz, by_⟩ := q
      split at h
      · rename_i hb
        obtain ⟨rfl, rfl⟩ := hb
        cases h
        cases hx
        obtain ⟨hu, i, hi', hsz, _⟩ := sliceTy_spec hs
        refine ⟨_, .nils, ?_⟩
        have := sl e sz i none 0 0 0 0 hu hi' hsz hlo hhi (by omega) (by omega) (by omega)
        simpa using this
      · cases h
    · cases h
  · rename_i n cs
    split at h
    · rename_i e sz by_ l hh hs hlo hhi
      split at h
      · rename_i hb
        obtain ⟨h0, h1, h2⟩ := hb
        cases h
        obtain ⟨hu, i, hi', hsz, _⟩ := sliceTy_spec hs
        cases hx with
        | imm0 A c hc =>
          have el : l = 0 := by omega
          have eh : hh = 0 := by omega
          subst el; subst eh
          refine ⟨_, ?_, sl e sz i A 0 c 0 0 hu hi' hsz hlo hhi (by omega) (by omega) (by omega)⟩
          simp only [List.drop_nil, List.take_nil, Int.toNat_zero, Nat.sub_self]
          exact .imm0 _ _ (by omega)
        | imm _ _ ad c vs h3 h4 h5 h6 h7 h8 =>
          refine ⟨_, ?_, sl e sz i (some ad) n c l hh hu hi' hsz hlo hhi h0 h1 (by omega)⟩
          by_cases hc : c = l.toNat
          · have e0 : hh.toNat - l.toNat = 0 := by omega
            rw [if_pos hc, e0]
            simp only [Nat.zero_mul, List.take_zero]
            exact .imm0 _ _ (by omega)
          · rw [if_neg hc]
            obtain ⟨k1, k2⟩ := rv_shift (φ := φ) (σ := σ) (l.toNat * sz) h3 h4
            refine .imm _ _ _ _ (fun j => vs (l.toNat * sz + j)) (fun j hj => k1 j (by simp at hj ⊢; omega)) (fun j x hx => k2 j x ?_) (by rw [block_add]; exact h5) (by rw [block_add]; exact h6) (by omega) (by omega)
            rw [List.getElem?_take] at hx
            split at hx
            · exact hx
            · cases hx
      · cases h
    · cases h
  · rename_i id off n sz'
    split at h
    · rename_i e sz by_ l hh hs hlo hhi
      split at h
      · rename_i hb
        obtain ⟨rfl, h0, h1, h2⟩ := hb
        obtain ⟨hu, i, hi', hsz, _⟩ := sliceTy_spec hs
        cases hx with
        | arr _ _ _ _ c h3 h4 h5 h6 =>
          have run := sl e sz' i (some ⟨φ id, off, none⟩) n c l hh hu hi' hsz hlo hhi h0 h1 (by omega)
          obtain ⟨cur, e', fz, h7, h8⟩ := h6
          split at h
          · rename_i hl
            subst hl
            cases h
            refine ⟨_, ?_, run⟩
            simp only [Int.toNat_zero, Nat.zero_mul, Nat.sub_zero, Option.map_some, Addr.add_zero', ite_self]
            exact .arr id off _ sz' c h3 (by omega) h5 ⟨cur, e', fz, h7, h8⟩
          · split at h
            · rename_i hl hlt
              cases h
              refine ⟨_, ?_, run⟩
              rw [if_neg (by omega)]
              simp only [Option.map_some, Addr.add_lit]
              refine .arr id _ _ sz' _ h3 (by omega) (by omega) ⟨cur, e', fz, h7, ?_⟩
              have : l.toNat * sz' + (c - l.toNat) * sz' = c * sz' := by rw [← Nat.add_mul]; congr 1; omega
              omega
            · rename_i hl hge
              cases h
              refine ⟨_, ?_, run⟩
              have e0 : hh.toNat - l.toNat = 0 := by omega
              rw [e0]
              exact .imm0 _ _ (by omega)
      · cases h
    · cases h
  · cases h

/-! ### Arithmetic and comparisons -/
theorem run_shiftBin {op : BinOp} {k k' : IntKind} {a b : Int} {z : AV} (t : TypeId) (h : shiftBin op k a b = some z) : ∃ r, z = .lit r ∧ ∀ w : World, (binOp op t (.int k a) (.int k' b)).run P w = .ok r w := by
  unfold shiftBin at h
  cases op <;> simp only at h <;> first
    | (split at h
       · cases h
       · rename_i hb; cases h; exact ⟨_, rfl, fun w => by simp [binOp, Op.shift, hb, shlI, shrI]⟩)
    | cases h
theorem run_intBin {op : BinOp} {k : IntKind} {a b : Int} {z : AV} (t : TypeId) (h : intBin op k a b = some z) : ∃ r, z = .lit r ∧ ∀ w : World, (binOp op t (.int k a) (.int k b)).run P w = .ok r w := by
  unfold intBin at h
  cases op <;> simp only at h
  case and => cases h; exact ⟨_, rfl, fun w => by simp [binOp]; rfl⟩
  case or => cases h; exact ⟨_, rfl, fun w => by simp [binOp]; rfl⟩
  case xor => cases h; exact ⟨_, rfl, fun w => by simp [binOp]; rfl⟩
  case andNot => cases h; exact ⟨_, rfl, fun w => by simp [binOp]; rfl⟩
  case shl => exact run_shiftBin t h
  case shr => exact run_shiftBin t h
  all_goals first
    | (cases h; exact ⟨_, rfl, fun w => by simp [binOp, Op.intArith, Op.intCmp]⟩)
    | (split at h
       · cases h
       · rename_i hb; cases h; exact ⟨_, rfl, fun w => by simp [binOp, Op.intDiv, hb]⟩)
    | cases h

theorem run_strBin {op : BinOp} {a b : ByteArray} {z : AV} (t : TypeId) (h : strBin op a.data.toList b.data.toList = some z) : ∃ r, z = .lit r ∧ ∀ w : World, (binOp op t (.string a) (.string b)).run P w = .ok r w := by
  unfold strBin at h
  cases op <;> simp only at h
  case add =>
    split at h
    · rename_i hl
      cases h
      refine ⟨_, rfl, fun w => ?_⟩
      have hl' : ¬ (9223372036854775807 < (a.size : Int) + (b.size : Int)) := by simp at hl; omega
      have e : a ++ b = ⟨⟨a.data.toList ++ b.data.toList⟩⟩ := by
        apply ByteArray.ext
        rw [ByteArray.data_append]
        apply Array.ext'
        simp
      simp [binOp, Op.stringOp, hl', e]
    · cases h
  all_goals first
    | (cases h; exact ⟨_, rfl, fun w => by simp [binOp, Op.stringOp, ByteArray.toList_eq, bne]⟩)
    | cases h

theorem rv_eqCell {d : Nat} {t : TypeId} {x y : AV} {b : Bool} {u v : Value} (h : eqCell x y = some b) (fx : cellFits P t x = true) (fy : cellFits P t y = true) (hx : RvM φ σ w x u) (hy : RvM φ σ w y v) (w' : World) : (Op.equalIn (d + 1) t u v).run P w' = .ok b w' := by
  unfold eqCell at h
  split at h
  · rename_i k a k' b'
    split at h
    · rename_i hk
      subst hk
      cases h; cases hx; cases hy
      simp only [cellFits] at fx
      obtain ⟨q, hq⟩ := Option.isSome_iff_exists.1 fx
      simp [Op.equalIn, run_underlying (intTy_spec hq)]
    · cases h
  · cases h; cases hx; cases hy
    simp only [cellFits] at fx
    exact run_equalIn_bool' w' d t _ _ (boolTy_spec fx)
  · cases h; cases hx; cases hy
    simp only [cellFits] at fx
    rw [run_equalIn_string w' d t _ _ (strTy_spec fx), ByteArray.toList_eq, ByteArray.toList_eq]
  · cases h

theorem rv_eqFields {d : Nat} (xs ys : Array Value) : ∀ (fs : List Field) (i : Nat) (as bs : List AV) (b : Bool), (∀ (j : Nat) (f : Field), fs[j]? = some f → f.offset = i + j ∧ (f.name != "_") = true ∧ aggTy P f.type = some false) → as.length = fs.length → bs.length = fs.length →
    (∀ (j : Nat) (f : Field) (x : AV), fs[j]? = some f → as[j]? = some x → cellFits P f.type x = true) → (∀ (j : Nat) (f : Field) (x : AV), fs[j]? = some f → bs[j]? = some x → cellFits P f.type x = true) →
    (∀ (j : Nat) (x : AV), as[j]? = some x → ∃ u, xs[i + j]? = some u ∧ RvM φ σ w x u) → (∀ (j : Nat) (x : AV), bs[j]? = some x → ∃ u, ys[i + j]? = some u ∧ RvM φ σ w x u) →
    eqCells as bs = some b → ∀ w' : World, (Op.eqFields (d + 1) xs ys fs).run P w' = .ok b w'
  | [], _, as, bs, b, _, ha, hb, _, _, _, _, h, w' => by
    have ha' : as = [] := List.eq_nil_of_length_eq_zero (by simpa using ha)
    have hb' : bs = [] := List.eq_nil_of_length_eq_zero (by simpa using hb)
    subst ha'; subst hb'
    simp only [eqCells, Option.some.injEq] at h
    subst h
    rfl
  | f :: fs, i, [], bs, b, _, ha, hb, _, _, _, _, h, w' => by simp at ha
  | f :: fs, i, a :: as, [], b, _, ha, hb, _, _, _, _, h, w' => by simp at hb
  | f :: fs, i, a :: as, c :: bs, b, hf, ha, hb, fa, fb, ra, rb, h, w' => by
    obtain ⟨h0, h1, h2⟩ := hf 0 f rfl
    obtain ⟨u, hu, ru⟩ := ra 0 a rfl
    obtain ⟨v, hv, rv⟩ := rb 0 c rfl
    simp only [eqCells] at h
    cases he : eqCell a c with
    | none => simp [he] at h
    | some b1 =>
      cases hes : eqCells as bs with
      | none => simp [he, hes] at h
      | some b2 =>
        simp only [he, hes, Option.bind_some, Option.map_some, Option.some.injEq] at h
        subst h
        have e1 := rv_eqCell (P := P) (d := d) he (fa 0 f a rfl rfl) (fb 0 f c rfl rfl) ru rv w'
        have ih := rv_eqFields (d := d) xs ys fs (i + 1) as bs b2 (fun j g hg => by have := hf (j + 1) g (by simpa using hg); refine ⟨by omega, this.2⟩) (by simpa using ha) (by simpa using hb)
          (fun j g x hg hx => fa (j + 1) g x (by simpa using hg) (by simpa using hx)) (fun j g x hg hx => fb (j + 1) g x (by simpa using hg) (by simpa using hx))
          (fun j x hx => by have := ra (j + 1) x (by simpa using hx); rwa [show i + (j + 1) = i + 1 + j by omega] at this) (fun j x hx => by have := rb (j + 1) x (by simpa using hx); rwa [show i + (j + 1) = i + 1 + j by omega] at this) hes w'
        simp only [Nat.add_zero] at hu hv h0
        have hn : (f.name ≠ "_") := by simpa using h1
        simp only [Op.eqFields, hn, ne_eq, not_false_eq_true, if_true, Sem.run_bind, part, run_isAgg' h2, Result.andThen_ok, Bool.false_eq_true, if_false, h0, hu, hv, Sem.run_pure, e1]
        cases b1
        · simp
        · simp [ih]

theorem all_zip {α β : Type} {p : α × β → Bool} : ∀ {as : List α} {bs : List β}, (as.zip bs).all p = true → ∀ (j : Nat) (a : α) (b : β), as[j]? = some a → bs[j]? = some b → p (a, b) = true
  | [], bs, _, j, a, b, ha, _ => by simp at ha
  | a' :: as, [], _, j, a, b, _, hb => by simp at hb
  | a' :: as, b' :: bs, h, 0, a, b, ha, hb => by simp at ha hb h; subst ha; subst hb; exact h.1
  | a' :: as, b' :: bs, h, j + 1, a, b, ha, hb => by
    simp only [List.zip_cons_cons, List.all_cons, Bool.and_eq_true] at h
    exact all_zip h.2 j a b (by simpa using ha) (by simpa using hb)

theorem plainTy_spec {t : TypeId} {ts : List TypeId} (h : plainTy P t = some ts) : ∃ fs, P.underlying t = some (.struct fs) ∧ ts = fs.toList.map (·.type) ∧ P.stoodInHeld t = false ∧ P.eqGuardType P.depth t = false ∧
    ∀ (j : Nat) (f : Field), fs.toList[j]? = some f → f.offset = j ∧ (f.name != "_") = true ∧ aggTy P f.type = some false := by
  unfold plainTy at h
  split at h
  · rename_i fs hfs
    split at h
    · rename_i hc
      cases h
      simp only [Bool.and_eq_true, Bool.not_eq_true', List.all_eq_true] at hc
      refine ⟨fs, hfs, rfl, hc.1.2, hc.2, fun j f hf => ?_⟩
      have hm : (f, j) ∈ fs.toList.zipIdx := by
        rw [List.mem_iff_getElem?]
        exact ⟨j, by simp [List.getElem?_zipIdx, hf]⟩
      have := hc.1.1 (f, j) hm
      simp only [beq_iff_eq] at this
      refine ⟨this.1.1.1, this.1.1.2, ?_⟩
      obtain ⟨_, h4⟩ := this
      unfold aggTy
      cases hu : P.underlying f.type with
      | none => simp [hu] at h4
      | some d => cases d <;> simp [hu] at h4 ⊢
    · cases h
  · cases h

theorem rv_eqStruct {t : TypeId} {ts : List TypeId} {xs ys : List AV} {us vs : List Value} {b : Bool} (hp : plainTy P t = some ts) (hl : xs.length = ts.length) (hl' : ys.length = ts.length)
    (fx : (ts.zip xs).all (fun (u, x) => cellFits P u x) = true) (fy : (ts.zip ys).all (fun (u, x) => cellFits P u x) = true) (he : eqCells xs ys = some b)
    (h1 : xs.length = us.length) (h2 : ∀ (j : Nat) (x : AV) (v : Value), xs[j]? = some x → us[j]? = some v → RvM φ σ w x v) (h3 : ys.length = vs.length) (h4 : ∀ (j : Nat) (x : AV) (v : Value), ys[j]? = some x → vs[j]? = some v → RvM φ σ w x v) (w' : World) :
    (Op.equalIn 10000 t (.agg us.toArray) (.agg vs.toArray)).run P w' = .ok b w' ∧ ∀ op x y, (eqGuard op t x y (.agg us.toArray) (.agg vs.toArray)).run P w' = .ok () w' := by
  obtain ⟨fs, hu, rfl, hs, hg, hf⟩ := plainTy_spec hp
  have hfo : P.fieldsOf t = fs := by simp [Program.fieldsOf, hu]
  refine ⟨?_, fun op x y => run_eqGuard_agg w' op t x y _ _ hg⟩
  rw [run_equalIn_struct w' 9999 t _ _ (by rw [hfo]; exact hu) hs, hfo]
  have get : ∀ (zs : List AV) (qs : List Value), zs.length = qs.length → (∀ (j : Nat) (x : AV) (v : Value), zs[j]? = some x → qs[j]? = some v → RvM φ σ w x v) → ∀ (j : Nat) (x : AV), zs[j]? = some x → ∃ u, qs.toArray[0 + j]? = some u ∧ RvM φ σ w x u := by
    intro zs qs hlen hr j x hx
    have hj : j < qs.length := by rw [← hlen]; exact (List.getElem?_eq_some_iff.1 hx).1
    exact ⟨qs[j], by simp [hj], hr j x _ hx (List.getElem?_eq_getElem hj)⟩
  have fits : ∀ (zs : List AV), ((fs.toList.map (·.type)).zip zs).all (fun (u, x) => cellFits P u x) = true → ∀ (j : Nat) (f : Field) (x : AV), fs.toList[j]? = some f → zs[j]? = some x → cellFits P f.type x = true := by
    intro zs hz j f x hjf hx
    exact all_zip hz j f.type x (by rw [List.getElem?_map, hjf]; rfl) hx
  exact rv_eqFields (P := P) (φ := φ) (σ := σ) (w := w) (d := 9998) us.toArray vs.toArray fs.toList 0 xs ys b (fun j f hj => by have := hf j f hj; exact ⟨by omega, this.2⟩) (by simpa using hl) (by simpa using hl') (fits xs fx) (fits ys fy) (get xs us h1 h2) (get ys vs h3 h4) he w'

theorem run_eqSlice {d : Nat} {t e : TypeId} (hs : P.underlying t = some (.slice e)) (n c m k : Nat) (w : World) :
    (∀ b, (Op.equalIn (d + 1) t (.slice none n c) (.slice b m k)).run P w = .ok b.isNone w) ∧ ∀ a, (Op.equalIn (d + 1) t (.slice (some a) n c) (.slice none m k)).run P w = .ok false w :=
  ⟨fun b => by simp [Op.equalIn, run_underlying hs], fun a => by simp [Op.equalIn, run_underlying hs]⟩

theorem rv_nilEq {t e : TypeId} {x y : AV} {b : Bool} {u v : Value} (hs : P.underlying t = some (.slice e)) (h : nilEq x y = some b) (hx : RvM φ σ w x u) (hy : RvM φ σ w y v) (w' : World) :
    (Op.equal t u v).run P w' = .ok b w' ∧ (∃ a n c, u = .slice a n c) ∧ (∃ a n c, v = .slice a n c) := by
  have r1 : ∀ b n c m k, (Op.equal t (.slice none n c) (.slice b m k)).run P w' = .ok b.isNone w' := fun b n c m k => (run_eqSlice (d := 9999) hs n c m k w').1 b
  have r2 : ∀ a n c m k, (Op.equal t (.slice (some a) n c) (.slice none m k)).run P w' = .ok false w' := fun a n c m k => (run_eqSlice (d := 9999) hs n c m k w').2 a
  unfold nilEq at h
  split at h
  · cases h; cases hx; cases hy
    exact ⟨r1 _ _ _ _ _, ⟨_, _, _, rfl⟩, ⟨_, _, _, rfl⟩⟩
  · split at h
    · cases h
      cases hy
      cases hx with
      | imm0 => omega
      | imm _ cs ad c vs => exact ⟨r2 _ _ _ _ _, ⟨_, _, _, rfl⟩, ⟨_, _, _, rfl⟩⟩
    · cases h
  · split at h
    · cases h
      cases hx
      cases hy with
      | imm0 => omega
      | imm _ cs ad c vs => exact ⟨r1 _ _ _ _ _, ⟨_, _, _, rfl⟩, ⟨_, _, _, rfl⟩⟩
    · cases h
  · cases h; cases hx; cases hy
    exact ⟨r2 _ _ _ _ _, ⟨_, _, _, rfl⟩, ⟨_, _, _, rfl⟩⟩
  · cases h; cases hx; cases hy
    exact ⟨r1 _ _ _ _ _, ⟨_, _, _, rfl⟩, ⟨_, _, _, rfl⟩⟩
  · cases h; cases hx; cases hy
    exact ⟨r2 _ _ _ _ _, ⟨_, _, _, rfl⟩, ⟨_, _, _, rfl⟩⟩
  · cases h; cases hx; cases hy
    exact ⟨r1 _ _ _ _ _, ⟨_, _, _, rfl⟩, ⟨_, _, _, rfl⟩⟩
  · cases h

theorem rv_bin {op : BinOp} {t : TypeId} {x y z : AV} {u v : Value} (xo yo : Operand) (h : binA P op t x y = some z) (hx : RvM φ σ w x u) (hy : RvM φ σ w y v) :
    ∃ r, RvM φ σ w z r ∧ Qy P (do eqGuard op t xo yo u v; binOp op t u v) w r := by
  unfold binA at h
  split at h
  · rename_i k a k' b
    split at h
    · rename_i hk
      subst hk
      cases hx; cases hy
      obtain ⟨r, rfl, hr⟩ := run_intBin (P := P) t h
      exact ⟨r, .lit r, fun w' _ => by simp [eqGuard_at_int, hr w']⟩
    · cases hx; cases hy
      obtain ⟨r, rfl, hr⟩ := run_shiftBin (P := P) (k' := k') t h
      exact ⟨r, .lit r, fun w' _ => by simp [eqGuard_at_int, hr w']⟩
  · cases hx; cases hy
    obtain ⟨r, rfl, hr⟩ := run_strBin (P := P) t h
    exact ⟨r, .lit r, fun w' _ => by simp [eqGuard_at_string, hr w']⟩
  · split at h
    · rename_i hb
      have hu := boolTy_spec hb
      cases hx; cases hy
      cases op <;> simp only at h <;> first
        | (cases h; exact ⟨_, .lit _, fun w' _ => by simp [eqGuard_at_bool, binOp, Op.equal, Op.maxDepth, run_equalIn_bool' w' 9999 t _ _ hu, bne]⟩)
        | cases h
    · cases h
  · rename_i xs ys
    split at h
    · rename_i ts hp
      split at h
      · rename_i hc
        obtain ⟨h1, h2, h3, h4⟩ := hc
        cases hx with
        | agg _ us k1 k2 k3 =>
          cases hy with
          | agg _ vs k4 k5 k6 =>
            cases he : eqCells xs ys with
            | none => cases op <;> simp [he] at h
            | some b =>
              have run := fun w' => rv_eqStruct (P := P) (φ := φ) (σ := σ) (w := w) hp h1 h2 h3 h4 he k1 k2 k4 k5 w'
              cases op <;> simp only [he, Option.map_some] at h <;> first
                | (cases h; refine ⟨_, .lit _, fun w' _ => ?_⟩; obtain ⟨q1, q2⟩ := run w'; simp [q2, run_eql_struct, run_neq_struct, q1])
                | cases h
      · cases h
    · cases h
  · split at h
    · rename_i q hq
      obtain ⟨e, sz, by_⟩ := q
      obtain ⟨hu, _⟩ := sliceTy_spec hq
      cases hn : nilEq x y with
      | none => cases op <;> simp [hn] at h
      | some b =>
        have run := fun w' => rv_nilEq (P := P) hu hn hx hy w'
        obtain ⟨_, ⟨a1, n1, c1, rfl⟩, ⟨a2, n2, c2, rfl⟩⟩ := run w
        cases op <;> simp only [hn, Option.map_some] at h <;> first
          | (cases h; refine ⟨_, .lit _, fun w' _ => ?_⟩; simp [eqGuard_at_slice, binOp, (run w').1])
          | cases h
    · cases h

theorem rv_un {op : UnOp} {x z : AV} {u : Value} (h : unA op x = some z) (hx : RvM φ σ w x u) : ∃ r, RvM φ σ w z r ∧ Qy P (Op.unary op u) w r := by
  unfold unA at h
  split at h
  · cases hx
    cases op <;> simp only at h <;> first | (cases h; exact ⟨_, .lit _, fun w' _ => by simp [Op.unary, Op.intArith]⟩) | cases h
  · cases hx
    cases op <;> simp only at h <;> first | (cases h; exact ⟨_, .lit _, fun w' _ => by simp [Op.unary]⟩) | cases h
  · cases h

theorem rv_conv {s d : TypeId} {x z : AV} {u : Value} (h : convA P s d x = some z) (hx : RvM φ σ w x u) : ∃ r, RvM φ σ w z r ∧ Qy P (convert s d u) w r := by
  unfold convA at h
  split at h
  · split at h
    · rename_i ds k hs hd
      have hd' := intTy_spec hd
      cases h; cases hx
      refine ⟨_, .lit _, fun w' _ => ?_⟩
      simp [convert, run_underlying hs, run_underlying hd', Conv.intToInt]
    · cases h
  · split at h
    · rename_i hc
      cases h; cases hx
      refine ⟨_, .lit _, fun w' _ => ?_⟩
      simp [convert, run_underlying (strTy_spec hc.1), run_underlying (strTy_spec hc.2)]
    · cases h
  · cases h

theorem rv_len {t : TypeId} {x z : AV} {u : Value} (ts : Array TypeId) (ty : TypeId) (ht : ts[0]? = some t) (h : lenA P t x = some z) (hx : RvM φ σ w x u) : ∃ r, RvM φ σ w z r ∧ Qy P (Builtin.len_ ts ty #[u]) w r := by
  have sl : ∀ (q : TypeId × Nat × Nat) (a : Option Addr) (n c : Nat), sliceTy P t = some q → Qy P (Builtin.len_ ts ty #[.slice a n c]) w (.int .i64 n) := fun q a n c hq w' _ => by
    obtain ⟨e, sz, by_⟩ := q
    obtain ⟨hu, _⟩ := sliceTy_spec hq
    simp [Builtin.len_, ht, run_underlying hu, goInt]
  unfold lenA at h
  split at h
  · split at h
    · rename_i s hs
      cases h; cases hx
      exact ⟨_, .lit _, fun w' _ => by simp [Builtin.len_, ht, run_underlying (strTy_spec hs), goInt]⟩
    · cases h
  · cases hq : sliceTy P t with
    | none => simp [hq] at h
    | some q => simp only [hq, Option.map_some, Option.some.injEq] at h; subst h; cases hx; exact ⟨_, .lit _, sl q none 0 0 hq⟩
  · cases hq : sliceTy P t with
    | none => simp [hq] at h
    | some q =>
      simp only [hq, Option.map_some, Option.some.injEq] at h
      subst h
      cases hx with
      | imm0 A c hc => exact ⟨_, .lit _, sl q A 0 c hq⟩
      | imm _ cs ad c vs => exact ⟨_, .lit _, sl q (some ad) _ c hq⟩
  · cases hq : sliceTy P t with
    | none => simp [hq] at h
    | some q => simp only [hq, Option.map_some, Option.some.injEq] at h; subst h; cases hx; exact ⟨_, .lit _, sl q _ _ _ hq⟩
  · cases h
end
end Go.Ew
namespace Go.Ew
open Go Go.RowKit

section
variable {P : Program} {φ : Nat → Nat} {σ : Mem} {w : World}

/-! ### Lists of cells -/
theorem rvL_nil : RvL φ σ w [] [] := ⟨rfl, fun j x v h => by simp at h⟩
theorem rvL_append {xs ys : List AV} {us vs : List Value} (h : RvL φ σ w xs us) (k : RvL φ σ w ys vs) : RvL φ σ w (xs ++ ys) (us ++ vs) := by
  refine ⟨by simp [h.1, k.1], fun j x v hx hv => ?_⟩
  by_cases hj : j < xs.length
  · rw [List.getElem?_append_left hj] at hx
    rw [List.getElem?_append_left (by rw [← h.1]; exact hj)] at hv
    exact h.2 j x v hx hv
  · rw [List.getElem?_append_right (by omega)] at hx
    rw [List.getElem?_append_right (by rw [← h.1]; omega), ← h.1] at hv
    exact k.2 _ x v hx hv
theorem rvL_take {xs : List AV} {us : List Value} (h : RvL φ σ w xs us) (n : Nat) : RvL φ σ w (xs.take n) (us.take n) := by
  refine ⟨by simp [h.1], fun j x v hx hv => ?_⟩
  rw [List.getElem?_take] at hx hv
  split at hx
  · rename_i hj
    rw [if_pos hj] at hv
    exact h.2 j x v hx hv
  · cases hx
theorem rvL_drop {xs : List AV} {us : List Value} (h : RvL φ σ w xs us) (n : Nat) : RvL φ σ w (xs.drop n) (us.drop n) := by
  refine ⟨by simp [h.1], fun j x v hx hv => ?_⟩
  rw [List.getElem?_drop] at hx hv
  exact h.2 _ x v hx hv
theorem rvL_splice {xs new : List AV} {us vs : List Value} (h : RvL φ σ w xs us) (k : RvL φ σ w new vs) (off : Nat) : RvL φ σ w (spliceA xs off new) (us.take off ++ vs ++ us.drop (off + vs.length)) := by
  unfold spliceA
  rw [k.1]
  exact rvL_append (rvL_append (rvL_take h off) k) (rvL_drop h _)
theorem rvL_map (vs : List Value) : RvL φ σ w (vs.map cellA) vs := ⟨by simp, rv_cells vs⟩

/-- What a block begins with, as the relation asks it. -/
theorem pre_of_rvL {cs : List AV} {vs : List Value} {cur : Array Value} (h : RvL φ σ w cs vs) (h1 : ∀ v ∈ vs, v.oneCell' = true) (hp : ∀ (j : Nat) (v : Value), vs[j]? = some v → cur[j]? = some v) :
    ∀ (j : Nat) (x : AV), cs[j]? = some x → ∃ v, cur[j]? = some v ∧ v.oneCell' = true ∧ RvM φ σ w x v := by
  intro j x hx
  have hj : j < vs.length := by rw [← h.1]; exact (List.getElem?_eq_some_iff.1 hx).1
  exact ⟨vs[j], hp j _ (List.getElem?_eq_getElem hj), h1 _ (List.getElem_mem hj), h.2 j x _ hx (List.getElem?_eq_getElem hj)⟩

/-- The cells of an object, out of its block. -/
theorem obj_cells (hr : RelM φ σ w) {id : Nat} {cs : List AV} (h : σ.get id = some cs) :
    ∃ (cur : Array Value), w.heap[φ id]? = some (.cells cur (σ.ty id) (0, 0)) ∧ cs.length ≤ cur.size ∧ RvL φ σ w cs (cur.toList.take cs.length) ∧ ∀ v ∈ cur.toList.take cs.length, v.oneCell' = true := by
  obtain ⟨cur, h1, h2, h3⟩ := hr.cell id cs h
  refine ⟨cur, h1, h2, ⟨by simp; omega, fun j x v hx hv => ?_⟩, fun v hv => ?_⟩
  · obtain ⟨u, h4, _, h6⟩ := h3 j x hx
    have hj : j < cs.length := (List.getElem?_eq_some_iff.1 hx).1
    rw [List.getElem?_take_of_lt hj, Array.getElem?_toList, h4] at hv
    cases hv
    exact h6
  · obtain ⟨j, hj, rfl⟩ := List.getElem_of_mem hv
    have hjc : j < cs.length := by simp at hj; omega
    obtain ⟨u, h4, h5, _⟩ := h3 j _ (List.getElem?_eq_getElem hjc)
    have : cur[j]? = some (cur.toList.take cs.length)[j] := by
      rw [List.getElem_take, Array.getElem_toList]
      exact Array.getElem?_eq_getElem (by omega)
    rw [h4] at this
    cases this
    exact h5

/-! ### Building -/
theorem foldl_set (off : Nat) : ∀ (l : List Value) (k : Nat) (cells : Array Value), off + k + l.length ≤ cells.size →
    (l.zipIdx k).foldl (fun cs (p : Value × Nat) => cs.setIfInBounds (off + p.2) p.1) cells = (cells.toList.take (off + k) ++ l ++ cells.toList.drop (off + k + l.length)).toArray
  | [], k, cells, h => by simp
  | v :: l, k, cells, h => by
    simp only [List.length_cons] at h
    rw [List.zipIdx_cons, List.foldl_cons, foldl_set off l (k + 1) _ (by simp; omega)]
    apply Array.ext'
    simp only [Array.toList_setIfInBounds, List.length_cons]
    apply List.ext_getElem?
    intro j
    have hlt : off + k < cells.size := by omega
    have m1 : min (off + (k + 1)) cells.size = off + (k + 1) := by omega
    have m2 : min (off + k) cells.size = off + k := by omega
    rcases Nat.lt_trichotomy j (off + k) with hj | hj | hj
    · simp [List.getElem?_append, hj, show j < off + (k + 1) by omega, show ¬ off + k = j by omega, m1, m2]
    · subst hj
      simp [List.getElem?_append, show off + k < off + (k + 1) by omega, m1, m2]
    · obtain ⟨d, rfl⟩ : ∃ d, j = off + k + 1 + d := ⟨j - (off + k + 1), by omega⟩
      simp only [List.append_assoc]
      rw [List.getElem?_append_right (by simp only [List.length_take, List.length_set, Array.length_toList, m1]; omega), List.getElem?_append_right (l₁ := cells.toList.take (off + k)) (by simp only [List.length_take, Array.length_toList, m2]; omega)]
      simp only [List.length_take, List.length_set, Array.length_toList, m1, m2]
      rw [show off + k + 1 + d - (off + (k + 1)) = d by omega, show off + k + 1 + d - (off + k) = d + 1 by omega, List.cons_append, List.getElem?_cons_succ]
      by_cases hd : d < l.length
      · rw [List.getElem?_append_left hd, List.getElem?_append_left hd]
      · rw [List.getElem?_append_right (by omega), List.getElem?_append_right (by omega), List.getElem?_drop, List.getElem?_drop, List.getElem?_set]
        rw [if_neg (by omega)]
        congr 1
        omega

/-- A splice within the first L cells. -/
theorem splice_take (A v : List Value) (off L : Nat) (h1 : off + v.length ≤ L) (h2 : L ≤ A.length) :
    (A.take off ++ v ++ A.drop (off + v.length)).take L = (A.take L).take off ++ v ++ (A.take L).drop (off + v.length) := by
  have m1 : min off A.length = off := by omega
  have m2 : min L A.length = L := by omega
  have m3 : min off L = off := by omega
  apply List.ext_getElem?
  intro j
  by_cases hL : j < L
  · rw [List.getElem?_take_of_lt hL]
    rcases Nat.lt_or_ge j off with hj | hj
    · simp [List.getElem?_append, m1, m2, m3, hj]
    · rcases Nat.lt_or_ge j (off + v.length) with hk | hk
      · simp [List.getElem?_append, m1, m2, m3, show ¬ j < off by omega, show j - off < v.length by omega]
      · simp [List.getElem?_append, m1, m2, m3, show ¬ j < off by omega, show ¬ j - off < v.length by omega, show off + v.length + (j - off - v.length) = j by omega, hL]
  · rw [List.getElem?_eq_none (by simp; omega), List.getElem?_eq_none (by simp; omega)]

/-- Parts, by content and the model's. -/
def RvP (φ : Nat → Nat) (σ : Mem) (w : World) : List (Nat × AV) → List (Nat × Value) → Prop
  | [], [] => True
  | (i, x) :: ps, (j, v) :: qs => i = j ∧ RvM φ σ w x v ∧ RvP φ σ w ps qs
  | _, _ => False

theorem rvP_parts {fr : Fr} {a : Act} (h : RelF φ σ w fr a.tmps) : ∀ ps : List (Nat × Operand), RvP φ σ w (ps.map fun (i, x) => (i, evalA fr x)) (ps.map fun (i, x) => (i, a.eval x))
  | [] => trivial
  | (_, x) :: ps => ⟨rfl, rv_eval h x, rvP_parts h ps⟩

theorem rv_fill {plA pl : Nat → Option (Nat × Nat)} (hpl : ∀ i q, plA i = some q → pl i = some q) : ∀ (ps : List (Nat × AV)) (qs : List (Nat × Value)) (cs out : List AV) (cells : Array Value), RvP φ σ w ps qs → RvL φ σ w cs cells.toList → (∀ v ∈ cells.toList, v.oneCell' = true) →
    fillA plA cs ps = some out → ∃ res, Instr.fill pl cells qs = some res ∧ RvL φ σ w out res.toList ∧ (∀ v ∈ res.toList, v.oneCell' = true) ∧ res.size = cells.size
  | [], [], cs, out, cells, _, hc, h1, h => by
    simp only [fillA, Option.some.injEq] at h
    subst h
    exact ⟨cells, rfl, hc, h1, rfl⟩
  | [], _ :: _, cs, out, cells, hp, hc, h1, h => hp.elim
  | _ :: _, [], cs, out, cells, hp, hc, h1, h => hp.elim
  | (_, x) :: ps, (_, v) :: qs, cs, out, cells, hp, hc, h1, h => by
    obtain ⟨rfl, hx, hp⟩ := hp
    simp only [fillA] at h
    split at h
    · rename_i off size new hpi hn
      split at h
      · rename_i hb
        obtain ⟨hl, hle⟩ := hb
        obtain ⟨k1, k2⟩ := rv_cellsA hn hx
        have hsz : v.cells.size = size := by have := k1.1; simp at this; omega
        have hcs : cs.length = cells.size := by simpa using hc.1
        have e : v.cells.zipIdx.foldl (fun cs (p : Value × Nat) => cs.setIfInBounds (off + p.2) p.1) cells = (cells.toList.take off ++ v.cells.toList ++ cells.toList.drop (off + v.cells.toList.length)).toArray := by
          rw [← Array.foldl_toList, Array.toList_zipIdx]
          exact foldl_set off v.cells.toList 0 cells (by simp; omega)
        have hs := rvL_splice hc k1 off
        obtain ⟨res, r1, r2, r3, r4⟩ := rv_fill hpl ps qs (spliceA cs off new) out (cells.toList.take off ++ v.cells.toList ++ cells.toList.drop (off + v.cells.toList.length)).toArray hp (by simpa using hs) (fun u hu => by
          simp only [List.mem_append] at hu
          rcases hu with (hu | hu) | hu
          · exact h1 u (List.mem_of_mem_take hu)
          · exact k2 u hu
          · exact h1 u (List.mem_of_mem_drop hu)) h
        refine ⟨res, ?_, r2, r3, ?_⟩
        · have hbad : (v.cells.size ≠ size || off + v.cells.size > cells.size) = false := by
            simp only [ne_eq, Bool.or_eq_false_iff, decide_eq_false_iff_not, Decidable.not_not]; omega
          simp only [Instr.fill, hpl _ _ hpi, hbad, Bool.false_eq_true, if_false]
          rw [e]
          exact r1
        · rw [r4]
          simp
          omega
      · cases h
    · cases h

theorem zeroTy_spec {t : TypeId} {z : List AV} (h : zeroTy P t = some z) : ∃ i v, P.info? t = some i ∧ i.zero = some v ∧ z = v.cells.toList.map cellA ∧ ∀ u ∈ v.cells.toList, u.oneCell' = true := by
  unfold zeroTy at h
  cases hi : P.info? t with
  | none => simp [hi] at h
  | some i =>
    cases hz : i.zero with
    | none => simp [hi, hz] at h
    | some v =>
      simp only [hi, hz, Option.bind_some] at h
      split at h
      · rename_i ha
        cases h
        exact ⟨i, v, rfl, hz, rfl, by simpa only [List.all_eq_true] using ha⟩
      · cases h

theorem rv_build {t : TypeId} {parts : List (Nat × AV)} {z : AV} {qs : Array (Nat × Value)} (h : buildA P t parts = some z) (hp : RvP φ σ w parts qs.toList) : ∃ r, RvM φ σ w z r ∧ Qy P (Instr.build t qs) w r := by
  unfold buildA at h
  split at h
  · rename_i zc pl hz hpl
    obtain ⟨i, v, hi, hv, rfl, h1⟩ := zeroTy_spec hz
    cases hf : fillA (fun i => pl[i]?) (v.cells.toList.map cellA) parts with
    | none => simp [hf] at h
    | some out =>
      simp only [hf, Option.map_some, Option.some.injEq] at h
      subst h
      unfold placesTy at hpl
      split at hpl
      · rename_i fs hu
        obtain ⟨res, r1, r2, r3, _⟩ := rv_fill (φ := φ) (σ := σ) (w := w) (plA := fun i => pl[i]?) (pl := (pl.toArray[·]?)) (fun i q hq => by simpa using hq) parts qs.toList _ out v.cells hp (rvL_map _) h1 hf
        refine ⟨.agg res, by simpa using Rv.agg (φ := φ) (n := σ.next) (L := Live φ σ) (w := w) out res.toList r2.1 r2.2 r3, fun w' _ => run_build w' t qs res ?_⟩
        unfold Program.built
        simp only [hi, hu, hv]
        have hpl' : (fs.toList.mapM fun f => (P.info? f.type).map fun i => (f.offset, i.size)) = some pl := hpl
        rw [hpl']
        exact r1
      · rename_i n e hu
        cases hie : P.info? e with
        | none => simp [hie] at hpl
        | some ie =>
          simp only [hie, Option.map_some, Option.some.injEq] at hpl
          subst hpl
          obtain ⟨res, r1, r2, r3, _⟩ := rv_fill (φ := φ) (σ := σ) (w := w) (plA := fun i => ((List.range n).map fun k => (k * ie.size, ie.size))[i]?) (pl := fun i => some (i * ie.size, ie.size)) (fun i q hq => by
            simp only [List.getElem?_map] at hq
            by_cases hin : i < n
            · rw [List.getElem?_range hin] at hq; simpa using hq
            · rw [List.getElem?_eq_none (by simpa using hin)] at hq; simp at hq) parts qs.toList _ out v.cells hp (rvL_map _) h1 hf
          refine ⟨.agg res, by simpa using Rv.agg (φ := φ) (n := σ.next) (L := Live φ σ) (w := w) out res.toList r2.1 r2.2 r3, fun w' _ => run_build w' t qs res ?_⟩
          unfold Program.built
          simp only [hi, hu, hv, hie]
          exact r1
      · cases hpl
  · cases h

/-! ### New memory -/
/-- What an operation that makes or writes memory comes to. -/
def Does (P : Program) (s : Sem Value) (φ : Nat → Nat) (σ : Mem) (w : World) (x : AV) (σ' : Mem) : Prop := ∃ v w' φ', s.run P w = .ok v w' ∧ RelM φ' σ' w' ∧ RvM φ' σ' w' x v ∧ Step φ σ w φ' σ' w'

theorem does_new {s : Sem Value} {cs : List AV} {cur : Array Value} {e : TypeId} {w' : World} (hr : RelM φ σ w) (vs : List Value) (hc : RvL φ σ w cs vs) (h1 : ∀ v ∈ vs, v.oneCell' = true) (hp : ∀ (j : Nat) (v : Value), vs[j]? = some v → cur[j]? = some v) (hl : vs.length ≤ cur.size)
    (hrun : s.run P w = .ok (.pointer (some ⟨w.heap.size, 0, none⟩)) w') (hw : w'.heap = w.heap.push (.cells cur e (0, 0))) (ho : w'.os = w.os) (ht : w'.tape = w.tape) (hu : w'.output = w.output) :
    Does P s φ σ w (.ptr σ.next 0) (σ.alloc e cs) := by
  obtain ⟨φ', h2, h3, h4⟩ := relM_alloc hr cs cur e (by rw [hc.1]; exact hl) (pre_of_rvL hc h1 hp) hw ho ht hu
  refine ⟨_, w', φ', hrun, h3, ?_, h4⟩
  rw [← h2]
  exact .ptr _ _ (Nat.lt_succ_self _)

theorem does_slice {s : Sem Value} {cs : List AV} {cur : Array Value} {e : TypeId} {w' : World} {n sz cap : Nat} (hr : RelM φ σ w) (vs : List Value) (hc : RvL φ σ w cs vs) (h1 : ∀ v ∈ vs, v.oneCell' = true) (hp : ∀ (j : Nat) (v : Value), vs[j]? = some v → cur[j]? = some v) (hl : vs.length ≤ cur.size)
    (hn : n ≤ cap) (hm : cap ≤ maxLen) (hs : cap * sz ≤ cur.size)
    (hrun : s.run P w = .ok (.slice (some ⟨w.heap.size, 0, none⟩) n cap) w') (hw : w'.heap = w.heap.push (.cells cur e (0, 0))) (ho : w'.os = w.os) (ht : w'.tape = w.tape) (hu : w'.output = w.output) :
    Does P s φ σ w (.arr σ.next 0 n sz) (σ.alloc e cs) := by
  obtain ⟨φ', h2, h3, h4⟩ := relM_alloc hr cs cur e (by rw [hc.1]; exact hl) (pre_of_rvL hc h1 hp) hw ho ht hu
  refine ⟨_, w', φ', hrun, h3, ?_, h4⟩
  rw [← h2]
  refine .arr _ _ _ _ _ (Nat.lt_succ_self _) hn hm ⟨cur, e, (0, 0), ?_, by omega⟩
  rw [h2, hw]
  simp

theorem does_alloc {t : TypeId} {z : List AV} (hr : RelM φ σ w) (hz : zeroTy P t = some z) : Does P (Instr.alloc t true (.tuple #[])) φ σ w (.ptr σ.next 0) (σ.alloc t z) := by
  obtain ⟨i, v, hi, hv, rfl, h1⟩ := zeroTy_spec hz
  refine does_new hr v.cells.toList (rvL_map _) h1 (cur := v.cells) (e := t) (w' := w.alloc (.cells v.cells t)) (fun j u hu => by simpa using hu) (by simp) ?_ rfl rfl rfl rfl
  simp [Instr.alloc, zeroValue, typeInfo, hi, hv, newVar, newRow]

theorem does_box {t : TypeId} {x : AV} {cs : List AV} {v : Value} (hr : RelM φ σ w) (hc : cellsA x = some cs) (hx : RvM φ σ w x v) : Does P (Instr.box t v) φ σ w (.ptr σ.next 0) (σ.alloc t cs) := by
  obtain ⟨k1, k2⟩ := rv_cellsA hc hx
  refine does_new hr v.cells.toList k1 k2 (cur := v.cells) (e := t) (w' := w.alloc (.cells v.cells t)) (fun j u hu => by simpa using hu) (by simp) ?_ rfl rfl rfl rfl
  simp [Instr.box, newVar, newRow]

/-! ### Zero cells -/
theorem length_zerosA (z : List AV) : ∀ n, (zerosA z n).length = n * z.length
  | 0 => by simp [zerosA]
  | n + 1 => by simp [zerosA, length_zerosA z n, Nat.add_mul]; omega
theorem getElem?_zerosA (z : List AV) (hz : 0 < z.length) : ∀ (n j : Nat), j < n * z.length → (zerosA z n)[j]? = z[j % z.length]?
  | 0, j, h => by simp at h
  | n + 1, j, h => by
    simp only [zerosA]
    by_cases hj : j < z.length
    · rw [List.getElem?_append_left hj, Nat.mod_eq_of_lt hj]
    · rw [List.getElem?_append_right (by omega), getElem?_zerosA z hz n (j - z.length) (by rw [Nat.add_mul] at h; omega)]
      congr 1
      exact (Nat.mod_eq_sub_mod (by omega)).symm

theorem rvL_zeros (zs : Array Value) (hz : 0 < zs.size) (n m : Nat) (hm : m = n * zs.size) : RvL φ σ w (zerosA (zs.toList.map cellA) n) ((List.range m).map fun j => zs[j % zs.size]!) := by
  subst hm
  refine ⟨by simp [length_zerosA], fun j x v hx hv => ?_⟩
  have hj : j < n * zs.size := by
    have := (List.getElem?_eq_some_iff.1 hx).1
    simpa [length_zerosA] using this
  rw [getElem?_zerosA _ (by simpa using hz) n j (by simpa using hj)] at hx
  rw [List.getElem?_map, List.getElem?_range hj] at hv
  simp only [Option.map_some, Option.some.injEq] at hv
  have hlt : j % zs.size < zs.size := Nat.mod_lt _ hz
  simp only [List.length_map, Array.length_toList, List.getElem?_map, Array.getElem?_toList, Array.getElem?_eq_getElem hlt, Option.map_some, Option.some.injEq] at hx
  subst hx; subst hv
  rw [getElem!_pos zs _ hlt]
  exact rv_cell _

theorem oneCell_zeros (zs : Array Value) (hz : 0 < zs.size) (h1 : ∀ u ∈ zs.toList, u.oneCell' = true) (m : Nat) : ∀ v ∈ (List.range m).map (fun j => zs[j % zs.size]!), v.oneCell' = true := by
  intro v hv
  simp only [List.mem_map] at hv
  obtain ⟨j, _, rfl⟩ := hv
  have hlt : j % zs.size < zs.size := Nat.mod_lt _ hz
  rw [getElem!_pos zs _ hlt]
  exact h1 _ (by simp)

theorem does_makeSlice {t : TypeId} {l c z : AV} {u v : Value} {σ' : Mem} (hr : RelM φ σ w) (h : makeSliceA P σ t l c = .ok z σ') (hl : RvM φ σ w l u) (hc : RvM φ σ w c v) : Does P (Instr.makeSlice t u v) φ σ w z σ' := by
  unfold makeSliceA at h
  split at h
  · rename_i e sz bytes hs
    obtain ⟨hu, i, hi, hsz, hby⟩ := sliceTy_spec hs
    split at h
    · rename_i zc l' c' hz hl' hc'
      obtain ⟨i', zv, hi', hzv, rfl, h1⟩ := zeroTy_spec hz
      rw [hi] at hi'
      cases hi'
      obtain ⟨kl, rfl⟩ := rv_int hl' hl
      obtain ⟨kc, rfl⟩ := rv_int hc' hc
      split at h
      · rename_i hb
        obtain ⟨b1, b2, b3, b4, b5, b6⟩ := hb
        cases h
        have hzsz : zv.cells.size = sz := by simpa using b1
        have run := run_make (P := P) w t e i zv hu hi hzv kl kc l' c' b3 b4 (by rw [hby]; exact b6) b5
        have hlc : l'.toNat ≤ c'.toNat := by omega
        have hmul : l'.toNat * sz ≤ c'.toNat * sz := Nat.mul_le_mul_right _ hlc
        refine does_slice hr _ (rvL_zeros zv.cells (by omega) l'.toNat (l'.toNat * sz) (by rw [hzsz])) (oneCell_zeros zv.cells (by omega) h1 _) (cur := madeCells zv.cells (c'.toNat * i.size)) (fun j u hu' => ?_) (by simp [size_madeCells, hsz]; exact hmul) hlc (by simp only [maxLen]; omega) (by rw [size_madeCells, hsz]; exact Nat.le_refl _) run rfl rfl rfl rfl
        have hj : j < l'.toNat * sz := by have := (List.getElem?_eq_some_iff.1 hu').1; simpa using this
        rw [List.getElem?_map, List.getElem?_range hj] at hu'
        have hj2 : j < c'.toNat * i.size := by rw [hsz]; omega
        simp only [madeCells, Array.getElem?_map]
        rw [Array.getElem?_range, if_pos hj2]
        simpa using hu'
      · cases h
    · cases h
  · cases h

theorem does_buildSlice {t : TypeId} {n : Nat} {parts : List (Nat × AV)} {z : AV} {σ' : Mem} {qs : Array (Nat × Value)} (hr : RelM φ σ w) (h : buildSliceA P σ t n parts = .ok z σ') (hp : RvP φ σ w parts qs.toList) : Does P (Instr.buildSlice t n qs) φ σ w z σ' := by
  unfold buildSliceA at h
  split at h
  · rename_i e sz bytes hs
    obtain ⟨hu, i, hi, hsz, _⟩ := sliceTy_spec hs
    split at h
    · rename_i zc hz
      obtain ⟨i', zv, hi', hzv, rfl, h1⟩ := zeroTy_spec hz
      rw [hi] at hi'
      cases hi'
      split at h
      · rename_i hb
        obtain ⟨b1, b2, b3⟩ := hb
        have hzsz : zv.cells.size = sz := by simpa using b1
        split at h
        · rename_i cells hf
          cases h
          have key : ∀ (zero : Array Value), (n * sz ≠ 0 → zero = zv.cells) → RvL φ σ w (zerosA (zv.cells.toList.map cellA) n) ((Array.range (n * sz)).map fun j => zero[j % zero.size]!).toList ∧ ∀ v ∈ ((Array.range (n * sz)).map fun j => zero[j % zero.size]!).toList, v.oneCell' = true := by
            intro zero hzero
            by_cases h0 : n * sz = 0
            · rw [h0]
              have : zerosA (zv.cells.toList.map cellA) n = [] := List.eq_nil_of_length_eq_zero (by rw [length_zerosA]; simpa [hzsz] using h0)
              rw [this]
              simp [rvL_nil, Array.range_zero']
            · rw [hzero h0]
              have hpos : 0 < zv.cells.size := by rw [hzsz]; exact Nat.pos_of_ne_zero (fun e => h0 (by rw [e, Nat.mul_zero]))
              simp only [Array.toList_map, Array.toList_range]
              exact ⟨rvL_zeros zv.cells hpos n (n * sz) (by rw [hzsz]), oneCell_zeros zv.cells hpos h1 _⟩
          have fin : ∀ zero : Array Value, (n * sz ≠ 0 → zero = zv.cells) → (∀ res, Instr.fill (fun i => some (i * sz, sz)) ((Array.range (n * sz)).map fun j => zero[j % zero.size]!) qs.toList = some res →
              (Instr.buildSlice t n qs).run P w = .ok (.slice (some ⟨w.heap.size, 0, none⟩) n n) (w.alloc (.cells res e))) → Does P (Instr.buildSlice t n qs) φ σ w (.arr σ.next 0 n sz) (σ.alloc e cells) := by
            intro zero hzero hrun
            obtain ⟨k1, k2⟩ := key zero hzero
            obtain ⟨res, r1, r2, r3, r4⟩ := rv_fill (plA := fun i => some (i * sz, sz)) (pl := fun i => some (i * sz, sz)) (fun i q hq => hq) parts qs.toList _ cells _ hp k1 k2 hf
            have hsize : res.size = n * sz := by rw [r4]; simp
            exact does_slice hr res.toList r2 r3 (cur := res) (fun j u hu' => by simpa using hu') (by simp) (Nat.le_refl n) (by simp only [maxLen]; omega) (by rw [hsize]; exact Nat.le_refl _) (hrun res r1) rfl rfl rfl rfl
          have hok : ¬ (16777216 < n * sz) := by omega
          by_cases h0 : n * sz = 0
          · refine fin #[] (fun h => absurd h0 h) (fun res r1 => ?_)
            simp only [Instr.buildSlice, Sem.run_bind, run_underlying hu, Result.andThen_ok, run_sizeOf_info hi, hsz, Sem.run_ite, gt_iff_lt, Nat.reducePow, Sem.run_pure, h0, if_true]
            rw [h0] at r1
            simp only [r1, Sem.run_bind, newRow, run_newObj, Sem.run_pure, Result.andThen_ok]
            rfl
          · refine fin zv.cells (fun _ => rfl) (fun res r1 => ?_)
            simp only [Instr.buildSlice, Sem.run_bind, run_underlying hu, Result.andThen_ok, run_sizeOf_info hi, hsz, Sem.run_ite, gt_iff_lt, Nat.reducePow, hok, if_false, Sem.run_pure, h0, zeroValue, typeInfo, hi, hzv, run_program, r1, newRow, run_newObj]
            rfl
        · cases h
      · cases h
    · cases h
  · cases h

/-! ### Stores -/
theorem does_store {t : TypeId} {a x z : AV} {u v : Value} {σ' : Mem} (hr : RelM φ σ w) (h : storeA P σ t a x = .ok z σ') (ha : RvM φ σ w a u) (hx : RvM φ σ w x v) :
    z = .undef ∧ ∃ w', (Instr.storeAt t u v).run P w = .ok () w' ∧ RelM φ σ' w' ∧ Step φ σ w φ σ' w' := by
  unfold storeA at h
  split at h
  · rename_i id off new hn
    split at h
    · rename_i cs hcs
      split at h
      · rename_i hb
        obtain ⟨b1, b2⟩ := hb
        cases h
        cases ha with
        | ptr _ _ hid =>
          obtain ⟨k1, k2⟩ := rv_cellsA hn hx
          obtain ⟨cur, g1, g2, g3, g4⟩ := obj_cells hr hcs
          have hvl : v.cells.toList.length = new.length := k1.1.symm
          have hvs : v.cells.size = new.length := by simpa using hvl
          have hle : off + 0 + v.cells.toList.length ≤ cur.size := by omega
          have run : (Instr.storeAt t (.pointer (some ⟨φ id, off, none⟩)) v).run P w = .ok () (w.setRow (φ id) (cur.toList.take off ++ v.cells.toList ++ cur.toList.drop (off + v.cells.toList.length)).toArray) := by
            have := run_storeCells_at P (φ id) off (σ.ty id) v.cells.toList 0 cur w g1 hle k2
            simp only [Nat.add_zero] at this
            simp [Instr.storeAt, Instr.sureAddr, storeVar, run_sizeOf' b1, hvs, this]
          refine ⟨rfl, _, run, ?_⟩
          have hsz' : (cur.toList.take off ++ v.cells.toList ++ cur.toList.drop (off + v.cells.toList.length)).toArray.size = cur.size := by simp; omega
          have hspl : (spliceA cs off new).length = cs.length := by simp [spliceA]; omega
          refine relM_write hr id cs (spliceA cs off new) hcs cur _ _ rfl g1 hsz' (fun i => ?_) (by simp) (by rw [hspl, hsz']; exact g2) ?_ rfl rfl rfl
          · split
            · rename_i hi; subst hi; exact setRow_heap w _ cur _ _ (0, 0) g1
            · rename_i hi; exact setRow_other w _ i _ hi
          · have hs := rvL_splice g3 k1 off
            refine pre_of_rvL hs (fun q hq => ?_) (fun j q hq => ?_)
            · simp only [List.mem_append] at hq
              rcases hq with (hq | hq) | hq
              · exact g4 q (List.mem_of_mem_take hq)
              · exact k2 q hq
              · exact g4 q (List.mem_of_mem_drop hq)
            · rw [List.getElem?_toArray]
              have hj : j < cs.length := by have := (List.getElem?_eq_some_iff.1 hq).1; simp at this; omega
              rw [← hq, ← splice_take cur.toList v.cells.toList off cs.length (by omega) (by simpa using g2), List.getElem?_take_of_lt hj]
      · cases h
    · cases h
  · cases h
end
end Go.Ew
namespace Go.Ew
open Go Go.RowKit

section
variable {P : Program} {φ : Nat → Nat} {σ : Mem} {w : World}

theorem rv_items {sz m : Nat} {x : AV} {new : List AV} {v : Value} (hr : RelM φ σ w) (h : itemsA σ sz x = some (m, new)) (hx : RvM φ σ w x v) :
    ∃ (A : Option Addr) (c : Nat) (news : List Value), v = .slice A m c ∧ RvL φ σ w new news ∧ (∀ u ∈ news, u.oneCell' = true) ∧ news.length = m * sz ∧ (A = none → m = 0) ∧ ∀ a, A = some a → ∀ (j : Nat) (u : Value), news[j]? = some u → w.cell? (a.add j) = some u := by
  cases hx with
  | nils =>
    cases h
    exact ⟨none, 0, [], rfl, rvL_nil, by simp, by simp, fun _ => rfl, fun a ha => by cases ha⟩
  | imm0 A c hc =>
    simp only [itemsA] at h
    split at h
    · cases h
      exact ⟨A, c, [], rfl, rvL_nil, by simp, by simp, fun _ => rfl, fun a _ j u hu => by simp at hu⟩
    · cases h
  | imm _ cs ad c vs h1 h2 h3 h4 h5 h6 =>
    simp only [itemsA] at h
    split at h
    · rename_i hl
      cases h
      refine ⟨some ad, c, (List.range new.length).map vs, rfl, ⟨by simp, fun j x v hx hv => ?_⟩, fun u hu => ?_, by simpa using hl, (fun h => by cases h), fun a ha j u hu => ?_⟩
      · have hj : j < new.length := (List.getElem?_eq_some_iff.1 hx).1
        rw [List.getElem?_map, List.getElem?_range hj] at hv
        simp only [Option.map_some, Option.some.injEq] at hv
        subst hv
        exact h2 j x hx
      · simp only [List.mem_map, List.mem_range] at hu
        obtain ⟨j, hj, rfl⟩ := hu
        exact (h1 j hj).2
      · cases ha
        have hj : j < new.length := by have := (List.getElem?_eq_some_iff.1 hu).1; simpa using this
        rw [List.getElem?_map, List.getElem?_range hj] at hu
        simp only [Option.map_some, Option.some.injEq] at hu
        subst hu
        exact (h1 j hj).1
    · cases h
  | arr id off n sz' c h1 h2 h3 h4 =>
    simp only [itemsA] at h
    cases hg : σ.get id with
    | none => simp [hg] at h
    | some cs =>
      simp only [hg, Option.bind_some] at h
      split at h
      · rename_i hb
        obtain ⟨rfl, hle⟩ := hb
        cases h
        obtain ⟨cur, g1, g2, g3, g4⟩ := obj_cells hr hg
        refine ⟨some ⟨φ id, off, none⟩, c, ((cur.toList.take cs.length).drop off).take (m * sz'), rfl, rvL_take (rvL_drop g3 off) _, fun u hu => g4 u (List.mem_of_mem_drop (List.mem_of_mem_take hu)), by simp; omega, (fun h => by cases h), fun a ha j u hu => ?_⟩
        cases ha
        have hj : j < m * sz' := by have := (List.getElem?_eq_some_iff.1 hu).1; simp at this; omega
        rw [List.getElem?_take_of_lt hj, List.getElem?_drop, List.getElem?_take_of_lt (by omega), Array.getElem?_toList] at hu
        rw [Addr.add_lit, cell_of_row w (φ id) (off + j) cur _ (0, 0) g1]
        exact hu
      · cases h
  | lit v =>
    cases v <;> first | (simp [itemsA] at h; done) | skip
    rename_i A n c
    cases n with
    | zero =>
      simp only [itemsA] at h
      cases h
      exact ⟨A, c, [], rfl, rvL_nil, by simp, by simp, fun _ => rfl, fun a _ j u hu => by simp at hu⟩
    | succ n => simp [itemsA] at h
  | _ => simp [itemsA] at h

theorem run_append_zero {t e : TypeId} {i : TypeInfo} (ht : P.underlying t = some (.slice e)) (hi : P.info? e = some i) (ty : TypeId) (base : Option Addr) (n cap : Nat) (hn : n ≤ cap) (A : Option Addr) (c : Nat) (w : World) :
    (Builtin.append_ #[t, t] ty #[.slice base n cap, .slice A 0 c]).run P w = .ok (.slice base n cap) w := by
  cases A <;> cases base <;> simp [Builtin.append_, run_underlying ht, sizeOf, typeInfo, hi, Builtin.lenOf, Builtin.firstCells, loadCells, loadCellsFrom, hn, storeCells]

theorem run_firstCells_string_nil (w : World) (s : ByteArray) (h : s.size = 0) : (Builtin.firstCells 1 0 (.string s)).run P w = .ok #[] w := by
  have := Lib.run_firstCells_string (P := P) w 1 s
  rw [h] at this
  rw [this]
  simp [List.eq_nil_of_length_eq_zero (by rw [Lib.strCells_length]; exact h : (Lib.strCells s).length = 0)]

theorem Mem.set_alloc (τ : Mem) (e : TypeId) (a b : List AV) : (τ.alloc e a).set τ.next b = τ.alloc e b := by
  unfold Mem.set Mem.alloc
  simp only [Mem.mk.injEq, true_and]
  funext i
  by_cases h : i = τ.next <;> simp [h]

theorem grownCap_bounds (w : World) (need old : Nat) (e : TypeId) (h : need ≤ maxLen) : need ≤ grownCap w need old e ∧ grownCap w need old e ≤ maxLen := ⟨grownCap_ge w need old e, grownCap_le_maxLen w need old e h⟩

theorem pre_append {a b : List Value} (c : Array Value) (j : Nat) (v : Value) (h : (a ++ b)[j]? = some v) : (a.toArray ++ b.toArray ++ c)[j]? = some v := by
  have hj := (List.getElem?_eq_some_iff.1 h).1
  rw [Array.getElem?_append_left (by simpa using hj)]
  simpa using h

theorem run_append_room' {t e e' : TypeId} {i : TypeInfo} (ht : P.underlying t = some (.slice e)) (hi : P.info? e = some i) (ty : TypeId)
    (g sLen sCap : Nat) (cur : Array Value) (hg : w.heap[g]? = some (.cells cur e' (0, 0)))
    (a : Addr) (m c : Nat) (news : List Value) (hl : news.length = m * i.size) (hnews : ∀ (j : Nat) (u : Value), news[j]? = some u → w.cell? (a.add j) = some u) (h1 : ∀ u ∈ news, u.oneCell' = true)
    (hroom : sLen + m ≤ sCap) (hfit : sLen * i.size + news.length ≤ cur.size) :
    (Builtin.append_ #[t, t] ty #[.slice (some ⟨g, 0, none⟩) sLen sCap, .slice (some a) m c]).run P w =
      .ok (.slice (some ⟨g, 0, none⟩) (sLen + m) sCap) (w.setRow g (cur.toList.take (sLen * i.size) ++ news ++ cur.toList.drop (sLen * i.size + news.length)).toArray) := by
  have hf := run_firstCells_some (P := P) w i.size m a m c news hl hnews
  have hst := run_storeCells_at P g (sLen * i.size) e' news 0 cur w hg (by simpa using hfit) h1
  simp only [Nat.add_zero] at hst
  simp [Builtin.append_, run_underlying ht, sizeOf, typeInfo, hi, Builtin.lenOf, hroom, hf, Addr.add_lit, hst]

theorem does_append {t ty : TypeId} {s x z : AV} {u v : Value} {σ' : Mem} (hr : RelM φ σ w) (h : appendA P σ t s x = .ok z σ') (hs : RvM φ σ w s u) (hx : RvM φ σ w x v) : Does P (Builtin.append_ #[t, t] ty #[u, v]) φ σ w z σ' := by
  unfold appendA at h
  split at h
  · rename_i e sz bytes hsl
    obtain ⟨hu, i, hi, hsz, hby⟩ := sliceTy_spec hsl
    split at h
    · rename_i zc m new hz hit
      obtain ⟨i', zv, hi', hzv, rfl, h1z⟩ := zeroTy_spec hz
      rw [hi] at hi'
      cases hi'
      obtain ⟨A, c, news, rfl, k1, k2, k3, k4, k5⟩ := rv_items hr hit hx
      split at h
      · rename_i hzl
        have hzs : zv.cells.size = sz := by simpa using hzl
        split at h
        · cases hs
          split at h
          · rename_i hm
            subst hm
            cases h
            exact ⟨_, w, φ, run_append_zero hu hi ty none 0 0 (Nat.le_refl _) A c w, hr, .nils, Step.refl _ _ _⟩
          · rename_i hm
            split at h
            · rename_i hb
              cases h
              cases A with
              | none => exact absurd (k4 rfl) hm
              | some a =>
                have run := run_append_nil (P := P) w t ty e i zv hu hi hzv a m c news (by rw [hsz]; exact k3) (k5 a rfl) (by omega) (by omega) (by rw [hby]; omega)
                obtain ⟨g1, g2⟩ := grownCap_bounds w m 0 e (by simp only [maxLen]; omega)
                refine does_slice hr news k1 k2 (cur := news.toArray ++ Builtin.zeroCells zv.cells (grownCap w m 0 e - m)) (fun j q hq => ?_) (by simp) g1 g2 ?_ run rfl rfl rfl rfl
                · rw [Array.getElem?_append_left (by have := (List.getElem?_eq_some_iff.1 hq).1; simpa using this), List.getElem?_toArray]
                  exact hq
                · rw [Array.size_append, List.size_toArray, size_zeroCells, hzs, k3, ← Nat.add_mul]
                  exact Nat.mul_le_mul_right _ (by omega)
            · cases h
        · rename_i id off n sz'
          split at h
          · rename_i cs hcs
            split at h
            · rename_i hb
              obtain ⟨rfl, rfl, hty, hle, hn63, hnb⟩ := hb
              cases h
              obtain ⟨cur, g1, g2, g3, g4⟩ := obj_cells hr hcs
              rw [hty] at g1
              cases hs with
              | arr _ _ _ _ cap q1 q2 q3 q4 =>
                have olds : RvL φ σ w (cs.take (n * sz')) ((cur.toList.take cs.length).take (n * sz')) := rvL_take g3 _
                have both := rvL_append olds k1
                have both1 : ∀ q ∈ (cur.toList.take cs.length).take (n * sz') ++ news, q.oneCell' = true := fun q hq => by
                  simp only [List.mem_append] at hq
                  rcases hq with hq | hq
                  · exact g4 q (List.mem_of_mem_take hq)
                  · exact k2 q hq
                have holen : ((cur.toList.take cs.length).take (n * sz')).length = n * sz' := by simp; omega
                by_cases hroom : n + m ≤ cap
                · obtain ⟨φ', r1, r2, r3⟩ := relM_rename hr id cs hcs e hty
                  obtain ⟨cq, eq, fq, q5, q6⟩ := q4
                  rw [g1] at q5
                  cases q5
                  simp only [Nat.zero_add] at q6
                  have newid : ((σ.kill id).alloc e cs).get σ.next = some cs := by simp [Mem.alloc, Mem.kill]
                  have hmul : n * sz' + m * sz' ≤ cap * sz' := by rw [← Nat.add_mul]; exact Nat.mul_le_mul_right _ hroom
                  have fin : ∀ (cur' : Array Value) (w' : World), cur'.size = cur.size → (∀ i, w'.heap[i]? = if i = φ' σ.next then some (.cells cur' e (0, 0)) else w.heap[i]?) → w'.heap.size = w.heap.size → w'.os = w.os → w'.tape = w.tape → w'.output = w.output →
                      (∀ (j : Nat) (q : Value), ((cur.toList.take cs.length).take (n * sz') ++ news)[j]? = some q → cur'[j]? = some q) →
                      (Builtin.append_ #[t, t] ty #[.slice (some ⟨φ id, 0, none⟩) n cap, .slice A m c]).run P w = .ok (.slice (some ⟨φ id, 0, none⟩) (n + m) cap) w' →
                      Does P (Builtin.append_ #[t, t] ty #[.slice (some ⟨φ id, 0, none⟩) n cap, .slice A m c]) φ σ w (.arr σ.next 0 (n + m) sz') ((σ.kill id).alloc e (cs.take (n * sz') ++ new)) := by
                    intro cur' w' hsz' hheap hsize ho ht hou hpre hrun
                    have W := relM_write r2 σ.next cs (cs.take (n * sz') ++ new) newid cur cur' e (by simp [Mem.alloc, Mem.kill]) (by rw [r1]; exact g1) hsz' hheap hsize (by rw [hsz']; have := both.1; simp at this ⊢; omega) (fun j x hx => by
                      obtain ⟨q, w1, w2, w3⟩ := pre_of_rvL both both1 hpre j x hx
                      exact ⟨q, w1, w2, w3.step r3⟩) ho ht hou
                    have e1 : ((σ.kill id).alloc e cs).set σ.next (cs.take (n * sz') ++ new) = (σ.kill id).alloc e (cs.take (n * sz') ++ new) := Mem.set_alloc (σ.kill id) e _ _
                    rw [e1] at W
                    refine ⟨_, w', φ', hrun, W.1, ?_, r3.trans W.2⟩
                    rw [← r1]
                    refine .arr _ _ _ _ _ (Nat.lt_succ_self _) hroom q3 ⟨cur', e, (0, 0), by rw [hheap, if_pos rfl], by omega⟩
                  by_cases hm : m = 0
                  · subst hm
                    have hnews : news = [] := List.eq_nil_of_length_eq_zero (by simpa using k3)
                    subst hnews
                    refine fin cur w rfl (fun i => ?_) rfl rfl rfl rfl (fun j q hq => ?_) (run_append_zero hu hi ty _ n cap q2 A c w)
                    · split
                      · rename_i hi; subst hi; rw [r1]; exact g1
                      · rfl
                    · rw [List.append_nil, List.take_take, List.getElem?_take] at hq
                      split at hq
                      · simpa using hq
                      · cases hq
                  · cases A with
                    | none => exact absurd (k4 rfl) hm
                    | some a =>
                      have run := run_append_room' (P := P) (w := w) hu hi ty (φ id) n cap cur g1 a m c news (by rw [hsz]; exact k3) (k5 a rfl) k2 hroom (by rw [hsz, k3]; omega)
                      rw [hsz] at run
                      refine fin (cur.toList.take (n * sz') ++ news ++ cur.toList.drop (n * sz' + news.length)).toArray (w.setRow (φ id) (cur.toList.take (n * sz') ++ news ++ cur.toList.drop (n * sz' + news.length)).toArray) (by simp; omega) (fun q => ?_) (by simp) rfl rfl rfl (fun j q hq => ?_) run
                      · rw [r1]
                        split
                        · rename_i hq; subst hq; exact setRow_heap w _ cur _ e (0, 0) g1
                        · rename_i hq; exact setRow_other w _ q _ hq
                      · rw [List.take_take, show min (n * sz') cs.length = n * sz' by omega] at hq
                        rw [List.getElem?_toArray, List.getElem?_append_left (by have := (List.getElem?_eq_some_iff.1 hq).1; simpa using this)]
                        exact hq
                · have K := relM_kill hr id
                  cases A with
                  | none => exact absurd (k4 rfl) (by omega)
                  | some a =>
                    have hcells : ∀ (j : Nat) (q : Value), ((cur.toList.take cs.length).take (n * sz'))[j]? = some q → w.cell? ((⟨φ id, 0, none⟩ : Addr).add j) = some q := fun j q hq => by
                      rw [Addr.add_lit, Nat.zero_add, cell_of_row w (φ id) j cur e (0, 0) g1]
                      rw [List.take_take, List.getElem?_take] at hq
                      split at hq
                      · simpa using hq
                      · cases hq
                    have run := run_append_grow (P := P) w t ty e i zv hu hi hzv ⟨φ id, 0, none⟩ n cap _ (by rw [hsz]; exact holen) hcells a m c news (by rw [hsz]; exact k3) (k5 a rfl) (by omega) (by omega) (by rw [hby]; exact growslice_fits (by omega) hnb)
                    obtain ⟨q5, q6⟩ := grownCap_bounds w (n + m) cap e (by simp only [maxLen]; omega)
                    have hlen := both.1
                    obtain ⟨v', w', φ', d1, d2, d3, d4⟩ := does_slice (sz := sz') K.1 _ (both.step K.2) both1 (cur := ((cur.toList.take cs.length).take (n * sz')).toArray ++ news.toArray ++ Builtin.zeroCells zv.cells (grownCap w (n + m) cap e - (n + m))) (fun j q hq => pre_append _ j q hq) (by simp) q5 q6 (by
                      rw [Array.size_append, Array.size_append, List.size_toArray, List.size_toArray, size_zeroCells, hzs, k3, holen, ← Nat.add_mul, ← Nat.add_mul]
                      exact Nat.mul_le_mul_right _ (by omega)) run rfl rfl rfl rfl
                    exact ⟨v', w', φ', d1, d2, d3, K.2.trans d4⟩
            · cases h
          · cases h
        · cases h
      · cases h
    · cases h
  · cases h

/-- A string's bytes, as cells. -/
theorem rvL_bytes (b : ByteArray) : RvL φ σ w (bytesA b.data.toList) (Lib.strCells b) := by
  refine ⟨by simp [bytesA, Lib.strCells], fun j x v hx hv => ?_⟩
  simp only [bytesA, Lib.strCells, List.getElem?_map] at hx hv
  cases hb : b.data.toList[j]? with
  | none => rw [hb] at hx; cases hx
  | some c =>
    rw [hb] at hx hv
    cases hx; cases hv
    exact .lit _

theorem does_copy {t u ty : TypeId} {d s z : AV} {x y : Value} {σ' : Mem} (hr : RelM φ σ w) (h : copyA P σ t d s = .ok z σ') (hd : RvM φ σ w d x) (hs : RvM φ σ w s y) : Does P (Builtin.copy_ #[t, u] ty #[x, y]) φ σ w z σ' := by
  unfold copyA at h
  split at h
  · rename_i e sz bytes hsl
    obtain ⟨hu, i, hi, hsz, hby⟩ := sliceTy_spec hsl
    split at h
    · rename_i m new hit
      obtain ⟨A, c, news, rfl, k1, k2, k3, k4, k5⟩ := rv_items hr hit hs
      split at h
      · rename_i id off n sz'
        split at h
        · rename_i cs hcs
          split at h
          · rename_i hb
            obtain ⟨rfl, rfl, b1, b2, b3⟩ := hb
            cases h
            cases hd with
            | arr _ _ _ _ cap q1 q2 q3 q4 =>
              obtain ⟨cur, g1, g2, g3, g4⟩ := obj_cells hr hcs
              cases A with
              | none => exact absurd (k4 rfl) (by omega)
              | some a =>
                have hkl : (news.take (min m n)).length = Nat.min m n := by
                  rw [List.length_take, k3, Nat.mul_one]; show min (min m n) m = min m n; omega
                have hkl' : (new.take (min m n)).length = (news.take (min m n)).length := by rw [List.length_take, List.length_take, k1.1]
                have hle : off + (news.take (min m n)).length ≤ cur.size := by rw [hkl]; have : Nat.min m n ≤ n := Nat.min_le_right _ _; omega
                have h1 : ∀ q ∈ news.take (min m n), q.oneCell' = true := fun q hq => k2 q (List.mem_of_mem_take hq)
                have run := run_copy_row (P := P) w t u ty e (φ id) off n cap a m c cur (σ.ty id) (news.take (min m n)) hu (by rw [hi]; simp [hsz]) g1 hkl (fun j v hv => k5 a rfl j v (by
                  rw [List.getElem?_take] at hv
                  split at hv
                  · exact hv
                  · cases hv)) hle h1
                have hsz' : (cur.toList.take off ++ news.take (min m n) ++ cur.toList.drop (off + (news.take (min m n)).length)).toArray.size = cur.size := by simp at hle ⊢; omega
                have hspl : (spliceA cs off (new.take (min m n))).length = cs.length := by
                  have hk2 : (new.take (min m n)).length ≤ n := by rw [hkl', hkl]; exact Nat.min_le_right _ _
                  generalize new.take (min m n) = nw at hk2 ⊢
                  simp [spliceA]; omega
                have W := relM_write (w' := w.setRow (φ id) (cur.toList.take off ++ news.take (min m n) ++ cur.toList.drop (off + (news.take (min m n)).length)).toArray) hr id cs (spliceA cs off (new.take (min m n))) hcs cur _ _ rfl g1 hsz' (fun i => by
                    split
                    · rename_i hi'; subst hi'; exact setRow_heap w _ cur _ _ (0, 0) g1
                    · rename_i hi'; exact setRow_other w _ i _ hi') (by simp) (by rw [hspl, hsz']; exact g2) (by
                    have hs := rvL_splice g3 (rvL_take k1 (min m n)) off
                    refine pre_of_rvL hs (fun q hq => ?_) (fun j q hq => ?_)
                    · simp only [List.mem_append] at hq
                      rcases hq with (hq | hq) | hq
                      · exact g4 q (List.mem_of_mem_take hq)
                      · exact h1 q hq
                      · exact g4 q (List.mem_of_mem_drop hq)
                    · rw [List.getElem?_toArray]
                      have hmn : Nat.min m n ≤ n := Nat.min_le_right _ _
                      have hj : j < cs.length := by have := (List.getElem?_eq_some_iff.1 hq).1; simp only [List.length_append, List.length_take, List.length_drop, hkl] at this; simp at this; omega
                      rw [← hq, ← splice_take cur.toList (news.take (min m n)) off cs.length (by rw [hkl]; omega) (by simpa using g2), List.getElem?_take_of_lt hj]) rfl rfl rfl
                refine ⟨_, _, φ, run, W.1, ?_, W.2⟩
                rw [hkl]
                exact .lit _
          · cases h
        · cases h
      · cases h
    · cases h
  · cases h
theorem does_appendStr {t t' ty : TypeId} {s x z : AV} {u v : Value} {σ' : Mem} (hr : RelM φ σ w) (h : appendStrA P σ t t' s x = .ok z σ') (hs : RvM φ σ w s u) (hx : RvM φ σ w x v) : Does P (Builtin.append_ #[t, t'] ty #[u, v]) φ σ w z σ' := by
  unfold appendStrA at h
  split at h
  · rename_i e sz bytes b hsl
    obtain ⟨hu, i, hi, hsz, hby⟩ := sliceTy_spec hsl
    cases hx
    split at h
    · rename_i zc hz
      obtain ⟨i', zv, hi', hzv, rfl, h1z⟩ := zeroTy_spec hz
      rw [hi] at hi'
      cases hi'
      split at h
      · rename_i hcond
        obtain ⟨hst, rfl, rfl, hzl⟩ := hcond
        have hut := strTy_spec hst
        have hzs : zv.cells.size = 1 := by simpa using hzl
        have hlb : (Lib.strCells b).length = b.data.toList.length := by simp [Lib.strCells]
        have hsb : b.size = b.data.toList.length := rfl
        have k1 := rvL_bytes (φ := φ) (σ := σ) (w := w) b
        have k2 := Lib.strCells_oneCell b
        split at h
        · cases hs
          split at h
          · rename_i hm
            cases h
            have hf := run_firstCells_string_nil (P := P) w b (by rw [hsb, hm]; rfl)
            have hb0 : b.size = 0 := by rw [hsb, hm]; rfl
            refine ⟨.slice none 0 0, w, φ, ?_, hr, .nils, Step.refl _ _ _⟩
            simp [Builtin.append_, run_underlying hu, run_underlying hut, sizeOf, typeInfo, hi, hsz, Builtin.lenOf, hb0, hf]
          · rename_i hm
            split at h
            · rename_i hb
              cases h
              have hpos : 0 < b.data.toList.length := List.length_pos_iff.2 hm
              have run := run_append_nil_string (P := P) w t t' ty e i zv hu hut hi hzv b (by omega) (by omega) (by rw [hby]; omega)
              obtain ⟨g1, g2⟩ := grownCap_bounds w b.size 0 e (by simp only [maxLen]; omega)
              rw [show (b.data.map fun c => Value.int .u8 c.toNat) = (Lib.strCells b).toArray by apply Array.ext'; simp [Lib.strCells]] at run
              refine does_slice hr (Lib.strCells b) k1 k2 (cur := (Lib.strCells b).toArray ++ Builtin.zeroCells zv.cells (grownCap w b.size 0 e - b.size)) (fun j q hq => ?_) (by simp) g1 g2 ?_ run rfl rfl rfl rfl
              · rw [Array.getElem?_append_left (by have := (List.getElem?_eq_some_iff.1 hq).1; simpa using this), List.getElem?_toArray]
                exact hq
              · rw [Array.size_append, List.size_toArray, size_zeroCells, hzs, hlb, ← hsb]
                omega
            · cases h
        · rename_i id off n sz'
          split at h
          · rename_i cs hcs
            split at h
            · rename_i hb
              obtain ⟨rfl, rfl, hty, hle, hn63⟩ := hb
              cases h
              obtain ⟨cur, g1, g2, g3, g4⟩ := obj_cells hr hcs
              rw [hty] at g1
              cases hs with
              | arr _ _ _ _ cap q1 q2 q3 q4 =>
                have olds : RvL φ σ w (cs.take n) ((cur.toList.take cs.length).take n) := rvL_take g3 _
                have both := rvL_append olds k1
                have both1 : ∀ q ∈ (cur.toList.take cs.length).take n ++ Lib.strCells b, q.oneCell' = true := fun q hq => by
                  simp only [List.mem_append] at hq
                  rcases hq with hq | hq
                  · exact g4 q (List.mem_of_mem_take hq)
                  · exact k2 q hq
                have holen : ((cur.toList.take cs.length).take n).length = n := by simp; omega
                rw [← hsb]
                by_cases hroom : n + b.size ≤ cap
                · obtain ⟨φ', r1, r2, r3⟩ := relM_rename hr id cs hcs e hty
                  obtain ⟨cq, eq, fq, q5, q6⟩ := q4
                  rw [g1] at q5
                  cases q5
                  simp only [Nat.zero_add, Nat.mul_one] at q6
                  have newid : ((σ.kill id).alloc e cs).get σ.next = some cs := by simp [Mem.alloc, Mem.kill]
                  have run := Lib.run_append_room_string (P := P) w t t' ty e i hu hut hi hsz (φ id) n cap cur g1 b hroom (by omega)
                  have htake : cur.toList.take n ++ Lib.strCells b = (cur.toList.take cs.length).take n ++ Lib.strCells b := by rw [List.take_take, show min n cs.length = n by omega]
                  have hheap : ∀ q, (w.setRow (φ id) (cur.toList.take n ++ Lib.strCells b ++ cur.toList.drop (n + b.size)).toArray).heap[q]? = if q = φ' σ.next then some (.cells (cur.toList.take n ++ Lib.strCells b ++ cur.toList.drop (n + b.size)).toArray e (0, 0)) else w.heap[q]? := fun q => by
                    rw [r1]
                    split
                    · rename_i hq; subst hq; exact setRow_heap w _ cur _ e (0, 0) g1
                    · rename_i hq; exact setRow_other w _ q _ hq
                  have hsz' : (cur.toList.take n ++ Lib.strCells b ++ cur.toList.drop (n + b.size)).toArray.size = cur.size := by simp [hlb, ← hsb]; omega
                  have W := relM_write r2 σ.next cs (cs.take n ++ bytesA b.data.toList) newid cur _ e (by simp [Mem.alloc, Mem.kill]) (by rw [r1]; exact g1) hsz' hheap (by simp) (by rw [hsz']; have := both.1; simp [hlb] at this ⊢; omega) (fun j x hx => by
                      obtain ⟨q, w1, w2, w3⟩ := pre_of_rvL both both1 (cur := (cur.toList.take n ++ Lib.strCells b ++ cur.toList.drop (n + b.size)).toArray) (fun j q hq => by
                        rw [← htake] at hq
                        rw [List.getElem?_toArray, List.getElem?_append_left (by have := (List.getElem?_eq_some_iff.1 hq).1; simpa using this)]
                        exact hq) j x hx
                      exact ⟨q, w1, w2, w3.step r3⟩) rfl rfl rfl
                  have e1 : ((σ.kill id).alloc e cs).set σ.next (cs.take n ++ bytesA b.data.toList) = (σ.kill id).alloc e (cs.take n ++ bytesA b.data.toList) := Mem.set_alloc (σ.kill id) e _ _
                  rw [e1] at W
                  refine ⟨_, _, φ', run, W.1, ?_, r3.trans W.2⟩
                  have hh := (hheap (φ' σ.next)).trans (if_pos rfl)
                  rw [← r1] at hh ⊢
                  exact .arr _ _ _ _ _ (Nat.lt_succ_self _) hroom q3 ⟨_, e, (0, 0), hh, by rw [hsz']; omega⟩
                · have K := relM_kill hr id
                  have hcells : ∀ (j : Nat) (q : Value), ((cur.toList.take cs.length).take n)[j]? = some q → w.cell? ((⟨φ id, 0, none⟩ : Addr).add j) = some q := fun j q hq => by
                    rw [Addr.add_lit, Nat.zero_add, cell_of_row w (φ id) j cur e (0, 0) g1]
                    rw [List.take_take, List.getElem?_take] at hq
                    split at hq
                    · simpa using hq
                    · cases hq
                  have run := Lib.run_append_grow_string (P := P) w t t' ty e i zv hu hut hi hzv ⟨φ id, 0, none⟩ n cap _ (by rw [hsz, Nat.mul_one]; exact holen) hcells b (by omega) (by omega) (by rw [hby]; exact growslice_fits (by omega) (by omega))
                  obtain ⟨q5, q6⟩ := grownCap_bounds w (n + b.size) cap e (by simp only [maxLen]; omega)
                  obtain ⟨v', w', φ', d1, d2, d3, d4⟩ := does_slice (sz := 1) K.1 _ (both.step K.2) both1 (cur := ((cur.toList.take cs.length).take n).toArray ++ (Lib.strCells b).toArray ++ Builtin.zeroCells zv.cells (grownCap w (n + b.size) cap e - (n + b.size))) (fun j q hq => pre_append _ j q hq) (by simp) q5 q6 (by
                    rw [Array.size_append, Array.size_append, List.size_toArray, List.size_toArray, size_zeroCells, hzs, hlb, holen, ← hsb]
                    omega) run rfl rfl rfl rfl
                  exact ⟨v', w', φ', d1, d2, d3, K.2.trans d4⟩
            · cases h
          · cases h
        · cases h
      · cases h
    · cases h
  · cases h

/-! ### Every operation -/
theorem val_ok {σ σ' : Mem} {o : Option AV} {x : AV} (h : NextA.val σ o = .ok x σ') : o = some x ∧ σ' = σ := by
  cases o with
  | none => cases h
  | some y => cases h; exact ⟨rfl, rfl⟩

theorem opt_rel {fr : Fr} {a : Act} (hf : RelF φ σ w fr a.tmps) (lo : Option Operand) : (∀ x, lo.map (evalA fr) = some x → ∃ v, lo.map a.eval = some v ∧ RvM φ σ w x v) ∧ (lo.map (evalA fr) = none → lo.map a.eval = none) := by
  cases lo with
  | none => exact ⟨fun x h => (by cases h), fun _ => rfl⟩
  | some o => exact ⟨fun x h => (by cases h; exact ⟨_, rfl, rv_eval hf o⟩), fun h => (by cases h)⟩

theorem run_value {P : Program} {s : Sem Value} {w w' : World} {v : Value} (h : s.run P w = .ok v w') : (do pure (Next.value (← s)) : Sem Next).run P w = .ok (.value v) w' := by simp [h]

theorem parts_map (ρ : Operand → Value) (parts : Array (Nat × Operand)) : (parts.map fun (i, x) => (i, ρ x)).toList = parts.toList.map fun (i, x) => (i, ρ x) := by simp

theorem rv_extract {x z : AV} {i : Nat} {v : Value} (h : extractA x i = some z) (hx : RvM φ σ w x v) : ∃ r, RvM φ σ w z r ∧ Qy P (Instr.extract v i) w r := by
  cases hx <;> first | (simp [extractA] at h; done) | skip
  rename_i xs vs hl hu
  simp only [extractA] at h
  have hi : i < vs.length := by rw [← hl]; exact (List.getElem?_eq_some_iff.1 h).1
  exact ⟨vs[i], hu i z _ h (List.getElem?_eq_getElem hi), fun w' _ => by simp [Instr.extract, hi]⟩

theorem evOp_quiet {o : Oper} {fr : Fr} {a : Act} {x : AV} {σ' : Mem} (hr : RelM φ σ w) (hf : RelF φ σ w fr a.tmps) (hq : quietOp o.op = true) (h : evOp P o.op (evalA fr) σ = .ok x σ') :
    σ' = σ ∧ ∃ v, RvM φ σ w x v ∧ ∀ w', Cls w w' → (execOp a.eval o).run P w' = .ok (.value v) w' := by
  obtain ⟨dst, op, type, pos, after, guard⟩ := o
  have fin : ∀ {s : Sem Value} {z : AV}, (∃ r, RvM φ σ w z r ∧ Qy P s w r) → σ' = σ → z = x → (∀ w', (execOp a.eval ⟨dst, op, type, pos, after, guard⟩).run P w' = (do pure (Next.value (← s)) : Sem Next).run P w') → σ' = σ ∧ ∃ v, RvM φ σ w x v ∧ ∀ w', Cls w w' → (execOp a.eval ⟨dst, op, type, pos, after, guard⟩).run P w' = .ok (.value v) w' := by
    rintro s z ⟨r, h1, h2⟩ h3 rfl h4
    exact ⟨h3, r, h1, fun w' hw' => by rw [h4]; exact run_value (h2 w' hw')⟩
  cases op <;> first | (simp [quietOp] at hq; done) | skip
  case move y => cases h; exact ⟨rfl, _, rv_eval hf y, fun w' _ => rfl⟩
  case assign y => cases h; exact ⟨rfl, _, rv_eval hf y, fun w' _ => rfl⟩
  case pick c y z =>
    obtain ⟨h1, h2⟩ := val_ok h
    have hc := rv_eval hf c
    unfold pickA at h1
    split at h1
    · rename_i b hcb
      rw [hcb] at hc
      cases h1
      refine ⟨h2, _, (show RvM φ σ w (if b then evalA fr y else evalA fr z) (if b then a.eval y else a.eval z) by cases b <;> simp [rv_eval hf]), fun w' _ => ?_⟩
      cases hv : a.eval c with
      | bool b' => rw [hv] at hc; cases hc; cases b <;> simp [execOp, hv, asBool]
      | _ => rw [hv] at hc; cases hc
    · cases h1
  case build t parts =>
    obtain ⟨h1, h2⟩ := val_ok h
    exact fin (rv_build h1 (qs := parts.map fun (i, x) => (i, a.eval x)) (by rw [parts_map]; exact rvP_parts hf parts.toList)) h2 rfl (fun w' => rfl)
  case load t y =>
    obtain ⟨h1, h2⟩ := val_ok h
    exact fin (rv_load hr h1 (rv_eval hf y)) h2 rfl (fun w' => rfl)
  case nilCheck y =>
    obtain ⟨h1, h2⟩ := val_ok h
    have hy := rv_eval hf y
    refine ⟨h2, a.eval y, ?_, fun w' _ => ?_⟩
    · unfold nilCheckA at h1
      split at h1 <;> first | (rename_i e; rw [e] at hy; cases h1; exact hy) | cases h1
    · unfold nilCheckA at h1
      split at h1 <;> first | (rename_i e; rw [e] at hy; cases hv : a.eval y <;> (rw [hv] at hy; cases hy) <;> simp [execOp, hv]) | cases h1
  case binOp op t y z yt =>
    obtain ⟨h1, h2⟩ := val_ok h
    exact fin (rv_bin y z h1 (rv_eval hf y) (rv_eval hf z)) h2 rfl (fun w' => rfl)
  case unOp op t y =>
    obtain ⟨h1, h2⟩ := val_ok h
    exact fin (rv_un h1 (rv_eval hf y)) h2 rfl (fun w' => rfl)
  case convert s d y =>
    obtain ⟨h1, h2⟩ := val_ok h
    exact fin (rv_conv h1 (rv_eval hf y)) h2 rfl (fun w' => rfl)
  case makeFunc fn first captured =>
    cases fn <;> first | (simp [evOp] at h; done) | skip
    rename_i g
    obtain ⟨captured⟩ := captured
    simp only [evOp] at h
    split at h
    · rename_i hs
      cases h
      have hs' : first = #[] := by simpa using hs
      subst hs'
      have := rv_evals hf captured
      exact ⟨rfl, .func (.func g) #[] (captured.map a.eval).toArray, Rv.fn (φ := φ) (n := σ.next) (L := Live φ σ) (w := w) g _ _ this.1 this.2, fun w' _ => by simp [execOp, Instr.makeFunc]⟩
    · cases h
  case slice t y lo hi mx =>
    cases mx with
    | some _ => simp [evOp] at h
    | none =>
      obtain ⟨h1, h2⟩ := val_ok h
      exact fin (rv_slice h1 (rv_eval hf y) (opt_rel hf lo).1 (opt_rel hf hi).1 (opt_rel hf lo).2 (opt_rel hf hi).2) h2 rfl (fun w' => rfl)
  case fieldAddr t y i =>
    obtain ⟨h1, h2⟩ := val_ok h
    exact fin (rv_fieldAddr h1 (rv_eval hf y)) h2 rfl (fun w' => rfl)
  case field t y i =>
    obtain ⟨h1, h2⟩ := val_ok h
    exact fin (rv_field h1 (rv_eval hf y)) h2 rfl (fun w' => rfl)
  case indexAddr t y i =>
    obtain ⟨h1, h2⟩ := val_ok h
    exact fin (rv_indexAddr h1 (rv_eval hf y) (rv_eval hf i)) h2 rfl (fun w' => rfl)
  case index t y i =>
    obtain ⟨h1, h2⟩ := val_ok h
    exact fin (rv_index h1 (rv_eval hf y) (rv_eval hf i)) h2 rfl (fun w' => rfl)
  case extract y i =>
    obtain ⟨h1, h2⟩ := val_ok h
    exact fin (rv_extract h1 (rv_eval hf y)) h2 rfl (fun w' => rfl)
  case call c =>
    obtain ⟨callee, args, ats⟩ := c
    cases callee <;> first | (simp [quietOp] at hq; done) | skip
    rename_i b
    obtain ⟨args⟩ := args
    obtain ⟨ats⟩ := ats
    cases b <;> first | (simp [quietOp] at hq; done) | skip
    case len =>
      match args, ats, h with
      | [y], t :: ts, h =>
        obtain ⟨h1, h2⟩ := val_ok h
        exact fin (rv_len (t :: ts).toArray type (by simp) h1 (rv_eval hf y)) h2 rfl (fun w' => by simp [execOp, resolve, invoke, builtin])
      | [], _, h => cases h
      | _ :: _ :: _, _, h => cases h
      | [_], [], h => cases h
    case max =>
      match args, h with
      | [y, z], h =>
        obtain ⟨h1, h2⟩ := val_ok h
        have hy := rv_eval hf y
        have hz := rv_eval hf z
        unfold maxA at h1
        split at h1
        · rename_i k p k' q e1 e2
          rw [e1] at hy; rw [e2] at hz
          split at h1
          · rename_i hk
            subst hk
            cases h1
            cases hv : a.eval y <;> rw [hv] at hy <;> cases hy
            cases hv' : a.eval z <;> rw [hv'] at hz <;> cases hz
            refine ⟨h2, _, .lit _, fun w' _ => ?_⟩
            have : (if q > p then q else p) = max p q := by omega
            simp [execOp, resolve, invoke, builtin, Builtin.max_, hv, hv', Builtin.max2]
            omega
          · cases h1
        · cases h1
      | [], h => cases h
      | [_], h => cases h
      | _ :: _ :: _ :: _, h => cases h
    case min =>
      match args, h with
      | [y, z], h =>
        obtain ⟨h1, h2⟩ := val_ok h
        have hy := rv_eval hf y
        have hz := rv_eval hf z
        unfold minA at h1
        split at h1
        · rename_i k p k' q e1 e2
          rw [e1] at hy; rw [e2] at hz
          split at h1
          · rename_i hk
            subst hk
            cases h1
            cases hv : a.eval y <;> rw [hv] at hy <;> cases hy
            cases hv' : a.eval z <;> rw [hv'] at hz <;> cases hz
            refine ⟨h2, _, .lit _, fun w' _ => ?_⟩
            simp [execOp, resolve, invoke, builtin, Builtin.min_, hv, hv', Builtin.min2]
            omega
          · cases h1
        · cases h1
      | [], h => cases h
      | [_], h => cases h
      | _ :: _ :: _ :: _, h => cases h

/-- Every operation: the model carries it out, with a value or with none. -/
theorem evOp_ok {o : Oper} {fr : Fr} {a : Act} {x : AV} {σ' : Mem} (hr : RelM φ σ w) (hf : RelF φ σ w fr a.tmps) (h : evOp P o.op (evalA fr) σ = .ok x σ') :
    ∃ n v w' φ', (execOp a.eval o).run P w = .ok n w' ∧ (n = .value v ∨ (n = .skip ∧ v = Go.undef)) ∧ RelM φ' σ' w' ∧ RvM φ' σ' w' x v ∧ Step φ σ w φ' σ' w' := by
  by_cases hq : quietOp o.op = true
  · obtain ⟨rfl, v, h1, h2⟩ := evOp_quiet hr hf hq h
    exact ⟨_, v, w, φ, h2 w (Cls.refl w), .inl rfl, hr, h1, Step.refl _ _ _⟩
  · obtain ⟨dst, op, type, pos, after, guard⟩ := o
    have fin : ∀ {s : Sem Value}, Does P s φ σ w x σ' → (execOp a.eval ⟨dst, op, type, pos, after, guard⟩).run P w = (do pure (Next.value (← s)) : Sem Next).run P w →
        ∃ n v w' φ', (execOp a.eval ⟨dst, op, type, pos, after, guard⟩).run P w = .ok n w' ∧ (n = .value v ∨ (n = .skip ∧ v = Go.undef)) ∧ RelM φ' σ' w' ∧ RvM φ' σ' w' x v ∧ Step φ σ w φ' σ' w' := by
      rintro s ⟨v, w', φ', h1, h2, h3, h4⟩ h5
      exact ⟨_, v, w', φ', by rw [h5]; exact run_value h1, .inl rfl, h2, h3, h4⟩
    cases op <;> first | (exact absurd rfl hq) | (simp [evOp] at h; done) | skip
    case alloc t =>
      simp only [evOp] at h
      split at h
      · rename_i z hz; cases h; exact fin (does_alloc hr hz) rfl
      · cases h
    case box t y =>
      simp only [evOp] at h
      split at h
      · rename_i cs hc; cases h; exact fin (does_box hr hc (rv_eval hf y)) rfl
      · cases h
    case buildSlice t n parts =>
      have h' : buildSliceA P σ t n (parts.toList.map fun (i, x) => (i, evalA fr x)) = .ok x σ' := h
      have hp : RvP φ σ w (parts.toList.map fun (i, x) => (i, evalA fr x)) (parts.map fun (i, x) => (i, a.eval x)).toList := by rw [parts_map]; exact rvP_parts hf parts.toList
      exact fin (does_buildSlice hr h' hp) rfl
    case makeSlice t l c =>
      have h' : makeSliceA P σ t (evalA fr l) (evalA fr c) = .ok x σ' := h
      exact fin (does_makeSlice hr h' (rv_eval hf l) (rv_eval hf c)) rfl
    case store t y z =>
      obtain ⟨rfl, w', h1, h2, h3⟩ := does_store hr h (rv_eval hf y) (rv_eval hf z)
      exact ⟨.skip, Go.undef, w', φ, by simp [execOp, h1], .inr ⟨rfl, rfl⟩, h2, .tup [] [] rfl (fun j x v h => by simp at h), h3⟩
    case call c =>
      obtain ⟨callee, args, ats⟩ := c
      cases callee
      case value f =>
        simp only [evOp] at h
        split at h <;> cases h
      case invoke r m => simp [evOp] at h
      case builtin b =>
        obtain ⟨args⟩ := args
        obtain ⟨ats⟩ := ats
        cases b <;> first | (exact absurd rfl hq) | (simp [evOp] at h; done) | skip
        case copy =>
          match args, ats, h with
          | [s, y], [t, u], h => exact fin (does_copy (u := u) (ty := type) hr h (rv_eval hf s) (rv_eval hf y)) (by simp [execOp, resolve, invoke, builtin])
          | [], _, h => cases h
          | [_], _, h => cases h
          | _ :: _ :: _ :: _, _, h => cases h
          | [_, _], [], h => cases h
          | [_, _], [_], h => cases h
          | [_, _], _ :: _ :: _ :: _, h => cases h
        match args, ats, h with
        | [s, y], [t, u], h =>
          simp only [evOp] at h
          split at h
          · rename_i ht
            subst ht
            exact fin (does_append (ty := type) hr h (rv_eval hf s) (rv_eval hf y)) (by simp [execOp, resolve, invoke, builtin])
          · exact fin (does_appendStr (ty := type) hr h (rv_eval hf s) (rv_eval hf y)) (by simp [execOp, resolve, invoke, builtin])
        | [], _, h => cases h
        | [_], _, h => cases h
        | _ :: _ :: _ :: _, _, h => cases h
        | [_, _], [], h => cases h
        | [_, _], [_], h => cases h
        | [_, _], _ :: _ :: _ :: _, h => cases h
end
end Go.Ew
namespace Go.Ew
open Go Go.RowKit

section
variable {P : Program} {φ : Nat → Nat} {σ : Mem} {w : World}

/-- A state of the model that stands for one of ours in which K holds. -/
def St (φ0 : Nat → Nat) (σ0 : Mem) (w0 : World) (N : Nat) (K : Fr → Mem → Prop) (a : Act) (w : World) : Prop :=
  ∃ φ σ fr, RelM φ σ w ∧ RelF φ σ w fr a.tmps ∧ a.defers = [] ∧ a.tmps.size = N ∧ Step φ0 σ0 w0 φ σ w ∧ K fr σ

/-- What the model owes where our stack is to be done. -/
def LK (P : Program) (φ0 : Nat → Nat) (σ0 : Mem) (w0 : World) (N : Nat) (Q : Fr → Mem → Prop) : List Itm → Exit → Act → World → Prop
  | [], e, a, w => match e with
    | .normal => St φ0 σ0 w0 N Q a w
    | .ret => St φ0 σ0 w0 N Q a w
    | _ => False
  | .code c :: k, e, a, w => match e with
    | .normal => c.wp P (LK P φ0 σ0 w0 N Q k) a w
    | e => LK P φ0 σ0 w0 N Q k e a w
  | .blk id :: k, e, a, w => match e with
    | .exit id' => if id' = id then LK P φ0 σ0 w0 N Q k .normal a w else LK P φ0 σ0 w0 N Q k (.exit id') a w
    | e => LK P φ0 σ0 w0 N Q k e a w
  | .goal K :: k, e, a, w => match e with
    | .normal => St φ0 σ0 w0 N K a w
    | e => LK P φ0 σ0 w0 N Q k e a w
  | .ops q l all :: k, e, a, w => match e with
    | .normal => if q then wpQuiet P all (Cls w) (fun a' => ∀ w', Cls w w' → LK P φ0 σ0 w0 N Q k .normal a' w') l a else wpList P all (LK P φ0 σ0 w0 N Q k) l a w
    | e => LK P φ0 σ0 w0 N Q k e a w
  | .run q o l all :: k, e, a, w => match e with
    | .normal => if q then o.quiet P a (Cls w) (wpQuiet P all (Cls w) (fun a' => ∀ w', Cls w w' → LK P φ0 σ0 w0 N Q k .normal a' w') l) else o.wp P a w (wpList P all (LK P φ0 σ0 w0 N Q k) l) (LK P φ0 σ0 w0 N Q k)
    | e => LK P φ0 σ0 w0 N Q k e a w

variable {φ0 : Nat → Nat} {σ0 : Mem} {w0 : World} {N : Nat} {Q : Fr → Mem → Prop}

theorem LK_ret : ∀ (k : List Itm) (a : Act) (w : World), St φ0 σ0 w0 N Q a w → LK P φ0 σ0 w0 N Q k .ret a w
  | [], _, _, h => h
  | .code _ :: k, a, w, h => LK_ret k a w h
  | .blk _ :: k, a, w, h => LK_ret k a w h
  | .goal _ :: k, a, w, h => LK_ret k a w h
  | .ops _ _ _ :: k, a, w, h => LK_ret k a w h
  | .run _ _ _ _ :: k, a, w, h => LK_ret k a w h

theorem LK_exit {id : Nat} : ∀ (k k' : List Itm) (a : Act) (w : World), dropTo id k = some k' → LK P φ0 σ0 w0 N Q k' .normal a w → LK P φ0 σ0 w0 N Q k (.exit id) a w
  | [], k', a, w, hd, h => by simp [dropTo] at hd
  | .blk id' :: k, k', a, w, hd, h => by
    simp only [dropTo] at hd
    simp only [LK]
    by_cases hid : id' = id
    · subst hid
      simp only [if_true, Option.some.injEq] at hd ⊢
      subst hd; exact h
    · simp only [hid, if_false] at hd
      rw [if_neg (fun e => hid e.symm)]
      exact LK_exit k k' a w hd h
  | .code _ :: k, k', a, w, hd, h => LK_exit k k' a w (by simpa [dropTo] using hd) h
  | .goal _ :: k, k', a, w, hd, h => LK_exit k k' a w (by simpa [dropTo] using hd) h
  | .ops _ _ _ :: k, k', a, w, hd, h => LK_exit k k' a w (by simpa [dropTo] using hd) h
  | .run _ _ _ _ :: k, k', a, w, hd, h => LK_exit k k' a w (by simpa [dropTo] using hd) h

theorem LK_code (c : Code) (k : List Itm) : LK P φ0 σ0 w0 N Q (.code c :: k) = Exit.then (c.wp P (LK P φ0 σ0 w0 N Q k)) (LK P φ0 σ0 w0 N Q k) := by
  funext e a w; cases e <;> rfl
theorem LK_blk (id : Nat) (k : List Itm) : LK P φ0 σ0 w0 N Q (.blk id :: k) = Exit.inBlock id (LK P φ0 σ0 w0 N Q k) := by
  funext e a w; cases e <;> rfl
theorem LK_goal (K : Fr → Mem → Prop) (k : List Itm) : LK P φ0 σ0 w0 N Q (.goal K :: k) = Exit.then (St φ0 σ0 w0 N K) (LK P φ0 σ0 w0 N Q k) := by
  funext e a w; cases e <;> rfl

/-- A loop by a number of one's own that each round lowers. -/
theorem wp_loop_ghost {c : Code} {Q : Exit → Act → World → Prop} {a : Act} {w : World} (I : Nat → Act → World → Prop) (n : Nat) (h₀ : I n a w)
    (round : ∀ n a w, I n a w → c.wp P (Exit.then (fun a' w' => ∃ m, m < n ∧ I m a' w') Q) a w) : (Code.loop c).wp P Q a w := by
  intro b k cs
  have key : ∀ n a w, I n a w → ∃ e a' w', Q e a' w' ∧ Arrives P (lone (b.at a (.code c :: .inLoop c :: k)) cs w) b k cs e a' w' := by
    intro n
    induction n using Nat.strongRecOn with
    | _ n ih =>
      intro a w hI
      obtain ⟨e, a₁, w₁, hq, harr⟩ := round n a w hI b (.inLoop c :: k) cs
      cases e with
      | normal =>
        obtain ⟨m, hlt, hI₁⟩ := hq
        obtain ⟨e₂, a₂, w₂, hq₂, harr₂⟩ := ih m hlt a₁ w₁ hI₁
        exact ⟨e₂, a₂, w₂, hq₂, .of_steps (Steps.trans harr (.one step_inLoop)) harr₂⟩
      | exit id => exact ⟨_, a₁, w₁, hq, .pass (x := .inLoop c) rfl (fun _ _ => .inl (by simp)) harr⟩
      | goto l => exact ⟨_, a₁, w₁, hq, .pass (x := .inLoop c) rfl (fun _ _ => .inl (by simp)) harr⟩
      | ret => exact ⟨_, a₁, w₁, hq, .pass (x := .inLoop c) rfl (fun _ _ => .inl (by simp)) harr⟩
      | panic ch => exact ⟨_, a₁, w₁, hq, .pass (x := .inLoop c) rfl (fun _ _ => .inl (by simp)) harr⟩
      | outgrown => exact ⟨_, a₁, w₁, hq, .pass (x := .inLoop c) rfl (fun _ _ => .inl (by simp)) harr⟩
  obtain ⟨e, a', w', hq, harr⟩ := key n a w h₀
  exact ⟨e, a', w', hq, .of_steps (.one step_loop) harr⟩

/-! ### Guards -/
theorem guard_run {all : Array Oper} {o : Oper} {fr : Fr} {t : Array Value} (h : guardA all o fr = .run) : Region.wanted o (yielded all t) = true := by
  unfold guardA at h
  unfold Region.wanted
  split at h
  · rename_i hg; simp [hg]
  · split at h
    · cases h
    · split at h <;> cases h

theorem guard_spec {all : Array Oper} {o : Oper} {fr : Fr} {t : Array Value} (hf : RelF φ σ w fr t) :
    (guardA all o fr = .skip → Region.wanted o (yielded all t) = false) ∧ ∀ x b, guardA all o fr = .test x b → Region.wanted o (yielded all t) = (x == b) := by
  unfold guardA Region.wanted yielded
  cases hg : o.guard with
  | none => exact ⟨fun h => (by cases h), fun x b h => (by cases h)⟩
  | some jb =>
    obtain ⟨j, b⟩ := jb
    simp only
    cases hd : (all[j]?).bind (·.dst) with
    | none => exact ⟨fun _ => (by simp), fun x b h => (by cases h)⟩
    | some d =>
      have hv := hf d
      simp only [Option.bind_some]
      rw [Array.getD_eq_getD_getElem?] at hv
      constructor
      · intro h
        split at h
        · cases h
        · rename_i e
          rw [e] at hv
          cases ht : t[d]? with
          | none => simp
          | some v =>
            rw [ht] at hv
            simp only [Option.getD_some] at hv
            cases hv
            simp
        · cases h
      · intro x b' h
        split at h
        · rename_i y e
          cases h
          rw [e] at hv
          cases ht : t[d]? with
          | none => rw [ht] at hv; simp only [Option.getD_none] at hv; cases hv
          | some v =>
            rw [ht] at hv
            simp only [Option.getD_some] at hv
            cases hv
            cases x <;> cases b <;> rfl
        · cases h
        · cases h

/-! ### Calls -/
theorem val_nc {q : Option AV} {f : FuncId} {args : List AV} : NextA.val σ q ≠ .call f args := by cases q <;> simp [NextA.val]
theorem append_nc {t : TypeId} {s x : AV} {f : FuncId} {args : List AV} : appendA P σ t s x ≠ .call f args := by
  unfold appendA; (repeat' split) <;> simp
theorem copy_nc {t : TypeId} {s x : AV} {f : FuncId} {args : List AV} : copyA P σ t s x ≠ .call f args := by
  unfold copyA; (repeat' split) <;> simp
theorem appendStr_nc {t u : TypeId} {s x : AV} {f : FuncId} {args : List AV} : appendStrA P σ t u s x ≠ .call f args := by
  unfold appendStrA; (repeat' split) <;> simp
theorem buildSlice_nc {t : TypeId} {n : Nat} {ps : List (Nat × AV)} {f : FuncId} {args : List AV} : buildSliceA P σ t n ps ≠ .call f args := by
  unfold buildSliceA; (repeat' split) <;> simp
theorem makeSlice_nc {t : TypeId} {l c : AV} {f : FuncId} {args : List AV} : makeSliceA P σ t l c ≠ .call f args := by
  unfold makeSliceA; (repeat' split) <;> simp
theorem store_nc {t : TypeId} {x y : AV} {f : FuncId} {args : List AV} : storeA P σ t x y ≠ .call f args := by
  unfold storeA; (repeat' split) <;> simp

theorem evOp_is_call {op : Op} {ρ : Operand → AV} {f : FuncId} {args : List AV} (h : evOp P op ρ σ = .call f args) :
    ∃ g cargs ats caps, op = .call ⟨.value g, cargs, ats⟩ ∧ ρ g = .fn f caps ∧ args = cargs.toList.map ρ ++ caps := by
  unfold evOp at h
  split at h <;> first | exact absurd h val_nc | exact absurd h buildSlice_nc | exact absurd h makeSlice_nc | exact absurd h store_nc | (cases h; done) | skip
  all_goals first
    | (split at h <;> cases h; done)
    | skip
  rename_i c
  obtain ⟨callee, cargs, ats⟩ := c
  cases callee with
  | value g =>
    simp only at h
    split at h <;> first | (cases h; done) | skip
    rename_i g' caps he
    cases h
    exact ⟨g, cargs, ats, caps, rfl, he, rfl⟩
  | invoke r m => cases h
  | builtin b =>
    cases b <;> first | (cases h; done) | skip
    all_goals
      simp only at h
      split at h <;> first | exact absurd h val_nc | exact absurd h copy_nc | (cases h; done) | skip
    split at h <;> first | exact absurd h append_nc | exact absurd h appendStr_nc | (cases h; done)

theorem evOp_call {o : Oper} {fr : Fr} {a : Act} {f : FuncId} {args : List AV} (hf : RelF φ σ w fr a.tmps) (h : evOp P o.op (evalA fr) σ = .call f args) (hc : Callable P f) :
    ∃ vs : List Value, RvL φ σ w args vs ∧ ∀ w', (execOp a.eval o).run P w' = .ok (.enter f vs.toArray) w' := by
  obtain ⟨dst, op, type, pos, after, guard⟩ := o
  obtain ⟨g, ⟨cargs⟩, ats, caps, rfl, he, rfl⟩ := evOp_is_call h
  have hg := rv_eval hf g
  rw [he] at hg
  cases hv : a.eval g <;> rw [hv] at hg <;> cases hg
  rename_i us hl hu
  have ha := rv_evals hf cargs
  refine ⟨cargs.map a.eval ++ us, ⟨by simp [hl], fun j x v hx hv => ?_⟩, fun w' => ?_⟩
  · by_cases hj : j < cargs.length
    · rw [List.getElem?_append_left (by simpa using hj)] at hx hv
      exact ha.2 j x v hx hv
    · rw [List.getElem?_append_right (by simpa using hj)] at hx hv
      simp only [List.length_map] at hx hv
      exact hu _ x v hx hv
  · obtain ⟨fn, h1, h2, h3⟩ := hc
    have h4 : ¬ fn.body = none := fun e => by rw [e] at h2; cases h2
    have h5 : ¬ fn.name = "runtime.NumGoroutine" := by simpa using h3
    simp [execOp, resolve, hv, Deferred.ofValue, invoke, callFunc, h1, h4, h5]

/-! ### Values that determine the model's -/
def conc1 : AV → Value
  | .lit v => v
  | _ => .slice none 0 0
def conc : AV → Value
  | .agg xs => .agg (xs.map conc1).toArray
  | .tup xs => .tuple (xs.map conc1).toArray
  | x => conc1 x

theorem rigid1 {n : Nat} {L : Nat → Prop} {xs : List AV} (h : (xs.all fun | .lit _ => true | .nils => true | _ => false) = true) {vs : List Value} (hl : xs.length = vs.length) (hv : ∀ (j : Nat) (x : AV) (v : Value), xs[j]? = some x → vs[j]? = some v → Rv φ n L w x v) : vs = xs.map conc1 := by
  apply List.ext_getElem?
  intro j
  rw [List.getElem?_map]
  cases hx : xs[j]? with
  | none =>
    have := List.getElem?_eq_none_iff.1 hx
    rw [List.getElem?_eq_none (by omega)]; rfl
  | some x =>
    have hj : j < vs.length := by rw [← hl]; exact (List.getElem?_eq_some_iff.1 hx).1
    have hr := hv j x _ hx (List.getElem?_eq_getElem hj)
    rw [List.getElem?_eq_getElem hj]
    have hm := List.all_eq_true.1 h x (List.mem_of_getElem? hx)
    simp only [Option.map_some, Option.some.injEq]
    generalize vs[j] = u at hr
    cases x <;> first | (simp at hm; done) | skip
    · cases hr; rfl
    · cases hr; rfl

theorem rigid_conc {n : Nat} {L : Nat → Prop} {x : AV} {v : Value} (h : rigidA x = true) (hv : Rv φ n L w x v) : v = conc x := by
  cases hv <;> first | (simp [rigidA] at h; done) | rfl | skip
  · rename_i xs vs h1 h2 h3
    rw [rigid1 h h1 h2]; rfl
  · rename_i xs vs h1 h2
    rw [rigid1 h h1 h2]; rfl

theorem rigid_any {n n' : Nat} {L L' : Nat → Prop} {φ' : Nat → Nat} {w' : World} {x : AV} {v : Value} (h : rigidA x = true) (hv : Rv φ n L w x v) : Rv φ' n' L' w' x v := by
  have el : ∀ {y : AV} {u : Value}, (match y with | .lit _ => true | .nils => true | _ => false) = true → Rv φ n L w y u → Rv φ' n' L' w' y u := by
    intro y u hy hu
    cases y <;> first | (simp at hy; done) | (cases hu; constructor)
  cases hv <;> first | (simp [rigidA] at h; done) | (constructor; done) | skip
  · rename_i xs vs h1 h2 h3
    exact .agg xs vs h1 (fun j x v hx hv => el (List.all_eq_true.1 h x (List.mem_of_getElem? hx)) (h2 j x v hx hv)) h3
  · rename_i xs vs h1 h2
    exact .tup xs vs h1 (fun j x v hx hv => el (List.all_eq_true.1 h x (List.mem_of_getElem? hx)) (h2 j x v hx hv))

/-! ### SOUNDNESS -/
theorem sound {k : List Itm} {fr : Fr} (h : EW P N Q k fr σ) : ∀ (φ : Nat → Nat) (w : World) (a : Act), RelM φ σ w → RelF φ σ w fr a.tmps → a.defers = [] → a.tmps.size = N → Step φ0 σ0 w0 φ σ w → LK P φ0 σ0 w0 N Q k .normal a w := by
  induction h with
  | nil hq => exact fun φ w a hr hf hd hn hs => ⟨φ, _, _, hr, hf, hd, hn, hs, hq⟩
  | goal hk => exact fun φ w a hr hf hd hn hs => ⟨φ, _, _, hr, hf, hd, hn, hs, hk⟩
  | blk _ ih => exact fun φ w a hr hf hd hn hs => ih φ w a hr hf hd hn hs
  | skip _ ih => exact fun φ w a hr hf hd hn hs => wp_skip (ih φ w a hr hf hd hn hs)
  | @seq x y k _ _ _ ih =>
    intro φ w a hr hf hd hn hs
    have := ih φ w a hr hf hd hn hs
    simp only [LK] at this ⊢
    refine wp_seq ?_
    rw [← LK_code y k]
    exact this
  | @cond c x y k fr σ t hc _ _ iht ihf =>
    intro φ w a hr hf hd hn hs
    have hv := rv_eval hf c
    rw [hc] at hv
    have hv' : a.eval c = .bool t := by
      cases he : a.eval c <;> rw [he] at hv <;> cases hv
      rfl
    exact wp_cond_split hv' (fun ht => iht ht φ w a hr hf hd hn hs) (fun ht => ihf ht φ w a hr hf hd hn hs)
  | @block id c k fr σ _ ih =>
    intro φ w a hr hf hd hn hs
    have := ih φ w a hr hf hd hn hs
    simp only [LK] at this ⊢
    refine wp_block ?_
    rw [← LK_blk id k]
    exact this
  | @loop c k fr σ I n h0 _ ih =>
    intro φ w a hr hf hd hn hs
    simp only [LK]
    refine wp_loop_ghost (fun n a w => St φ0 σ0 w0 N (I n) a w) n ⟨φ, σ, fr, hr, hf, hd, hn, hs, h0⟩ ?_
    rintro n a w ⟨φ, σ, fr, hr, hf, hd, hn', hs, hI⟩
    have : c.wp P (LK P φ0 σ0 w0 N Q (.goal (fun fr' σ' => ∃ m, m < n ∧ I m fr' σ') :: k)) a w := ih n fr σ hI φ w a hr hf hd hn' hs
    rw [LK_goal] at this
    refine Code.wp_mono (fun e a w he => ?_) this
    cases e with
    | normal =>
      obtain ⟨φ, σ, fr, k1, k2, k3, k4, k5, m, k6, k7⟩ := he
      exact ⟨m, k6, φ, σ, fr, k1, k2, k3, k4, k5, k7⟩
    | _ => exact he
  | exit hd _ ih => exact fun φ w a hr hf hde hn hs => wp_exit (LK_exit _ _ a w hd (ih φ w a hr hf hde hn hs))
  | ret hq => exact fun φ w a hr hf hd hn hs => wp_ret (LK_ret _ a w ⟨φ, _, _, hr, hf, hd, hn, hs, hq⟩)
  | region _ ih =>
    intro φ w a hr hf hd hn hs
    have := ih φ w a hr hf hd hn hs
    exact wp_region_list (by simpa [LK] using this)
  | regionD h1 h2 _ ih =>
    intro φ w a hr hf hd hn hs
    have := ih φ w a hr hf hd hn hs
    exact wp_region_quiet h1 h2 (Cls.drew w) (by simpa [LK] using this)
  | @raw id ops k fr σ K h1 _ ih =>
    intro φ w a hr hf hd hn hs
    refine Code.wp_mono (fun e a' w' he => ?_) (h1 φ w a hr hf hd hn)
    obtain ⟨rfl, φ', σ', fr', k1, k2, k3, k4, k5, k6⟩ := he
    exact ih fr' σ' k6 φ' w' a' k1 k2 k3 k4 (hs.trans k5)
  | @opsNil q all k fr σ _ ih =>
    intro φ w a hr hf hd hn hs
    cases q with
    | false => exact ih φ w a hr hf hd hn hs
    | true =>
      intro w' hw'
      exact ih φ w' a (hr.cls hw') (hf.step (Cls.step hw')) hd hn (hs.trans (Cls.step hw'))
  | @opsRun q o l all k fr σ hg _ ih =>
    intro φ w a hr hf hd hn hs
    have := ih φ w a hr hf hd hn hs
    have hw := guard_run (t := a.tmps) hg
    cases q with
    | false =>
      simp only [LK, Bool.false_eq_true, if_false] at this ⊢
      unfold wpList
      rw [if_pos hw]
      exact .inl this
    | true =>
      simp only [LK, if_true] at this ⊢
      unfold wpQuiet
      rw [if_pos hw]
      exact this
  | @opsSkip q o l all k fr σ hg hdst _ ih =>
    intro φ w a hr hf hd hn hs
    have hf' : RelF φ σ w (putA fr o.dst .undef) (a.put o.dst Go.undef).tmps := hf.put (.tup [] [] rfl (fun j x v h => by simp at h)) (by rw [hn]; exact hdst)
    have := ih φ w (a.put o.dst Go.undef) hr hf' (by cases o.dst <;> exact hd) (by rw [size_put]; exact hn) hs
    have hw := (guard_spec hf).1 hg
    cases q with
    | false =>
      simp only [LK, Bool.false_eq_true, if_false] at this ⊢
      unfold wpList
      rw [if_neg (by simp [hw])]
      exact this
    | true =>
      simp only [LK, if_true] at this ⊢
      unfold wpQuiet
      rw [if_neg (by simp [hw])]
      exact this
  | @opsTest q o l all k fr σ x b hg hdst _ _ ih1 ih2 =>
    intro φ w a hr hf hd hn hs
    have hw := (guard_spec hf).2 x b hg
    by_cases hxb : x = b
    · have := ih1 hxb φ w a hr hf hd hn hs
      have hw' : Region.wanted o (yielded all a.tmps) = true := by rw [hw, hxb]; simp
      cases q with
      | false =>
        simp only [LK, Bool.false_eq_true, if_false] at this ⊢
        unfold wpList
        rw [if_pos hw']
        exact .inl this
      | true =>
        simp only [LK, if_true] at this ⊢
        unfold wpQuiet
        rw [if_pos hw']
        exact this
    · have hf' : RelF φ σ w (putA fr o.dst .undef) (a.put o.dst Go.undef).tmps := hf.put (.tup [] [] rfl (fun j x v h => by simp at h)) (by rw [hn]; exact hdst)
      have := ih2 hxb φ w (a.put o.dst Go.undef) hr hf' (by cases o.dst <;> exact hd) (by rw [size_put]; exact hn) hs
      have hw' : Region.wanted o (yielded all a.tmps) = false := by rw [hw]; simpa using hxb
      cases q with
      | false =>
        simp only [LK, Bool.false_eq_true, if_false] at this ⊢
        unfold wpList
        rw [if_neg (by simp [hw'])]
        exact this
      | true =>
        simp only [LK, if_true] at this ⊢
        unfold wpQuiet
        rw [if_neg (by simp [hw'])]
        exact this
  | @op q o l all k fr σ x σ' he hdst hq _ ih =>
    intro φ w a hr hf hd hn hs
    cases q with
    | false =>
      obtain ⟨n, v, w', φ', h1, h2, h3, h4, h5⟩ := evOp_ok hr hf he
      have hf' : RelF φ' σ' w' (putA fr o.dst x) (a.put o.dst v).tmps := (hf.step h5).put h4 (by rw [hn]; exact hdst)
      have := ih φ' w' (a.put o.dst v) h3 hf' (by cases o.dst <;> exact hd) (by rw [size_put]; exact hn) (hs.trans h5)
      simp only [LK, Bool.false_eq_true, if_false] at this ⊢
      unfold Oper.wp
      rw [h1]
      rcases h2 with rfl | ⟨rfl, rfl⟩
      · rw [Oper.upon_value]; exact this
      · rw [Oper.upon_skip]; exact this
    | true =>
      obtain ⟨rfl, v, h1, h2⟩ := evOp_quiet hr hf (hq rfl) he
      have hf' := hf.put (dst := o.dst) h1 (by rw [hn]; exact hdst)
      have := ih φ w (a.put o.dst v) hr hf' (by cases o.dst <;> exact hd) (by rw [size_put]; exact hn) hs
      simp only [LK, if_true] at this ⊢
      refine ⟨v, fun w' hw' => ?_, this⟩
      unfold Oper.quietAt
      rw [h2 w' hw']
      exact ⟨rfl, rfl⟩
  | @call o l all k fr σ f args R he hdst hc _ ih =>
    intro φ w a hr hf hd hn hs
    obtain ⟨vs, h1, h2⟩ := evOp_call hf he hc.1
    simp only [LK, Bool.false_eq_true, if_false]
    unfold Oper.wp
    rw [h2 w, Oper.upon_enter]
    refine (hc.2 φ w vs hr h1).mono ?_
    rintro e w' ⟨v, x, φ', σ', rfl, h3, h4, h5, h6⟩
    have hf' : RelF φ' σ' w' (putA fr o.dst x) (a.put o.dst v).tmps := (hf.step h5).put h4 (by rw [hn]; exact hdst)
    have := ih x σ' h6 φ' w' (a.put o.dst v) h3 hf' (by cases o.dst <;> exact hd) (by rw [size_put]; exact hn) (hs.trans h5)
    simpa [LK] using this
  | @qcall o l all k fr σ f args D he hdst hc hrg _ ih =>
    intro φ w a hr hf hd hn hs
    obtain ⟨vs, h1, h2⟩ := evOp_call hf he (hc σ).1
    simp only [LK, if_true]
    have hdead : ∀ b, ¬ Live φ ⟨σ.next, σ.ty, fun _ => none⟩ b := fun b ⟨id, h, _⟩ => by simp at h
    have step : ∀ w', Cls w w' → Step φ σ w φ ⟨σ.next, σ.ty, fun _ => none⟩ w' := fun w' hw' =>
      ⟨Nat.le_refl _, fun _ _ => rfl, fun b hb => absurd hb (hdead b), hw'.size, fun b hb _ => hw'.block b hb, fun b cur e fz hb => ⟨cur, fz, by rw [hw'.block b (Array.getElem?_eq_some_iff.1 hb).1]; exact hb, rfl⟩, hw'.os, hw'.tape, hw'.output⟩
    have hr0 : ∀ w', RelM φ ⟨σ.next, σ.ty, fun _ => none⟩ w' := fun w' => ⟨fun id cs h => (by cases h), fun id cs h => (by cases h), fun i j hi _ _ => (by cases hi)⟩
    have call : ∀ w', Cls w w' → Calls P f vs.toArray w' fun e w'' => e = .returned (conc D) ∧ Cls w w'' := by
      intro w' hw'
      refine ((hc ⟨σ.next, σ.ty, fun _ => none⟩).2 φ w' vs (hr0 w') (h1.step (step w' hw'))).mono ?_
      rintro e w'' ⟨v, x, φ', σ'', rfl, h3, h4, h5, rfl, rfl⟩
      refine ⟨by rw [rigid_conc hrg h4], ?_⟩
      have hb : Below w'.heap.size w' w'' := ⟨h5.os, h5.tape, h5.output, h5.size, fun b hb => h5.same b hb (hdead b)⟩
      exact Below.trans hw' (hb.mono hw'.size)
    have hD : RvM φ σ w D (conc D) := by
      obtain ⟨e, w'', fr', ⟨v, x, φ', σ'', rfl, h3, h4, h5, rfl, rfl⟩, _⟩ := (hc ⟨σ.next, σ.ty, fun _ => none⟩).2 φ w vs (hr0 w) (h1.step (step w (Cls.refl w))) []
      rw [← rigid_conc hrg h4]
      exact rigid_any hrg h4
    have hf' : RelF φ σ w (putA fr o.dst D) (a.put o.dst (conc D)).tmps := hf.put hD (by rw [hn]; exact hdst)
    have := ih φ w (a.put o.dst (conc D)) hr hf' (by cases o.dst <;> exact hd) (by rw [size_put]; exact hn) hs
    simp only [LK, if_true] at this
    refine ⟨conc D, fun w' hw' => ?_, this⟩
    unfold Oper.quietAt
    rw [h2 w']
    exact ⟨rfl, call w' hw'⟩
end
end Go.Ew
namespace Go.Ew
open Go Go.RowKit

def resOne (P : Program) (fr : Fr) (σ : Mem) : ResultVar → Option AV
  | .tmp t => some (fr t)
  | .cell a t => (atPtr σ (fr a)).bind (readA P t)
def resAll (P : Program) (fr : Fr) (σ : Mem) : List ResultVar → Option (List AV)
  | [] => some []
  | r :: rs => (resOne P fr σ r).bind fun x => (resAll P fr σ rs).map fun xs => x :: xs
/-- What a function hands back. -/
def resA (P : Program) (rs : List ResultVar) (fr : Fr) (σ : Mem) : Option AV :=
  match rs with
  | [r] => resOne P fr σ r
  | rs => (resAll P fr σ rs).map .tup

def initFr (args : List AV) : Fr := fun k => args.getD k .undef

section
variable {P : Program} {φ : Nat → Nat} {σ : Mem} {w : World}

def resStep (tmps : Array Value) : ResultVar → Sem Value
  | .tmp t => pure (tmps.getD t Go.undef)
  | .cell a t => do loadVar t (← asAddr (tmps.getD a Go.undef))

theorem rv_resOne {fr : Fr} {tmps : Array Value} {r : ResultVar} {x : AV} (hr : RelM φ σ w) (hf : RelF φ σ w fr tmps) (h : resOne P fr σ r = some x) : ∃ v, RvM φ σ w x v ∧ (resStep tmps r).run P w = .ok v w := by
  cases r with
  | tmp t => cases h; exact ⟨_, hf t, rfl⟩
  | cell a t =>
    simp only [resOne] at h
    cases hp : atPtr σ (fr a) with
    | none => simp [hp] at h
    | some cs =>
      simp only [hp, Option.bind_some] at h
      obtain ⟨ad, vs, h0, hb, h1, h2⟩ := rv_atPtr hr hp (hf a)
      obtain ⟨v, h3, h4⟩ := rv_read h hb h1 h2
      exact ⟨v, h3, by simp only [resStep, h0, asAddr, Sem.run_bind, Sem.run_pure, Result.andThen_ok]; exact h4 w (Cls.refl w)⟩

theorem rv_resAll {fr : Fr} {tmps : Array Value} (hr : RelM φ σ w) (hf : RelF φ σ w fr tmps) : ∀ (rs : List ResultVar) (xs : List AV), resAll P fr σ rs = some xs → ∃ vs, RvL φ σ w xs vs ∧ (rs.mapM (resStep tmps)).run P w = .ok vs w
  | [], xs, h => by cases h; exact ⟨[], rvL_nil, by simp⟩
  | r :: rs, xs, h => by
    simp only [resAll] at h
    cases h1 : resOne P fr σ r with
    | none => simp [h1] at h
    | some x =>
      cases h2 : resAll P fr σ rs with
      | none => simp [h1, h2] at h
      | some ys =>
        simp only [h1, h2, Option.bind_some, Option.map_some, Option.some.injEq] at h
        subst h
        obtain ⟨v, h3, h4⟩ := rv_resOne hr hf h1
        obtain ⟨vs, h5, h6⟩ := rv_resAll hr hf rs ys h2
        refine ⟨v :: vs, ?_, by simp [List.mapM_cons, h4, h6]⟩
        have := rvL_append (xs := [x]) (us := [v]) ⟨rfl, fun j y u hy hu => by cases j with | zero => simp at hy hu; subst hy; subst hu; exact h3 | succ j => simp at hy⟩ h5
        exact this

theorem run_results {fn : Func} {fr : Fr} {tmps : Array Value} {x : AV} (hr : RelM φ σ w) (hf : RelF φ σ w fr tmps) (h : resA P fn.results.toList fr σ = some x) : ∃ v, RvM φ σ w x v ∧ (results fn tmps).run P w = .ok v w := by
  have hm : (results fn tmps) = (do let vs ← fn.results.mapM (resStep tmps); pure (if h : vs.size = 1 then vs[0] else .tuple vs)) := by
    unfold results
    congr 1
  have run : ∀ vs : List Value, (fn.results.toList.mapM (resStep tmps)).run P w = .ok vs w → (results fn tmps).run P w = .ok (if h : vs.toArray.size = 1 then vs.toArray[0] else .tuple vs.toArray) w := fun vs hvs => by
    rw [hm]
    simp [Array.mapM_eq_mapM_toList, hvs]
  unfold resA at h
  split at h
  · rename_i r hrs
    obtain ⟨v, h1, h2⟩ := rv_resOne hr hf h
    refine ⟨v, h1, ?_⟩
    have := run [v] (by rw [hrs]; simp [h2])
    simpa using this
  · rename_i hne
    cases ha : resAll P fr σ fn.results.toList with
    | none => simp [ha] at h
    | some xs =>
      simp only [ha, Option.map_some, Option.some.injEq] at h
      subst h
      obtain ⟨vs, h1, h2⟩ := rv_resAll hr hf _ xs ha
      refine ⟨.tuple vs.toArray, .tup xs vs h1.1 h1.2, ?_⟩
      have hlen : ∀ (rs : List ResultVar) (xs : List AV), resAll P fr σ rs = some xs → xs.length = rs.length := by
        intro rs
        induction rs with
        | nil => intro xs h; cases h; rfl
        | cons r rs ih =>
          intro xs h
          simp only [resAll] at h
          cases h1 : resOne P fr σ r with
          | none => simp [h1] at h
          | some y =>
            cases h2 : resAll P fr σ rs with
            | none => simp [h1, h2] at h
            | some ys =>
              simp only [h1, h2, Option.bind_some, Option.map_some, Option.some.injEq] at h
              subst h
              simp [ih ys h2]
      have hl := hlen _ _ ha
      have : ¬ vs.toArray.size = 1 := fun e => by
        have h3 : fn.results.toList.length = 1 := by rw [← hl, h1.1]; simpa using e
        match hq : fn.results.toList, h3 with
        | [r], _ => exact hne r hq
      rw [run vs h2, dif_neg this]

/-- THE ENTRY: a contract out of the code. -/
theorem callA_of_EW {f : FuncId} {fn : Func} {c : Code} {args : List AV} {R : AV → Mem → Prop} (hf : P.funcs[f]? = some fn) (hb : fn.body = some c) (hn : (fn.name == "runtime.NumGoroutine") = false)
    (h : EW P (args.length + (fn.ntmps - args.length)) (fun fr σ' => ∃ x, resA P fn.results.toList fr σ' = some x ∧ R x σ') [.code c] (initFr args) σ) : CallA P f args σ R := by
  refine ⟨⟨fn, hf, by simp [hb], hn⟩, fun φ w vs hr ha => calls_of_wp hf hb ?_⟩
  have hinit : RelF φ σ w (initFr args) (vs.toArray ++ Array.replicate (fn.ntmps - vs.toArray.size) Go.undef) := by
    intro k
    rw [Array.getD_eq_getD_getElem?]
    unfold initFr
    rw [List.getD_eq_getElem?_getD]
    by_cases hk : k < args.length
    · have hk' : k < vs.length := by rw [← ha.1]; exact hk
      rw [Array.getElem?_append_left (by simpa using hk'), List.getElem?_toArray, List.getElem?_eq_getElem hk, List.getElem?_eq_getElem hk']
      exact ha.2 k _ _ (List.getElem?_eq_getElem hk) (List.getElem?_eq_getElem hk')
    · have hk' : ¬ k < vs.length := by rw [← ha.1]; exact hk
      rw [List.getElem?_eq_none (by omega), Array.getElem?_append_right (by simp; omega)]
      have : ((Array.replicate (fn.ntmps - vs.toArray.size) Go.undef)[k - vs.toArray.size]?).getD Go.undef = Go.undef := by
        rw [Array.getElem?_replicate]; split <;> rfl
      rw [this]
      exact .tup [] [] rfl (fun j x v h => by simp at h)
  have hs := sound (φ0 := φ) (σ0 := σ) (w0 := w) h φ w ⟨vs.toArray ++ Array.replicate (fn.ntmps - vs.toArray.size) Go.undef, []⟩ hr hinit rfl (by simp [ha.1]) (Step.refl φ σ w)
  simp only [LK] at hs
  refine Code.wp_mono (fun e a w' he => ?_) hs
  have fin : St φ σ w (args.length + (fn.ntmps - args.length)) (fun fr σ' => ∃ x, resA P fn.results.toList fr σ' = some x ∧ R x σ') a w' → a.defers = [] ∧ ∃ v, (results fn a.tmps).run P w' = .ok v w' ∧ ∃ v' x φ' σ', Ending.returned v = .returned v' ∧ RelM φ' σ' w' ∧ RvM φ' σ' w' x v' ∧ Step φ σ w φ' σ' w' ∧ R x σ' := by
    rintro ⟨φ', σ', fr, h1, h2, h3, h4, h5, x, h6, h7⟩
    obtain ⟨v, h8, h9⟩ := run_results h1 h2 h6
    exact ⟨h3, v, h9, v, x, φ', σ', rfl, h1, h8, h5, h7⟩
  cases e with
  | normal => exact fin he
  | ret => exact fin he
  | _ => exact he.elim

/-! ### Results as data -/
/-- x, with every object from n0 on read off as data. -/
inductive Frz (n0 : Nat) (σ : Mem) : AV → AV → Prop
  | lit (v : Value) : Frz n0 σ (.lit v) (.lit v)
  | nils : Frz n0 σ .nils (.imm 0 [])
  | nil : Frz n0 σ .nils .nils
  | imm (n : Nat) (cs ys : List AV) : cs.length = ys.length → (∀ (j : Nat) (x y : AV), cs[j]? = some x → ys[j]? = some y → Frz n0 σ x y) → Frz n0 σ (.imm n cs) (.imm n ys)
  | arr (id off n sz : Nat) (cs ys : List AV) : n0 ≤ id → σ.get id = some cs → off + ys.length ≤ cs.length → (∀ (j : Nat) (x y : AV), (cs.drop off)[j]? = some x → ys[j]? = some y → Frz n0 σ x y) → Frz n0 σ (.arr id off n sz) (.imm n ys)
  | old (id off n sz : Nat) : id < n0 → Frz n0 σ (.arr id off n sz) (.arr id off n sz)
  | optr (id off : Nat) : id < n0 → Frz n0 σ (.ptr id off) (.ptr id off)
  | ptr (id off : Nat) (cs ys : List AV) : n0 ≤ id → σ.get id = some cs → off + ys.length ≤ cs.length → (∀ (j : Nat) (x y : AV), (cs.drop off)[j]? = some x → ys[j]? = some y → Frz n0 σ x y) → Frz n0 σ (.ptr id off) (.iptr ys)
  | iptr (cs ys : List AV) : cs.length = ys.length → (∀ (j : Nat) (x y : AV), cs[j]? = some x → ys[j]? = some y → Frz n0 σ x y) → Frz n0 σ (.iptr cs) (.iptr ys)
  | fn (f : FuncId) (cs ys : List AV) : cs.length = ys.length → (∀ (j : Nat) (x y : AV), cs[j]? = some x → ys[j]? = some y → Frz n0 σ x y) → Frz n0 σ (.fn f cs) (.fn f ys)
  | agg (cs ys : List AV) : cs.length = ys.length → (∀ (j : Nat) (x y : AV), cs[j]? = some x → ys[j]? = some y → Frz n0 σ x y) → Frz n0 σ (.agg cs) (.agg ys)
  | tup (cs ys : List AV) : cs.length = ys.length → (∀ (j : Nat) (x y : AV), cs[j]? = some x → ys[j]? = some y → Frz n0 σ x y) → Frz n0 σ (.tup cs) (.tup ys)

/-- Objects' numbers below n. -/
inductive WfA (n : Nat) : AV → Prop
  | lit (v : Value) : WfA n (.lit v)
  | nils : WfA n .nils
  | imm (m : Nat) (cs : List AV) : (∀ (j : Nat) (x : AV), cs[j]? = some x → WfA n x) → WfA n (.imm m cs)
  | arr (id off m sz : Nat) : id < n → WfA n (.arr id off m sz)
  | ptr (id off : Nat) : id < n → WfA n (.ptr id off)
  | iptr (cs : List AV) : (∀ (j : Nat) (x : AV), cs[j]? = some x → WfA n x) → WfA n (.iptr cs)
  | fn (f : FuncId) (cs : List AV) : (∀ (j : Nat) (x : AV), cs[j]? = some x → WfA n x) → WfA n (.fn f cs)
  | agg (cs : List AV) : (∀ (j : Nat) (x : AV), cs[j]? = some x → WfA n x) → WfA n (.agg cs)
  | tup (cs : List AV) : (∀ (j : Nat) (x : AV), cs[j]? = some x → WfA n x) → WfA n (.tup cs)

theorem wf_of_rv {n : Nat} {L : Nat → Prop} {x : AV} {v : Value} (h : Rv φ n L w x v) : WfA n x := by
  have get : ∀ {xs : List AV} {vs : List Value} {j : Nat} {x : AV}, xs.length = vs.length → xs[j]? = some x → ∃ v, vs[j]? = some v := fun {xs vs j x} hl hx =>
    ⟨vs[j]'(by rw [← hl]; exact (List.getElem?_eq_some_iff.1 hx).1), List.getElem?_eq_getElem _⟩
  induction h with
  | lit v => exact .lit v
  | nils => exact .nils
  | imm0 A c hc => exact .imm 0 [] (fun j x h => by simp at h)
  | imm m cs ad c vs h1 _ h3 h4 h5 h6 ih => exact .imm m cs ih
  | arr id off m sz c h1 => exact .arr id off m sz h1
  | ptr id off h1 => exact .ptr id off h1
  | iptr cs ad vs h1 _ h3 h4 ih => exact .iptr cs ih
  | fn f xs vs h1 _ ih => exact .fn f xs fun j x hx => by obtain ⟨v, hv⟩ := get h1 hx; exact ih j x v hx hv
  | agg xs vs h1 _ h3 ih => exact .agg xs fun j x hx => by obtain ⟨v, hv⟩ := get h1 hx; exact ih j x v hx hv
  | tup xs vs h1 _ ih => exact .tup xs fun j x hx => by obtain ⟨v, hv⟩ := get h1 hx; exact ih j x v hx hv

theorem Rv.restrict {n n' : Nat} {L L' : Nat → Prop} {x : AV} {v : Value} (h : Rv φ n' L' w x v) (hL : ∀ b, L b → L' b) (hw : WfA n x) : Rv φ n L w x v := by
  induction h with
  | lit v => exact .lit v
  | nils => exact .nils
  | imm0 A c hc => exact .imm0 A c hc
  | imm m cs ad c vs h1 _ h3 h4 h5 h6 ih => cases hw with | imm _ _ k => exact .imm m cs ad c vs h1 (fun j x hx => ih j x hx (k j x hx)) (fun e => h3 (hL _ e)) h4 h5 h6
  | arr id off m sz c h1 h2 h3 h4 => cases hw with | arr _ _ _ _ k => exact .arr id off m sz c k h2 h3 h4
  | ptr id off h1 => cases hw with | ptr _ _ k => exact .ptr id off k
  | iptr cs ad vs h1 _ h3 h4 ih => cases hw with | iptr _ k => exact .iptr cs ad vs h1 (fun j x hx => ih j x hx (k j x hx)) (fun e => h3 (hL _ e)) h4
  | fn f xs vs h1 _ ih => cases hw with | fn _ _ k => exact .fn f xs vs h1 (fun j x v hx hv => ih j x v hx hv (k j x hx))
  | agg xs vs h1 _ h3 ih => cases hw with | agg _ k => exact .agg xs vs h1 (fun j x v hx hv => ih j x v hx hv (k j x hx)) h3
  | tup xs vs h1 _ ih => cases hw with | tup _ k => exact .tup xs vs h1 (fun j x v hx hv => ih j x v hx hv (k j x hx))

theorem rv_frz {n0 : Nat} {σ' : Mem} {L : Nat → Prop} (hr : RelM φ σ' w) (hL : ∀ b, L b → ∃ id, id < n0 ∧ (σ'.get id).isSome = true ∧ φ id = b) {x y : AV} (h : Frz n0 σ' x y) : ∀ v, RvM φ σ' w x v → Rv φ n0 L w y v := by
  have hL' : ∀ b, L b → Live φ σ' b := fun b hb => by obtain ⟨id, _, h1, h2⟩ := hL b hb; exact ⟨id, h1, h2⟩
  have list : ∀ {cs ys : List AV} {vs : List Value}, cs.length = ys.length → cs.length = vs.length → (∀ (j : Nat) (x y : AV), cs[j]? = some x → ys[j]? = some y → ∀ v, RvM φ σ' w x v → Rv φ n0 L w y v) → (∀ (j : Nat) (x : AV) (v : Value), cs[j]? = some x → vs[j]? = some v → RvM φ σ' w x v) →
      ∀ (j : Nat) (y : AV) (v : Value), ys[j]? = some y → vs[j]? = some v → Rv φ n0 L w y v := by
    intro cs ys vs h1 h2 h3 h4 j y v hy hv
    have hj : j < cs.length := by rw [h1]; exact (List.getElem?_eq_some_iff.1 hy).1
    exact h3 j _ y (List.getElem?_eq_getElem hj) hy v (h4 j _ v (List.getElem?_eq_getElem hj) hv)
  induction h with
  | lit u => intro v hv; cases hv; exact .lit _
  | nils => intro v hv; cases hv; exact .imm0 none 0 (Nat.zero_le _)
  | nil => intro v hv; cases hv; exact .nils
  | imm n cs ys h1 _ ih =>
    intro v hv
    cases hv with
    | imm0 A c hc =>
      have : ys = [] := List.eq_nil_of_length_eq_zero (by simpa using h1.symm)
      subst this
      exact .imm0 A c hc
    | imm _ _ ad c vs k1 k2 k3 k4 k5 k6 =>
      refine .imm n ys ad c vs (fun j hj => k1 j (by omega)) (fun j y hy => ?_) (fun e => k3 (hL' _ e)) k4 k5 k6
      have hj : j < cs.length := by rw [h1]; exact (List.getElem?_eq_some_iff.1 hy).1
      exact ih j _ y (List.getElem?_eq_getElem hj) hy _ (k2 j _ (List.getElem?_eq_getElem hj))
  | arr id off n sz cs ys h0 h1 h2 _ ih =>
    intro v hv
    cases hv with
    | arr _ _ _ _ c k1 k2 k3 k4 =>
      obtain ⟨cur, g1, g2, g3⟩ := hr.cell id cs h1
      refine .imm n ys ⟨φ id, off, none⟩ c (fun j => cur.getD (off + j) Go.undef) (fun j hj => ?_) (fun j y hy => ?_) (fun hl => ?_) (Array.getElem?_eq_some_iff.1 g1).1 k2 k3
      · have hjc : off + j < cs.length := by omega
        obtain ⟨u, g4, g5, _⟩ := g3 (off + j) _ (List.getElem?_eq_getElem hjc)
        rw [Addr.add_lit, cell_of_row w (φ id) (off + j) cur _ (0, 0) g1]
        simp only [Array.getD_eq_getD_getElem?, g4, Option.getD_some]
        exact ⟨trivial, g5⟩
      · have hjy : j < ys.length := (List.getElem?_eq_some_iff.1 hy).1
        have hjc : off + j < cs.length := by omega
        obtain ⟨u, g4, _, g6⟩ := g3 (off + j) _ (List.getElem?_eq_getElem hjc)
        simp only [Array.getD_eq_getD_getElem?, g4, Option.getD_some]
        exact ih j _ y (by rw [List.getElem?_drop]; exact List.getElem?_eq_getElem hjc) hy u g6
      · obtain ⟨id', q1, q2, q3⟩ := hL _ hl
        have := hr.inj id' id q2 (by simp [h1]) q3
        omega
  | old id off n sz h0 => intro v hv; cases hv with | arr _ _ _ _ c k1 k2 k3 k4 => exact .arr id off n sz c h0 k2 k3 k4
  | optr id off h0 => intro v hv; cases hv with | ptr _ _ k1 => exact .ptr id off h0
  | ptr id off cs ys h0 h1 h2 _ ih =>
    intro v hv
    cases hv with
    | ptr _ _ k1 =>
      obtain ⟨cur, g1, g2, g3⟩ := hr.cell id cs h1
      refine .iptr ys ⟨φ id, off, none⟩ (fun j => cur.getD (off + j) Go.undef) (fun j hj => ?_) (fun j y hy => ?_) (fun hl => ?_) (Array.getElem?_eq_some_iff.1 g1).1
      · have hjc : off + j < cs.length := by omega
        obtain ⟨u, g4, g5, _⟩ := g3 (off + j) _ (List.getElem?_eq_getElem hjc)
        rw [Addr.add_lit, cell_of_row w (φ id) (off + j) cur _ (0, 0) g1]
        simp only [Array.getD_eq_getD_getElem?, g4, Option.getD_some]
        exact ⟨trivial, g5⟩
      · have hjy : j < ys.length := (List.getElem?_eq_some_iff.1 hy).1
        have hjc : off + j < cs.length := by omega
        obtain ⟨u, g4, _, g6⟩ := g3 (off + j) _ (List.getElem?_eq_getElem hjc)
        simp only [Array.getD_eq_getD_getElem?, g4, Option.getD_some]
        exact ih j _ y (by rw [List.getElem?_drop]; exact List.getElem?_eq_getElem hjc) hy u g6
      · obtain ⟨id', q1, q2, q3⟩ := hL _ hl
        have := hr.inj id' id q2 (by simp [h1]) q3
        omega
  | iptr cs ys h1 _ ih =>
    intro v hv
    cases hv with
    | iptr _ ad vs k1 k2 k3 k4 =>
      refine .iptr ys ad vs (fun j hj => k1 j (by omega)) (fun j y hy => ?_) (fun e => k3 (hL' _ e)) k4
      have hj : j < cs.length := by rw [h1]; exact (List.getElem?_eq_some_iff.1 hy).1
      exact ih j _ y (List.getElem?_eq_getElem hj) hy _ (k2 j _ (List.getElem?_eq_getElem hj))
  | fn f cs ys h1 _ ih =>
    intro v hv
    cases hv with | fn _ _ vs k1 k2 => exact .fn f ys vs (by omega) (list h1 k1 ih k2)
  | agg cs ys h1 _ ih =>
    intro v hv
    cases hv with | agg _ vs k1 k2 k3 => exact .agg ys vs (by omega) (list h1 k1 ih k2) k3
  | tup cs ys h1 _ ih =>
    intro v hv
    cases hv with | tup _ vs k1 k2 => exact .tup ys vs (by omega) (list h1 k1 ih k2)

/-- A function that hands back data: whatever memory there is, it stays. -/
def PureA (P : Program) (f : FuncId) (args : List AV) (D : AV) : Prop := ∀ σ, CallA P f args σ fun x σ' => x = D ∧ σ' = σ

theorem CallA.mono {f : FuncId} {args : List AV} {R R' : AV → Mem → Prop} (h : CallA P f args σ R) (hr : ∀ x σ', R x σ' → R' x σ') : CallA P f args σ R' :=
  ⟨h.1, fun φ w vs h1 h2 => (h.2 φ w vs h1 h2).mono fun _ _ ⟨v, x, φ', σ', k1, k2, k3, k4, k5⟩ => ⟨v, x, φ', σ', k1, k2, k3, k4, hr x σ' k5⟩⟩

/-- Objects of the call's own are let go, its result read off as data. -/
theorem callA_frz {f : FuncId} {args : List AV} {D : AV} (h : CallA P f args σ fun x σ' => Frz σ.next σ' x D ∧ ∀ i, i < σ.next → σ'.get i = σ.get i) : CallA P f args σ fun x σ' => x = D ∧ σ' = σ := by
  refine ⟨h.1, fun φ w vs h1 h2 => (h.2 φ w vs h1 h2).mono ?_⟩
  rintro e w' ⟨v, x, φ', σ', rfl, k1, k2, k3, k4, k5⟩
  have some_ : ∀ id, (σ.get id).isSome = true → id < σ.next ∧ (σ'.get id).isSome = true := fun id hid => by
    obtain ⟨cs, hcs⟩ := Option.isSome_iff_exists.1 hid
    have hlt := h1.live id cs hcs
    exact ⟨hlt, by rw [k5 id hlt]; exact hid⟩
  have live_ : ∀ b, Live φ' σ b → Live φ' σ' b := fun b ⟨id, q1, q2⟩ => ⟨id, (some_ id q1).2, q2⟩
  have s : Step φ σ w φ' σ w' := by
    refine ⟨Nat.le_refl _, k3.phi, fun b hb => ?_, k3.size, k3.same, k3.shape, k3.os, k3.tape, k3.output⟩
    obtain ⟨id, q1, q2⟩ := hb
    rw [k3.phi id (some_ id q1).1] at q2
    exact .inl ⟨id, q1, q2⟩
  refine ⟨v, D, φ', σ, rfl, ⟨h1.live, fun id cs hid => ?_, fun i j hi hj he => k1.inj i j (some_ i hi).2 (some_ j hj).2 he⟩, ?_, s, rfl, rfl⟩
  · have hlt := h1.live id cs hid
    obtain ⟨cur0, p1, _, p3⟩ := h1.cell id cs hid
    obtain ⟨cur, q1, q2, q3⟩ := k1.cell id cs (by rw [k5 id hlt]; exact hid)
    obtain ⟨c2, f2, q7, _⟩ := k3.shape _ _ _ _ p1
    have hty : σ'.ty id = σ.ty id := by
      rw [k3.phi id hlt, q7] at q1
      simp only [Option.some.injEq, Obj.cells.injEq] at q1
      exact q1.2.1.symm
    rw [hty] at q1
    refine ⟨cur, q1, q2, fun j x hx => ?_⟩
    obtain ⟨u, q4, q5, q6⟩ := q3 j x hx
    obtain ⟨u0, _, _, p6⟩ := p3 j x hx
    exact ⟨u, q4, q5, q6.restrict live_ (wf_of_rv p6)⟩
  · exact rv_frz (n0 := σ.next) (L := Live φ' σ) k1 (fun b ⟨id, q1, q2⟩ => ⟨id, (some_ id q1).1, (some_ id q1).2, q2⟩) k4 v k2

theorem pureA_of_EW {f : FuncId} {fn : Func} {c : Code} {args : List AV} {D : AV} (hf : P.funcs[f]? = some fn) (hb : fn.body = some c) (hn : (fn.name == "runtime.NumGoroutine") = false)
    (h : ∀ σ, EW P (args.length + (fn.ntmps - args.length)) (fun fr σ' => ∃ x, resA P fn.results.toList fr σ' = some x ∧ Frz σ.next σ' x D ∧ ∀ i, i < σ.next → σ'.get i = σ.get i) [.code c] (initFr args) σ) : PureA P f args D :=
  fun σ => callA_frz (callA_of_EW hf hb hn (h σ))

/-! ### A contract of the kit's, as one of ours -/
theorem pureA_of_calls {f : FuncId} {args : List AV} {D : AV} (hc : Callable P f) (hD : rigidA D = true) (hc1 : ∀ v ∈ (match conc D with | .agg vs => vs.toList | _ => []), v.oneCell' = true)
    (h : ∀ φ σ w vs, RelM φ σ w → RvL φ σ w args vs → Calls P f vs.toArray w fun e w' => e = .returned (conc D) ∧ Below w.heap.size w w') : PureA P f args D := by
  intro σ
  refine ⟨hc, fun φ w vs h1 h2 => (h φ σ w vs h1 h2).mono ?_⟩
  rintro e w' ⟨rfl, hb⟩
  have hcls : Cls w w' := hb
  refine ⟨conc D, D, φ, σ, rfl, h1.cls hcls, ?_, Cls.step hcls, rfl, rfl⟩
  have el : ∀ {y : AV}, (match y with | .lit _ => true | .nils => true | _ => false) = true → RvM φ σ w' y (conc1 y) := by
    intro y hy
    cases y <;> first | (simp at hy; done) | constructor
  have elL : ∀ {xs : List AV}, (xs.all fun | .lit _ => true | .nils => true | _ => false) = true → ∀ (j : Nat) (x : AV) (v : Value), xs[j]? = some x → (xs.map conc1)[j]? = some v → RvM φ σ w' x v := by
    intro xs ha j x v hx hv
    rw [List.getElem?_map, hx] at hv
    simp only [Option.map_some, Option.some.injEq] at hv
    subst hv
    exact el (List.all_eq_true.1 ha x (List.mem_of_getElem? hx))
  cases D <;> first | (simp [rigidA] at hD; done) | skip
  · exact .lit _
  · exact .nils
  · rename_i xs
    exact .agg xs _ (by simp) (elL hD) (by simpa [conc] using hc1)
  · rename_i xs
    exact .tup xs _ (by simp) (elL hD)

/-! ### What a law's call comes to -/
theorem calls_of_law {f : FuncId} {args : List AV} {vs : List Value} {b : Bool} (h : CallA P f args Mem.empty fun x _ => x = .bool b) (hv : RvL (fun _ => 0) Mem.empty w args vs) :
    Calls P f vs.toArray w fun e w' => e = .returned (.bool b) ∧ Below w.heap.size w w' := by
  have hdead : ∀ b, ¬ Live (fun _ => 0) Mem.empty b := fun b ⟨id, h, _⟩ => by simp [Mem.empty] at h
  refine (h.2 (fun _ => 0) w vs ⟨fun id cs h => (by cases h), fun id cs h => (by cases h), fun i j hi _ _ => (by cases hi)⟩ hv).mono ?_
  rintro e w' ⟨v, x, φ', σ', rfl, h1, h2, h3, rfl⟩
  cases h2
  exact ⟨rfl, h3.os, h3.tape, h3.output, h3.size, fun b hb => h3.same b hb (hdead b)⟩
end
end Go.Ew
namespace Go.Ew
open Go Go.RowKit

section
variable {P : Program} {N : Nat} {Q : Fr → Mem → Prop} {k : List Itm} {fr : Fr} {σ : Mem}

/-- A test of a known or unknown outcome. (Data alone stand in it: so that 'simp' does not look behind an open test.) -/
def EWc (x : AV) (P : Program) (N : Nat) (Q : Fr → Mem → Prop) (a b : Code) (k : List Itm) (fr : Fr) (σ : Mem) : Prop := ∃ t, x = .lit (.bool t) ∧ (t = true → EW P N Q (.code a :: k) fr σ) ∧ (t = false → EW P N Q (.code b :: k) fr σ)
theorem EWc_true (a b : Code) : EWc (.lit (.bool true)) P N Q a b k fr σ = EW P N Q (.code a :: k) fr σ := by
  apply propext
  constructor
  · rintro ⟨t, h, h1, _⟩; cases h; exact h1 rfl
  · intro h; exact ⟨true, rfl, fun _ => h, fun h => by cases h⟩
theorem EWc_false (a b : Code) : EWc (.lit (.bool false)) P N Q a b k fr σ = EW P N Q (.code b :: k) fr σ := by
  apply propext
  constructor
  · rintro ⟨t, h, _, h1⟩; cases h; exact h1 rfl
  · intro h; exact ⟨false, rfl, fun h => (by cases h), fun _ => h⟩
theorem EWc_intro {t : Bool} {a b : Code} (h1 : t = true → EW P N Q (.code a :: k) fr σ) (h2 : t = false → EW P N Q (.code b :: k) fr σ) : EWc (.lit (.bool t)) P N Q a b k fr σ := ⟨t, rfl, h1, h2⟩

/-- A guard. -/
def EWg (g : GuardA) (ok : Bool) (P : Program) (N : Nat) (Q : Fr → Mem → Prop) (q : Bool) (o : Oper) (l : List Oper) (all : Array Oper) (k : List Itm) (fr : Fr) (σ : Mem) : Prop :=
  match g with
  | .run => EW P N Q (.run q o l all :: k) fr σ
  | .skip => ok = true ∧ EW P N Q (.ops q l all :: k) (putA fr o.dst .undef) σ
  | .test x b => ok = true ∧ (x = b → EW P N Q (.run q o l all :: k) fr σ) ∧ (x ≠ b → EW P N Q (.ops q l all :: k) (putA fr o.dst .undef) σ)
  | .fail => False
section
variable {q : Bool} {o : Oper} {l : List Oper} {all : Array Oper}
theorem EWg_run (ok : Bool) : EWg .run ok P N Q q o l all k fr σ = EW P N Q (.run q o l all :: k) fr σ := rfl
theorem EWg_skip : EWg .skip true P N Q q o l all k fr σ = EW P N Q (.ops q l all :: k) (putA fr o.dst .undef) σ := by simp [EWg]
theorem EWg_yes : EWg (.test true true) true P N Q q o l all k fr σ = EW P N Q (.run q o l all :: k) fr σ := by simp [EWg]
theorem EWg_no : EWg (.test false false) true P N Q q o l all k fr σ = EW P N Q (.run q o l all :: k) fr σ := by simp [EWg]
theorem EWg_off : EWg (.test true false) true P N Q q o l all k fr σ = EW P N Q (.ops q l all :: k) (putA fr o.dst .undef) σ := by simp [EWg]
theorem EWg_off' : EWg (.test false true) true P N Q q o l all k fr σ = EW P N Q (.ops q l all :: k) (putA fr o.dst .undef) σ := by simp [EWg]
theorem EWg_intro {x : Bool} (h1 : x = true → EW P N Q (.run q o l all :: k) fr σ) (h2 : x = false → EW P N Q (.ops q l all :: k) (putA fr o.dst .undef) σ) : EWg (.test x true) true P N Q q o l all k fr σ := by
  cases x <;> simp_all [EWg]
end

/-- A call that is to be met by a contract. -/
def EWcall (P : Program) (N : Nat) (Q : Fr → Mem → Prop) (f : FuncId) (args : List AV) (dst : Option Tmp) (l : List Oper) (all : Array Oper) (k : List Itm) (fr : Fr) (σ : Mem) : Prop :=
  ∃ R, CallA P f args σ R ∧ ∀ x σ', R x σ' → EW P N Q (.ops false l all :: k) (putA fr dst x) σ'
/-- A call in a region that draws its order. -/
def EWqcall (P : Program) (N : Nat) (Q : Fr → Mem → Prop) (f : FuncId) (args : List AV) (dst : Option Tmp) (l : List Oper) (all : Array Oper) (k : List Itm) (fr : Fr) (σ : Mem) : Prop :=
  ∃ D, PureA P f args D ∧ rigidA D = true ∧ EW P N Q (.ops true l all :: k) (putA fr dst D) σ
@[congr] theorem EWcall_congr {f f' : FuncId} {args args' : List AV} {dst : Option Tmp} {l : List Oper} {all : Array Oper} {fr' : Fr} {σ' : Mem} (h0 : f = f') (h1 : args = args') (h2 : fr = fr') (h3 : σ = σ') :
    EWcall P N Q f args dst l all k fr σ = EWcall P N Q f' args' dst l all k fr' σ' := by rw [h0, h1, h2, h3]
@[congr] theorem EWqcall_congr {f f' : FuncId} {args args' : List AV} {dst : Option Tmp} {l : List Oper} {all : Array Oper} {fr' : Fr} {σ' : Mem} (h0 : f = f') (h1 : args = args') (h2 : fr = fr') (h3 : σ = σ') :
    EWqcall P N Q f args dst l all k fr σ = EWqcall P N Q f' args' dst l all k fr' σ' := by rw [h0, h1, h2, h3]

theorem EWcall_pure {f : FuncId} {args : List AV} {D : AV} {dst : Option Tmp} {l : List Oper} {all : Array Oper} (h : PureA P f args D) (hk : EW P N Q (.ops false l all :: k) (putA fr dst D) σ) : EWcall P N Q f args dst l all k fr σ :=
  ⟨_, h σ, fun x σ' ⟨h1, h2⟩ => by subst h1; subst h2; exact hk⟩
theorem EWcall_of {f : FuncId} {args : List AV} {R : AV → Mem → Prop} {dst : Option Tmp} {l : List Oper} {all : Array Oper} (h : CallA P f args σ R) (hk : ∀ x σ', R x σ' → EW P N Q (.ops false l all :: k) (putA fr dst x) σ') : EWcall P N Q f args dst l all k fr σ := ⟨R, h, hk⟩
theorem EWqcall_pure {f : FuncId} {args : List AV} {D : AV} {dst : Option Tmp} {l : List Oper} {all : Array Oper} (h : PureA P f args D) (hr : rigidA D = true) (hk : EW P N Q (.ops true l all :: k) (putA fr dst D) σ) : EWqcall P N Q f args dst l all k fr σ := ⟨D, h, hr, hk⟩

/-- What stands behind one operation. -/
def EWn (n : NextA) (P : Program) (N : Nat) (Q : Fr → Mem → Prop) (dst : Option Tmp) (ok : Bool) (l : List Oper) (all : Array Oper) (k : List Itm) (fr : Fr) : Mem → Prop := fun σ =>
  match n with
  | .ok x σ' => ok = true ∧ EW P N Q (.ops false l all :: k) (putA fr dst x) σ'
  | .call f args => ok = true ∧ EWcall P N Q f args dst l all k fr σ
  | .fail => False
def EWnq (n : NextA) (P : Program) (N : Nat) (Q : Fr → Mem → Prop) (quiet : Bool) (dst : Option Tmp) (ok : Bool) (l : List Oper) (all : Array Oper) (k : List Itm) (fr : Fr) : Mem → Prop := fun σ =>
  match n with
  | .ok x σ' => ok = true ∧ quiet = true ∧ EW P N Q (.ops true l all :: k) (putA fr dst x) σ'
  | .call f args => ok = true ∧ EWqcall P N Q f args dst l all k fr σ
  | .fail => False
@[congr] theorem EWn_congr {n n' : NextA} {dst : Option Tmp} {ok ok' : Bool} {l : List Oper} {all : Array Oper} {fr' : Fr} {σ' : Mem} (h0 : n = n') (h1 : ok = ok') (h2 : fr = fr') (h3 : σ = σ') :
    EWn n P N Q dst ok l all k fr σ = EWn n' P N Q dst ok' l all k fr' σ' := by rw [h0, h1, h2, h3]
@[congr] theorem EWnq_congr {n n' : NextA} {qu qu' : Bool} {dst : Option Tmp} {ok ok' : Bool} {l : List Oper} {all : Array Oper} {fr' : Fr} {σ' : Mem} (h0 : n = n') (hq : qu = qu') (h1 : ok = ok') (h2 : fr = fr') (h3 : σ = σ') :
    EWnq n P N Q qu dst ok l all k fr σ = EWnq n' P N Q qu' dst ok' l all k fr' σ' := by rw [h0, hq, h1, h2, h3]
theorem EWn_ok (x : AV) (σ' : Mem) (dst : Option Tmp) (l : List Oper) (all : Array Oper) : EWn (.ok x σ') P N Q dst true l all k fr σ = EW P N Q (.ops false l all :: k) (putA fr dst x) σ' := by simp [EWn]
theorem EWn_call (f : FuncId) (args : List AV) (dst : Option Tmp) (l : List Oper) (all : Array Oper) : EWn (.call f args) P N Q dst true l all k fr σ = EWcall P N Q f args dst l all k fr σ := by simp [EWn]
theorem EWnq_ok (x : AV) (σ' : Mem) (dst : Option Tmp) (l : List Oper) (all : Array Oper) : EWnq (.ok x σ') P N Q true dst true l all k fr σ = EW P N Q (.ops true l all :: k) (putA fr dst x) σ' := by simp [EWnq]
theorem EWnq_call (f : FuncId) (args : List AV) (qu : Bool) (dst : Option Tmp) (l : List Oper) (all : Array Oper) : EWnq (.call f args) P N Q qu dst true l all k fr σ = EWqcall P N Q f args dst l all k fr σ := by simp [EWnq]

@[congr] theorem EW_congr {fr' : Fr} {σ' : Mem} (h2 : fr = fr') (h3 : σ = σ') : EW P N Q k fr σ = EW P N Q k fr' σ' := by rw [h2, h3]

theorem EW_nil : EW P N Q [] fr σ = Q fr σ := propext ⟨fun h => by cases h; assumption, .nil⟩
theorem EW_goal (K : Fr → Mem → Prop) : EW P N Q (.goal K :: k) fr σ = K fr σ := propext ⟨fun h => by cases h; assumption, .goal⟩
theorem EW_blk (id : Nat) : EW P N Q (.blk id :: k) fr σ = EW P N Q k fr σ := propext ⟨fun h => by cases h; assumption, .blk⟩
theorem EW_skip : EW P N Q (.code .skip :: k) fr σ = EW P N Q k fr σ := propext ⟨fun h => by cases h; assumption, .skip⟩
theorem EW_seq (a b : Code) : EW P N Q (.code (.seq a b) :: k) fr σ = EW P N Q (.code a :: .code b :: k) fr σ := propext ⟨fun h => by cases h; assumption, .seq⟩
theorem EW_cond (c : Operand) (a b : Code) : EW P N Q (.code (.cond c a b) :: k) fr σ = EWc (evalA fr c) P N Q a b k fr σ :=
  propext ⟨fun h => by cases h with | cond t h1 h2 h3 => exact ⟨t, h1, h2, h3⟩, fun ⟨t, h1, h2, h3⟩ => .cond t h1 h2 h3⟩
theorem EW_block (id : Nat) (c : Code) : EW P N Q (.code (.block id c) :: k) fr σ = EW P N Q (.code c :: .blk id :: k) fr σ := propext ⟨fun h => by cases h; assumption, .block⟩
theorem EW_ret : EW P N Q (.code .ret :: k) fr σ = Q fr σ := propext ⟨fun h => by cases h; assumption, .ret⟩
def EWx (k' : Option (List Itm)) (P : Program) (N : Nat) (Q : Fr → Mem → Prop) (fr : Fr) : Mem → Prop := fun σ => match k' with | some k' => EW P N Q k' fr σ | none => False
@[congr] theorem EWx_congr {k1 k2 : Option (List Itm)} (h : k1 = k2) : EWx k1 P N Q fr σ = EWx k2 P N Q fr σ := by rw [h]
theorem EWx_some (k' : List Itm) : EWx (some k') P N Q fr σ = EW P N Q k' fr σ := rfl
theorem EW_exit (id : Nat) : EW P N Q (.code (.exit id) :: k) fr σ = EWx (dropTo id k) P N Q fr σ := by
  apply propext
  constructor
  · intro h; cases h with | exit h1 h2 => rw [h1]; exact h2
  · intro h
    cases hd : dropTo id k with
    | none => rw [hd] at h; exact h.elim
    | some k' => rw [hd] at h; exact .exit hd h
theorem EW_region (id : Nat) (l : List Oper) : EW P N Q (.code (.region id l.toArray false) :: k) fr σ = EW P N Q (.ops false l l.toArray :: k) fr σ :=
  propext ⟨fun h => by cases h with | region h => simpa using h, fun h => .region (by simpa using h)⟩
theorem EW_regionD {id : Nat} {l : List Oper} (h1 : P.follows .mixedOrders = true) (h2 : Region.lexB .any l.toArray = true) (h : EW P N Q (.ops true l l.toArray :: k) fr σ) : EW P N Q (.code (.region id l.toArray true) :: k) fr σ := .regionD h1 h2 (by simpa using h)
theorem EW_opsNil (q : Bool) (all : Array Oper) : EW P N Q (.ops q [] all :: k) fr σ = EW P N Q k fr σ := propext ⟨fun h => by cases h; assumption, .opsNil⟩
theorem EW_ops (q : Bool) (o : Oper) (l : List Oper) (all : Array Oper) :
    EW P N Q (.ops q (o :: l) all :: k) fr σ = EWg (guardA all o fr) (dstOk N o.dst) P N Q q o l all k fr σ := by
  apply propext
  constructor
  · intro h
    cases h with
    | opsRun h1 h2 => rw [h1]; exact h2
    | opsSkip h1 h2 h3 => rw [h1]; exact ⟨h2, h3⟩
    | opsTest x b h1 h2 h3 h4 => rw [h1]; exact ⟨h2, h3, h4⟩
  · intro h
    cases hg : guardA all o fr with
    | run => rw [hg] at h; exact .opsRun hg h
    | skip => rw [hg] at h; exact .opsSkip hg h.1 h.2
    | test x b => rw [hg] at h; exact .opsTest x b hg h.1 h.2.1 h.2.2
    | fail => rw [hg] at h; exact h.elim
theorem EW_run (o : Oper) (l : List Oper) (all : Array Oper) : EW P N Q (.run false o l all :: k) fr σ = EWn (evOp P o.op (evalA fr) σ) P N Q o.dst (dstOk N o.dst) l all k fr σ := by
  apply propext
  constructor
  · intro h
    cases h with
    | op x σ' h1 h2 h3 h4 => rw [h1]; exact ⟨h2, h4⟩
    | call f args R h1 h2 h3 h4 => rw [h1]; exact ⟨h2, R, h3, h4⟩
  · intro h
    cases he : evOp P o.op (evalA fr) σ with
    | ok x σ' => rw [he] at h; exact .op x σ' he h.1 (fun h => by cases h) h.2
    | call f args => rw [he] at h; obtain ⟨h1, R, h2, h3⟩ := h; exact .call f args R he h1 h2 h3
    | fail => rw [he] at h; exact h.elim
theorem EW_runq (o : Oper) (l : List Oper) (all : Array Oper) : EW P N Q (.run true o l all :: k) fr σ = EWnq (evOp P o.op (evalA fr) σ) P N Q (quietOp o.op) o.dst (dstOk N o.dst) l all k fr σ := by
  apply propext
  constructor
  · intro h
    cases h with
    | op x σ' h1 h2 h3 h4 => rw [h1]; exact ⟨h2, h3 rfl, h4⟩
    | qcall f args D h1 h2 h3 h4 h5 => rw [h1]; exact ⟨h2, D, h3, h4, h5⟩
  · intro h
    cases he : evOp P o.op (evalA fr) σ with
    | ok x σ' => rw [he] at h; exact .op x σ' he h.1 (fun _ => h.2.1) h.2.2
    | call f args => rw [he] at h; obtain ⟨h1, D, h2, h3, h4⟩ := h; exact .qcall f args D he h1 h2 h3 h4
    | fail => rw [he] at h; exact h.elim

/-- A LOOP: a relation that holds at each head, with a number that each round lowers. -/
theorem EW_loop {c : Code} (I : Nat → Fr → Mem → Prop) (n : Nat) (h0 : I n fr σ) (h : ∀ n fr σ, I n fr σ → EW P N Q (.code c :: .goal (fun fr' σ' => ∃ m, m < n ∧ I m fr' σ') :: k) fr σ) : EW P N Q (.code (.loop c) :: k) fr σ := .loop I n h0 h

/-! ### Registers, memory -/
theorem upd_same (f : Fr) (i : Nat) (x : AV) : upd f i x i = x := by simp [upd]
theorem upd_ne (f : Fr) (i j : Nat) (x : AV) (h : j ≠ i) : upd f i x j = f j := by simp [upd, h]
theorem putA_some (f : Fr) (d : Nat) (x : AV) : putA f (some d) x = upd f d x := rfl
theorem putA_none (f : Fr) (x : AV) : putA f none x = f := rfl
theorem dstOk_some (d : Nat) : dstOk N (some d) = decide (d < N) := rfl
theorem dstOk_none : dstOk N none = true := rfl
theorem evalA_tmp (t : Nat) : evalA fr (.tmp t) = fr t := rfl
theorem evalA_func (f : FuncId) : evalA fr (.func f) = .fn f [] := rfl
theorem evalA_int (kd : IntKind) (n : Int) : evalA fr (.const (.int kd n)) = .lit (.int kd n) := rfl
theorem evalA_bool (b : Bool) : evalA fr (.const (.bool b)) = .lit (.bool b) := rfl
theorem evalA_string (s : ByteArray) : evalA fr (.const (.string s)) = .lit (.string s) := rfl
theorem evalA_nils : evalA fr (.const (.slice none 0 0)) = .nils := rfl
theorem evalA_ptr (a : Option Addr) : evalA fr (.const (.pointer a)) = .lit (.pointer a) := rfl
theorem initFr_eq (args : List AV) (i : Nat) : initFr args i = args.getD i .undef := rfl
theorem get_alloc_same (e : TypeId) (cs : List AV) : (σ.alloc e cs).get σ.next = some cs := by simp [Mem.alloc]
theorem get_alloc (e : TypeId) (cs : List AV) (i : Nat) : (σ.alloc e cs).get i = if i = σ.next then some cs else σ.get i := rfl
theorem get_set (id : Nat) (cs : List AV) (i : Nat) : (σ.set id cs).get i = if i = id then some cs else σ.get i := rfl
theorem get_kill (id : Nat) (i : Nat) : (σ.kill id).get i = if i = id then none else σ.get i := rfl
theorem ty_alloc_same (e : TypeId) (cs : List AV) : (σ.alloc e cs).ty σ.next = e := by simp [Mem.alloc]
theorem ty_alloc (e : TypeId) (cs : List AV) (i : Nat) : (σ.alloc e cs).ty i = if i = σ.next then e else σ.ty i := rfl
theorem ty_set (id : Nat) (cs : List AV) (i : Nat) : (σ.set id cs).ty i = σ.ty i := rfl
theorem ty_kill (id : Nat) (i : Nat) : (σ.kill id).ty i = σ.ty i := rfl
theorem next_alloc (e : TypeId) (cs : List AV) : (σ.alloc e cs).next = σ.next + 1 := rfl
theorem next_set (id : Nat) (cs : List AV) : (σ.set id cs).next = σ.next := rfl
theorem next_kill (id : Nat) : (σ.kill id).next = σ.next := rfl

/-! ### Guards -/
theorem guardA_none (all : Array Oper) (d : Option Tmp) (op : Op) (t : TypeId) (p : String) (af : Array Edge) : guardA all ⟨d, op, t, p, af, none⟩ fr = .run := rfl
def guardT (t : Option Nat) (b : Bool) (fr : Fr) : GuardA :=
  match t with
  | none => .skip
  | some t => match fr t with
    | .lit (.bool x) => .test x b
    | .tup [] => .skip
    | _ => .fail
theorem guardA_some (l : List Oper) (d : Option Tmp) (op : Op) (t : TypeId) (p : String) (af : Array Edge) (j : Nat) (b : Bool) : guardA l.toArray ⟨d, op, t, p, af, some (j, b)⟩ fr = guardT ((l[j]?).bind (·.dst)) b fr := by
  unfold guardA guardT
  simp only [List.getElem?_toArray]
  cases (l[j]?).bind (·.dst) <;> rfl
def guardV (x : AV) (b : Bool) : GuardA :=
  match x with
  | .lit (.bool x) => .test x b
  | .tup [] => .skip
  | _ => .fail
theorem guardT_some (t : Nat) (b : Bool) : guardT (some t) b fr = guardV (fr t) b := rfl
theorem guardV_bool (x b : Bool) : guardV (.lit (.bool x)) b = .test x b := rfl
theorem guardV_undef (b : Bool) : guardV (.tup []) b = .skip := rfl

theorem dropTo_blk (id id' : Nat) : dropTo id (.blk id' :: k) = if id' = id then some k else dropTo id k := rfl
theorem dropTo_code (id : Nat) (c : Code) : dropTo id (.code c :: k) = dropTo id k := rfl
theorem dropTo_goal (id : Nat) (K : Fr → Mem → Prop) : dropTo id (.goal K :: k) = dropTo id k := rfl

theorem val_some (x : AV) : NextA.val σ (some x) = .ok x σ := rfl
end
attribute [go_sem] EWc_true EWc_false EWg_run EWg_skip EWg_yes EWg_no EWg_off EWg_off' EWn_ok EWn_call EWnq_ok EWnq_call EW_nil EW_goal EW_blk EW_skip EW_seq EW_cond EW_block EW_ret EWx_some EW_exit EW_region EW_opsNil EW_ops EW_run EW_runq upd_same upd_ne putA_some putA_none dstOk_some dstOk_none evalA_tmp evalA_func evalA_int evalA_bool evalA_string evalA_nils evalA_ptr initFr_eq get_alloc_same ty_alloc_same ty_set ty_kill next_alloc next_set next_kill guardA_none guardA_some guardT_some guardV_bool guardV_undef dropTo_blk dropTo_code dropTo_goal val_some evOp
end Go.Ew
namespace Go.Ew
open Go Go.RowKit

/-- What was there before is as it was. -/
def Keeps (σ0 σ : Mem) : Prop := ∀ i, i < σ0.next → σ.get i = σ0.get i
section
variable {P : Program} {σ0 σ : Mem}
theorem Keeps.refl (σ : Mem) : Keeps σ σ := fun _ _ => rfl
theorem keeps_self : Keeps σ σ = True := eq_true (Keeps.refl σ)
theorem keeps_alloc (e : TypeId) (cs : List AV) (h : σ0.next ≤ σ.next) : Keeps σ0 (σ.alloc e cs) = Keeps σ0 σ := by
  apply propext
  constructor
  · intro k i hi; have := k i hi; rwa [get_alloc, if_neg (by omega)] at this
  · intro k i hi; rw [get_alloc, if_neg (by omega)]; exact k i hi
theorem keeps_set (id : Nat) (cs : List AV) (h : σ0.next ≤ id) : Keeps σ0 (σ.set id cs) = Keeps σ0 σ := by
  apply propext
  constructor
  · intro k i hi; have := k i hi; rwa [get_set, if_neg (by omega)] at this
  · intro k i hi; rw [get_set, if_neg (by omega)]; exact k i hi
theorem keeps_kill (id : Nat) (h : σ0.next ≤ id) : Keeps σ0 (σ.kill id) = Keeps σ0 σ := by
  apply propext
  constructor
  · intro k i hi; have := k i hi; rwa [get_kill, if_neg (by omega)] at this
  · intro k i hi; rw [get_kill, if_neg (by omega)]; exact k i hi
theorem Keeps.trans {σ1 : Mem} (h : Keeps σ0 σ1) (k : Keeps σ1 σ) (hn : σ0.next ≤ σ1.next) : Keeps σ0 σ := fun i hi => (k i (by omega)).trans (h i hi)

/-- A function's end: its result is the data D, what was there is as it was. -/
def Ends (P : Program) (rs : List ResultVar) (σ0 : Mem) (D : AV) : Fr → Mem → Prop := fun fr σ => ∃ x, resA P rs fr σ = some x ∧ Frz σ0.next σ x D ∧ Keeps σ0 σ
/-- A function's end, in general. -/
def EndsA (P : Program) (rs : List ResultVar) (R : AV → Mem → Prop) : Fr → Mem → Prop := fun fr σ => ∃ x, resA P rs fr σ = some x ∧ R x σ

/-- What there is behind a result. -/
def OptP (o : Option AV) (R : AV → Prop) : Prop := ∃ x, o = some x ∧ R x
theorem OptP_some (x : AV) (R : AV → Prop) : OptP (some x) R = R x := by simp [OptP]
@[congr] theorem OptP_congr {o o' : Option AV} {R : AV → Prop} (h : o = o') : OptP o R = OptP o' R := by rw [h]
theorem Ends_eq (rs : List ResultVar) (D : AV) (fr : Fr) : Ends P rs σ0 D fr σ = OptP (resA P rs fr σ) fun x => Frz σ0.next σ x D ∧ Keeps σ0 σ := rfl
theorem EndsA_eq (rs : List ResultVar) (R : AV → Mem → Prop) (fr : Fr) : EndsA P rs R fr σ = OptP (resA P rs fr σ) fun x => R x σ := rfl

theorem pureA_of {f : FuncId} {fn : Func} {c : Code} {args : List AV} {D : AV} (hf : P.funcs[f]? = some fn) (hb : fn.body = some c) (hn : (fn.name == "runtime.NumGoroutine") = false)
    (h : ∀ σ, EW P (args.length + (fn.ntmps - args.length)) (Ends P fn.results.toList σ D) [.code c] (initFr args) σ) : PureA P f args D := pureA_of_EW hf hb hn h
theorem callA_of {f : FuncId} {fn : Func} {c : Code} {args : List AV} {R : AV → Mem → Prop} (hf : P.funcs[f]? = some fn) (hb : fn.body = some c) (hn : (fn.name == "runtime.NumGoroutine") = false)
    (h : EW P (args.length + (fn.ntmps - args.length)) (EndsA P fn.results.toList R) [.code c] (initFr args) σ) : CallA P f args σ R := callA_of_EW hf hb hn h

theorem resA_tmp (t : Nat) (fr : Fr) : resA P [.tmp t] fr σ = some (fr t) := rfl
theorem resA_cell (a : Nat) (t : TypeId) (fr : Fr) : resA P [.cell a t] fr σ = (atPtr σ (fr a)).bind (readA P t) := rfl
theorem resA_nil (fr : Fr) : resA P [] fr σ = some (.tup []) := rfl
theorem resA_many (r s : ResultVar) (rs : List ResultVar) (fr : Fr) : resA P (r :: s :: rs) fr σ = (resAll P fr σ (r :: s :: rs)).map .tup := rfl
theorem resAll_nil (fr : Fr) : resAll P fr σ [] = some [] := rfl
theorem resAll_tmp (t : Nat) (rs : List ResultVar) (fr : Fr) : resAll P fr σ (.tmp t :: rs) = (resAll P fr σ rs).map fun xs => fr t :: xs := rfl
theorem resAll_cell (a : Nat) (t : TypeId) (rs : List ResultVar) (fr : Fr) : resAll P fr σ (.cell a t :: rs) = ((atPtr σ (fr a)).bind (readA P t)).bind fun x => (resAll P fr σ rs).map fun xs => x :: xs := rfl

/-! ### Reading results off as data -/
variable {n0 : Nat}
theorem frz_lit (v : Value) (D : AV) : Frz n0 σ (.lit v) D = (D = .lit v) := propext ⟨fun h => by cases h; rfl, fun h => by subst h; exact .lit v⟩
/-- Lists of values read off as data. -/
def FrzL (n0 : Nat) (σ : Mem) (xs ys : List AV) : Prop := xs.length = ys.length ∧ ∀ (j : Nat) (x y : AV), xs[j]? = some x → ys[j]? = some y → Frz n0 σ x y
theorem frzL_nil : FrzL n0 σ [] [] = True := eq_true ⟨rfl, fun j x y h => by simp at h⟩
theorem frzL_cons (x y : AV) (xs ys : List AV) : FrzL n0 σ (x :: xs) (y :: ys) = (Frz n0 σ x y ∧ FrzL n0 σ xs ys) := by
  apply propext
  constructor
  · rintro ⟨h1, h2⟩
    exact ⟨h2 0 x y rfl rfl, by simpa using h1, fun j a b ha hb => h2 (j + 1) a b (by simpa using ha) (by simpa using hb)⟩
  · rintro ⟨h1, h2, h3⟩
    refine ⟨by simp [h2], fun j a b ha hb => ?_⟩
    cases j with
    | zero => simp at ha hb; subst ha; subst hb; exact h1
    | succ j => exact h3 j a b (by simpa using ha) (by simpa using hb)
theorem frz_tup (xs ys : List AV) : Frz n0 σ (.tup xs) (.tup ys) = FrzL n0 σ xs ys := propext ⟨fun h => by cases h with | tup _ _ h1 h2 => exact ⟨h1, h2⟩, fun h => .tup _ _ h.1 h.2⟩
theorem frz_agg (xs ys : List AV) : Frz n0 σ (.agg xs) (.agg ys) = FrzL n0 σ xs ys := propext ⟨fun h => by cases h with | agg _ _ h1 h2 => exact ⟨h1, h2⟩, fun h => .agg _ _ h.1 h.2⟩
theorem frz_nils : Frz n0 σ .nils (.imm 0 []) = True := eq_true .nils
theorem frz_imm (n : Nat) (xs ys : List AV) : Frz n0 σ (.imm n xs) (.imm n ys) = FrzL n0 σ xs ys := propext ⟨fun h => by cases h with | imm _ _ _ h1 h2 => exact ⟨h1, h2⟩, fun h => .imm _ _ _ h.1 h.2⟩

theorem frz_iptr (xs ys : List AV) : Frz n0 σ (.iptr xs) (.iptr ys) = FrzL n0 σ xs ys := propext ⟨fun h => by cases h with | iptr _ _ h1 h2 => exact ⟨h1, h2⟩, fun h => .iptr _ _ h.1 h.2⟩
theorem frz_fn (f : FuncId) (xs ys : List AV) : Frz n0 σ (.fn f xs) (.fn f ys) = FrzL n0 σ xs ys := propext ⟨fun h => by cases h with | fn _ _ _ h1 h2 => exact ⟨h1, h2⟩, fun h => .fn _ _ _ h.1 h.2⟩
/-- Data: no object in it. -/
def DataA (x : AV) : Prop := ∀ n0 σ, Frz n0 σ x x
def DataL (xs : List AV) : Prop := ∀ x ∈ xs, DataA x
theorem DataA.lit (v : Value) : DataA (.lit v) := fun _ _ => .lit v
theorem DataL.frz {xs : List AV} (h : DataL xs) : FrzL n0 σ xs xs := ⟨rfl, fun j x y hx hy => by rw [hx] at hy; cases hy; exact h x (List.mem_of_getElem? hx) _ _⟩
theorem DataA.imm {n : Nat} {xs : List AV} (h : DataL xs) : DataA (.imm n xs) := fun _ _ => .imm n xs xs rfl (h.frz).2
theorem DataA.agg {xs : List AV} (h : DataL xs) : DataA (.agg xs) := fun _ _ => .agg xs xs rfl (h.frz).2
theorem DataL.nil : DataL [] := fun x h => by cases h
theorem DataL.cons {x : AV} {xs : List AV} (h : DataA x) (k : DataL xs) : DataL (x :: xs) := fun y hy => by
  rcases List.mem_cons.1 hy with rfl | hy
  · exact h
  · exact k y hy
theorem DataL.append {xs ys : List AV} (h : DataL xs) (k : DataL ys) : DataL (xs ++ ys) := fun y hy => by
  rcases List.mem_append.1 hy with hy | hy
  · exact h y hy
  · exact k y hy
theorem DataL.map {α : Type} {f : α → AV} (h : ∀ a, DataA (f a)) (l : List α) : DataL (l.map f) := fun y hy => by
  obtain ⟨a, _, rfl⟩ := List.mem_map.1 hy; exact h a
theorem DataL.flatMap {α : Type} {f : α → List AV} (h : ∀ a, DataL (f a)) (l : List α) : DataL (l.flatMap f) := fun y hy => by
  obtain ⟨a, _, h2⟩ := List.mem_flatMap.1 hy; exact h a y h2
/-- A slice of the call's own, read off as data. -/
theorem frz_arr {id n sz : Nat} {cs : List AV} (h0 : n0 ≤ id) (h1 : σ.get id = some cs) (hd : DataL cs) : Frz n0 σ (.arr id 0 n sz) (.imm n cs) :=
  .arr id 0 n sz cs cs h0 h1 (by simp) (by simpa using (hd.frz (n0 := n0) (σ := σ)).2)

/-- A pointer to an object of the call's own, read off as data. -/
theorem frz_ptr {id : Nat} {cs : List AV} (h0 : n0 ≤ id) (h1 : σ.get id = some cs) (hd : DataL cs) : Frz n0 σ (.ptr id 0) (.iptr cs) :=
  .ptr id 0 cs cs h0 h1 (by simp) (by simpa using (hd.frz (n0 := n0) (σ := σ)).2)
theorem DataA.fn {f : FuncId} {xs : List AV} (h : DataL xs) : DataA (.fn f xs) := fun _ _ => .fn f xs xs rfl (h.frz).2
theorem DataA.iptr {xs : List AV} (h : DataL xs) : DataA (.iptr xs) := fun _ _ => .iptr xs xs rfl (h.frz).2

/-! ### Operations -/
theorem binA_int2 (op : BinOp) (t : TypeId) (kd kd' : IntKind) (a b : Int) (h : ¬ kd = kd') : binA P op t (.lit (.int kd a)) (.lit (.int kd' b)) = shiftBin op kd a b := by simp [binA, h]
theorem binA_int (op : BinOp) (t : TypeId) (kd : IntKind) (a b : Int) : binA P op t (.lit (.int kd a)) (.lit (.int kd b)) = intBin op kd a b := by simp [binA]
theorem binA_string (op : BinOp) (t : TypeId) (a b : ByteArray) : binA P op t (.lit (.string a)) (.lit (.string b)) = strBin op a.data.toList b.data.toList := by simp [binA]
theorem binA_beq (t : TypeId) (a b : Bool) (h : boolTy P t = true) : binA P .eql t (.lit (.bool a)) (.lit (.bool b)) = some (.lit (.bool (a == b))) := by simp [binA, h]
theorem binA_bne (t : TypeId) (a b : Bool) (h : boolTy P t = true) : binA P .neq t (.lit (.bool a)) (.lit (.bool b)) = some (.lit (.bool (a != b))) := by simp [binA, h]
theorem binA_agg (op : BinOp) (t : TypeId) (xs ys : List AV) : binA P op t (.agg xs) (.agg ys) = match plainTy P t with
    | some ts => if xs.length = ts.length ∧ ys.length = ts.length ∧ (ts.zip xs).all (fun (u, x) => cellFits P u x) ∧ (ts.zip ys).all (fun (u, x) => cellFits P u x) then
        (match op with | .eql => (eqCells xs ys).map fun b => .lit (.bool b) | .neq => (eqCells xs ys).map fun b => .lit (.bool (!b)) | _ => none) else none
    | none => none := rfl
theorem binA_nil1 (op : BinOp) (t : TypeId) (n : Nat) (cs : List AV) : binA P op t (.imm n cs) .nils = match sliceTy P t with
    | some _ => (match op with | .eql => (nilEq (.imm n cs) .nils).map fun b => .lit (.bool b) | .neq => (nilEq (.imm n cs) .nils).map fun b => .lit (.bool (!b)) | _ => none)
    | none => none := rfl
theorem binA_nil2 (op : BinOp) (t : TypeId) : binA P op t .nils .nils = match sliceTy P t with
    | some _ => (match op with | .eql => (nilEq .nils .nils).map fun b => .lit (.bool b) | .neq => (nilEq .nils .nils).map fun b => .lit (.bool (!b)) | _ => none)
    | none => none := rfl
theorem binA_nil3 (op : BinOp) (t : TypeId) (id off n sz : Nat) : binA P op t (.arr id off n sz) .nils = match sliceTy P t with
    | some _ => (match op with | .eql => (nilEq (.arr id off n sz) .nils).map fun b => .lit (.bool b) | .neq => (nilEq (.arr id off n sz) .nils).map fun b => .lit (.bool (!b)) | _ => none)
    | none => none := rfl

theorem binA_nil4 (op : BinOp) (t : TypeId) (a : Option Addr) (n c : Nat) : binA P op t (.lit (.slice a n c)) .nils = match sliceTy P t with
    | some _ => (match op with | .eql => (nilEq (.lit (.slice a n c)) .nils).map fun b => .lit (.bool b) | .neq => (nilEq (.lit (.slice a n c)) .nils).map fun b => .lit (.bool (!b)) | _ => none)
    | none => none := rfl

theorem cellsA_string (b : ByteArray) : cellsA (.lit (.string b)) = some [.lit (.string b)] := rfl
theorem cellsA_int (kd : IntKind) (n : Int) : cellsA (.lit (.int kd n)) = some [.lit (.int kd n)] := rfl
theorem cellsA_bool (b : Bool) : cellsA (.lit (.bool b)) = some [.lit (.bool b)] := rfl
theorem cellsA_pointer (a : Option Addr) : cellsA (.lit (.pointer a)) = some [.lit (.pointer a)] := rfl
theorem cellsA_agg (cs : List AV) : cellsA (.agg cs) = some cs := rfl
theorem cellsA_nils : cellsA .nils = some [.nils] := rfl
theorem cellsA_imm (n : Nat) (cs : List AV) : cellsA (.imm n cs) = some [.imm n cs] := rfl
theorem cellsA_arr (id off n sz : Nat) : cellsA (.arr id off n sz) = some [.arr id off n sz] := rfl
theorem cellsA_ptr (id off : Nat) : cellsA (.ptr id off) = some [.ptr id off] := rfl
theorem cellsA_iptr (cs : List AV) : cellsA (.iptr cs) = some [.iptr cs] := rfl
theorem cellsA_fn (f : FuncId) (cs : List AV) : cellsA (.fn f cs) = some [.fn f cs] := rfl
def fillS (pl : Option (Nat × Nat)) (new : Option (List AV)) (place : Nat → Option (Nat × Nat)) (cells : List AV) (rest : List (Nat × AV)) : Option (List AV) :=
  match pl, new with
  | some (off, size), some new => if new.length = size ∧ off + size ≤ cells.length then fillA place (spliceA cells off new) rest else none
  | _, _ => none
theorem fillA_nil (place : Nat → Option (Nat × Nat)) (cells : List AV) : fillA place cells [] = some cells := rfl
theorem fillA_cons (place : Nat → Option (Nat × Nat)) (cells : List AV) (i : Nat) (x : AV) (rest : List (Nat × AV)) : fillA place cells ((i, x) :: rest) = fillS (place i) (cellsA x) place cells rest := rfl
theorem fillS_some (off size : Nat) (new : List AV) (place : Nat → Option (Nat × Nat)) (cells : List AV) (rest : List (Nat × AV)) : fillS (some (off, size)) (some new) place cells rest = if new.length = size ∧ off + size ≤ cells.length then fillA place (spliceA cells off new) rest else none := rfl
@[congr] theorem fillS_congr {pl pl' : Option (Nat × Nat)} {new new' : Option (List AV)} {place : Nat → Option (Nat × Nat)} {cells cells' : List AV} {rest : List (Nat × AV)} (h : pl = pl') (h' : new = new') (h2 : cells = cells') : fillS pl new place cells rest = fillS pl' new' place cells' rest := by rw [h, h', h2]
theorem int_beq (a b : Int) : (a == b) = decide (a = b) := by by_cases h : a = b <;> simp [h]
theorem int_bne (a b : Int) : (a != b) = !decide (a = b) := by by_cases h : a = b <;> simp [h]
theorem take_drop_end (s : List UInt8) (n : Nat) : (s.drop n).take (s.length - n) = s.drop n := List.take_of_length_le (by simp)
theorem take_tail_end (s : List UInt8) : s.tail.take (s.length - 1) = s.tail := List.take_of_length_le (by simp)
theorem u8_lit (c : UInt8) (n : Nat) (hn : n < 256) : ((c.toNat : Int) = n) = (c = UInt8.ofNat n) := by
  apply propext
  constructor
  · intro h
    apply UInt8.toNat_inj.1
    have : c.toNat = n := by omega
    rw [this, UInt8.toNat_ofNat_of_lt' hn]
  · rintro rfl
    rw [UInt8.toNat_ofNat_of_lt' hn]
theorem wrap64_of (n : Int) (h1 : -9223372036854775808 ≤ n) (h2 : n ≤ 9223372036854775807) : IntKind.i64.wrap n = n := by rw [IntKind.wrap_i64]; omega
/-- An index of a list of equal parts. -/
theorem drop_flatMap {α : Type} {f : α → List AV} {sz : Nat} (hf : ∀ a, (f a).length = sz) : ∀ (l : List α) (i : Nat) (h : i < l.length), (l.flatMap f).drop (i * sz) = f l[i] ++ (l.drop (i + 1)).flatMap f
  | a :: l, 0, h => by simp
  | a :: l, i + 1, h => by
    rw [List.flatMap_cons, Nat.add_mul, Nat.one_mul, Nat.add_comm, ← List.drop_drop, show (f a ++ l.flatMap f).drop sz = l.flatMap f by rw [← hf a]; exact List.drop_left]
    exact drop_flatMap hf l i (by simpa using h)
theorem length_flatMap {α : Type} {f : α → List AV} {sz : Nat} (hf : ∀ a, (f a).length = sz) : ∀ l : List α, (l.flatMap f).length = l.length * sz
  | [] => by simp
  | a :: l => by rw [List.flatMap_cons, List.length_append, hf a, length_flatMap hf l, List.length_cons, Nat.add_mul, Nat.one_mul, Nat.add_comm]
end
attribute [go_sem] frz_iptr frz_fn keeps_self keeps_alloc keeps_set keeps_kill OptP_some Ends_eq EndsA_eq resA_tmp resA_cell resA_nil resA_many resAll_nil resAll_tmp resAll_cell frz_lit frzL_nil frzL_cons frz_tup frz_agg frz_nils frz_imm
  binA_int binA_int2 shiftBin binA_string binA_beq binA_bne binA_agg binA_nil1 binA_nil2 binA_nil3 binA_nil4 intBin strBin unA convA lenA intOfA boundA sliceA indexAddrA indexA fieldAddrA fieldA readA atPtr buildA zerosA buildSliceA makeSliceA storeA nilCheckA extractA pickA maxA minA itemsA appendA
  quietOp eqCells eqCell cellFits nilEq spliceA appendStrA bytesA copyA
  cellsA_string cellsA_int cellsA_bool cellsA_pointer cellsA_agg cellsA_nils cellsA_imm cellsA_arr cellsA_ptr cellsA_iptr cellsA_fn fillA_nil fillA_cons fillS_some int_beq int_bne take_drop_end take_tail_end
end Go.Ew
namespace Go.Ew
open Go Go.RowKit

section
variable {P : Program}

end
end Go.Ew
