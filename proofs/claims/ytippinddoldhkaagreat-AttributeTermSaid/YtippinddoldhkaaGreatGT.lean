/-
  The data of this seat, by a program of ours (gen.py).
-/
import Derived.Test.YtippinddoldhkaaGreatB3
import Derived.Test.YtippinddoldhkaaGreatB2
set_option linter.unusedSimpArgs false
set_option linter.unusedVariables false
namespace Go.Proofs.YtippinddoldhkaaGreat
open Go Go.Ew
attribute [go_sem] killAll_get' Nat.add_assoc cellAt idOf Int.natCast_inj List.take_of_length_le get_alloc get_set get_kill ty_alloc ty_set ty_kill killAll_next killAll_ty next_alloc next_set next_kill boolsA boolssA intsA e3sA strsA attrsA nodesA edgesA morphsA
theorem gd_attrC (x : Attr) : DataL (attrC x) := .cons (.lit _) (.cons (.lit _) (.cons (.lit _) (.cons (.imm (DataL.map (fun _ => .lit _) (x.names))) (.nil))))
theorem gd_nodeC (x : NodeT) : DataL (nodeC x) := .cons (.lit _) (.cons (.lit _) (.cons (.lit _) (.cons (.imm (DataL.flatMap gd_attrC (x.attrs))) (.nil))))
theorem gd_edgeC (x : EdgeT) : DataL (edgeC x) := .cons (.lit _) (.cons (.lit _) (.cons (.lit _) (.cons (.lit _) (.cons (.lit _) (.cons (.lit _) (.cons (.lit _) (.nil)))))))
structure GTerm where
  var : Int
  add : Int
deriving Inhabited, DecidableEq
def GTermC (x : GTerm) : List AV := [AV.int (x.var), AV.int (x.add)]
structure GTest where
  kind : Int
  left : GTerm
  right : GTerm
deriving Inhabited
def GTestC (x : GTest) : List AV := [AV.int (x.kind), AV.int (x.left.var), AV.int (x.left.add), AV.int (x.right.var), AV.int (x.right.add)]
theorem gd_GTestC (x : GTest) : DataL (GTestC x) := .cons (.lit _) (.cons (.lit _) (.cons (.lit _) (.cons (.lit _) (.cons (.lit _) (.nil)))))
theorem gd_e3C (x : E3) : DataL (e3C x) := .cons (.lit _) (.cons (.lit _) (.cons (.lit _) (.nil)))
structure GSlot where
  node : Int
  attr : Int
  term : GTerm
deriving Inhabited
def GSlotC (x : GSlot) : List AV := [AV.int (x.node), AV.int (x.attr), AV.int (x.term.var), AV.int (x.term.add)]
theorem gd_GSlotC (x : GSlot) : DataL (GSlotC x) := .cons (.lit _) (.cons (.lit _) (.cons (.lit _) (.cons (.lit _) (.nil))))
structure GPattern where
  graph : Graph
  slots : List GSlot
  vars : Int
  tests : List GTest
deriving Inhabited
theorem intsA_data (l : List Int) : DataA (intsA l) := .imm (DataL.map (fun _ => .lit _) l)
@[go_sem] def sl_GSlot (l : List GSlot) : AV := .imm l.length (l.flatMap GSlotC)
@[go_sem] def sl_GTest (l : List GTest) : AV := .imm l.length (l.flatMap GTestC)
structure GHost where
  graph : Graph
  values : List (List Int)
deriving Inhabited
@[go_sem] def sl_List_Int (l : List (List Int)) : AV := .imm l.length (l.map intsA)
theorem gd_morphC (x : Morph) : DataL (morphC x) := .cons (.imm (DataL.map (fun _ => .lit _) (x.nodes))) (.cons (.imm (DataL.map (fun _ => .lit _) (x.edges))) (.nil))
structure GMatch where
  morphism : Morph
  vars : List Int
deriving Inhabited
def GMatchC (x : GMatch) : List AV := [intsA (x.morphism.nodes), intsA (x.morphism.edges), intsA (x.vars)]
theorem gd_GMatchC (x : GMatch) : DataL (GMatchC x) := .cons (.imm (DataL.map (fun _ => .lit _) (x.morphism.nodes))) (.cons (.imm (DataL.map (fun _ => .lit _) (x.morphism.edges))) (.cons (.imm (DataL.map (fun _ => .lit _) (x.vars))) (.nil)))
@[go_sem] def sl_GMatch (l : List GMatch) : AV := .imm l.length (l.flatMap GMatchC)
structure GUse where
  test : Int
  sign : Int
deriving Inhabited, DecidableEq
def GUseC (x : GUse) : List AV := [AV.int (x.test), AV.int (x.sign)]
theorem gd_GUseC (x : GUse) : DataL (GUseC x) := .cons (.lit _) (.cons (.lit _) (.nil))
structure Gdifference_arc where
  use : GUse
  fromx : Int
  tox : Int
  most : Int
deriving Inhabited
def Gdifference_arcC (x : Gdifference_arc) : List AV := [AV.int (x.use.test), AV.int (x.use.sign), AV.int (x.fromx), AV.int (x.tox), AV.int (x.most)]
theorem gd_Gdifference_arcC (x : Gdifference_arc) : DataL (Gdifference_arcC x) := .cons (.lit _) (.cons (.lit _) (.cons (.lit _) (.cons (.lit _) (.cons (.lit _) (.nil)))))
@[go_sem] def sl_Gdifference_arc (l : List Gdifference_arc) : AV := .imm l.length (l.flatMap Gdifference_arcC)
@[go_sem] def sl_GUse (l : List GUse) : AV := .imm l.length (l.flatMap GUseC)
@[go_sem] def sl_Int_i32 (l : List Int) : AV := .imm l.length (l.map (fun n => AV.lit (.int .i32 n)))
end Go.Proofs.YtippinddoldhkaaGreat
