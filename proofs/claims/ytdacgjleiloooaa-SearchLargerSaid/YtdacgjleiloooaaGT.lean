/-
  The data of this seat, by a program of ours (gen.py).
-/
import Derived.Test.YtdacgjleiloooaaB3
import Derived.Test.YtdacgjleiloooaaB2
set_option linter.unusedSimpArgs false
set_option linter.unusedVariables false
namespace Go.Proofs.Ytdacgjleiloooaa
open Go Go.Ew
attribute [go_sem] killAll_get' Nat.add_assoc cellAt idOf Int.natCast_inj List.take_of_length_le get_alloc get_set get_kill ty_alloc ty_set ty_kill killAll_next killAll_ty next_alloc next_set next_kill boolsA boolssA intsA e3sA strsA attrsA nodesA edgesA morphsA
structure Ar2_Int where
  a0 : Int
  a1 : Int
deriving Inhabited, DecidableEq
def Ar2_IntC (x : Ar2_Int) : List AV := [AV.lit (.int .u8 (x.a0)), AV.lit (.int .u8 (x.a1))]
@[go_sem] def sl_Ar2_Int (l : List Ar2_Int) : AV := .imm l.length (l.flatMap Ar2_IntC)
theorem gd_attrC (x : Attr) : DataL (attrC x) := .cons (.lit _) (.cons (.lit _) (.cons (.lit _) (.cons (.imm (DataL.map (fun _ => .lit _) (x.names))) (.nil))))
theorem gd_nodeC (x : NodeT) : DataL (nodeC x) := .cons (.lit _) (.cons (.lit _) (.cons (.lit _) (.cons (.imm (DataL.flatMap gd_attrC (x.attrs))) (.nil))))
theorem gd_edgeC (x : EdgeT) : DataL (edgeC x) := .cons (.lit _) (.cons (.lit _) (.cons (.lit _) (.cons (.lit _) (.cons (.lit _) (.cons (.lit _) (.cons (.lit _) (.nil)))))))
theorem gd_e3C (x : E3) : DataL (e3C x) := .cons (.lit _) (.cons (.lit _) (.cons (.lit _) (.nil)))
structure Ar3_Int where
  a0 : Int
  a1 : Int
  a2 : Int
deriving Inhabited, DecidableEq
def Ar3_IntC (x : Ar3_Int) : List AV := [AV.lit (.int .u8 (x.a0)), AV.lit (.int .u8 (x.a1)), AV.lit (.int .u8 (x.a2))]
structure Gscarfjointref05_Draft where
  nodes : List Int
  edges : List Ar3_Int
deriving Inhabited
@[go_sem] def sl_Int_u8 (l : List Int) : AV := .imm l.length (l.map (fun n => AV.lit (.int .u8 n)))
@[go_sem] def sl_Ar3_Int (l : List Ar3_Int) : AV := .imm l.length (l.flatMap Ar3_IntC)
def Gscarfjointref05_DraftC (x : Gscarfjointref05_Draft) : List AV := [sl_Int_u8 (x.nodes), sl_Ar3_Int (x.edges)]
structure Gscarfjointlaw17_Drafts where
  nodes : List Ar2_Int
  edges : List Ar2_Int
  p : Gscarfjointref05_Draft
  g : Gscarfjointref05_Draft
deriving Inhabited
def Gscarfjointlaw17_DraftsC (x : Gscarfjointlaw17_Drafts) : List AV := [sl_Ar2_Int (x.nodes), sl_Ar2_Int (x.edges), sl_Int_u8 (x.p.nodes), sl_Ar3_Int (x.p.edges), sl_Int_u8 (x.g.nodes), sl_Ar3_Int (x.g.edges)]
theorem gd_morphC (x : Morph) : DataL (morphC x) := .cons (.imm (DataL.map (fun _ => .lit _) (x.nodes))) (.cons (.imm (DataL.map (fun _ => .lit _) (x.edges))) (.nil))
end Go.Proofs.Ytdacgjleiloooaa
