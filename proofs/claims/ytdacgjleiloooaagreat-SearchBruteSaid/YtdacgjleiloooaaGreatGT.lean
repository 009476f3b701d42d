/-
  The data of this seat, by a program of ours (gen.py).
-/
import Derived.Test.YtdacgjleiloooaaGreatB3
import Derived.Test.YtdacgjleiloooaaGreatB2
set_option linter.unusedSimpArgs false
set_option linter.unusedVariables false
namespace Go.Proofs.YtdacgjleiloooaaGreat
open Go Go.Ew
attribute [go_sem] killAll_get' Nat.add_assoc cellAt idOf Int.natCast_inj List.take_of_length_le get_alloc get_set get_kill ty_alloc ty_set ty_kill killAll_next killAll_ty next_alloc next_set next_kill boolsA boolssA intsA e3sA strsA attrsA nodesA edgesA morphsA
theorem gd_attrC (x : Attr) : DataL (attrC x) := .cons (.lit _) (.cons (.lit _) (.cons (.lit _) (.cons (.imm (DataL.map (fun _ => .lit _) (x.names))) (.nil))))
theorem gd_nodeC (x : NodeT) : DataL (nodeC x) := .cons (.lit _) (.cons (.lit _) (.cons (.lit _) (.cons (.imm (DataL.flatMap gd_attrC (x.attrs))) (.nil))))
theorem gd_edgeC (x : EdgeT) : DataL (edgeC x) := .cons (.lit _) (.cons (.lit _) (.cons (.lit _) (.cons (.lit _) (.cons (.lit _) (.cons (.lit _) (.cons (.lit _) (.nil)))))))
theorem gd_e3C (x : E3) : DataL (e3C x) := .cons (.lit _) (.cons (.lit _) (.cons (.lit _) (.nil)))
theorem gd_morphC (x : Morph) : DataL (morphC x) := .cons (.imm (DataL.map (fun _ => .lit _) (x.nodes))) (.cons (.imm (DataL.map (fun _ => .lit _) (x.edges))) (.nil))
structure Gscarfjointref17_search where
  t : Types
  p : Graph
  g : Graph
  partialx : Morph
  injective : Bool
  most : Int
  found : List Morph
deriving Inhabited
def sl_Gscarfjointref17_search (x : Gscarfjointref17_search) : List Slot := [.dat (nodesA (x.t.nodes)), .dat (edgesA (x.t.edges)), .dat (intsA (x.p.nodes)), .dat (e3sA (x.p.edges)), .dat (intsA (x.g.nodes)), .dat (e3sA (x.g.edges)), .dat (intsA (x.partialx.nodes)), .dat (intsA (x.partialx.edges)), .dat (AV.bool (x.injective)), .dat (AV.int (x.most)), .own 33 (x.found.flatMap morphC) x.found.length 2]
theorem ok_sl_Gscarfjointref17_search (x : Gscarfjointref17_search) : ∀ ss ∈ [sl_Gscarfjointref17_search x], ∀ s ∈ ss, s.ok := oks_1 (oks_d (noId_imm _ _) rfl (oks_d (noId_imm _ _) rfl (oks_d (noId_imm _ _) rfl (oks_d (noId_imm _ _) rfl (oks_d (noId_imm _ _) rfl (oks_d (noId_imm _ _) rfl (oks_d (noId_imm _ _) rfl (oks_d (noId_imm _ _) rfl (oks_d (noId_lit _) rfl (oks_d (noId_lit _) rfl (oks_o (noId_flat (fun a => (alc_c (noId_imm _ _) (alc_c (noId_imm _ _) (alc_n)) : ∀ x ∈ morphC a, noId x)) _) (oks_n))))))))))))
structure Gscarfjointlaw17_Case where
  t : Types
  p : Graph
  g : Graph
deriving Inhabited
def Gscarfjointlaw17_CaseC (x : Gscarfjointlaw17_Case) : List AV := [nodesA (x.t.nodes), edgesA (x.t.edges), intsA (x.p.nodes), e3sA (x.p.edges), intsA (x.g.nodes), e3sA (x.g.edges)]
structure Ar2_Int where
  a0 : Int
  a1 : Int
deriving Inhabited, DecidableEq
def Ar2_IntC (x : Ar2_Int) : List AV := [AV.lit (.int .u8 (x.a0)), AV.lit (.int .u8 (x.a1))]
@[go_sem] def sl_Ar2_Int (l : List Ar2_Int) : AV := .imm l.length (l.flatMap Ar2_IntC)
structure Ar3_Int where
  a0 : Int
  a1 : Int
  a2 : Int
deriving Inhabited, DecidableEq
def Ar3_IntC (x : Ar3_Int) : List AV := [AV.lit (.int .u8 (x.a0)), AV.lit (.int .u8 (x.a1)), AV.lit (.int .u8 (x.a2))]
structure Gscarfjointref05_Draft where
  nodes : List Int
  edges : List Ar3_Int
deriving Inhabited
@[go_sem] def sl_Int_u8 (l : List Int) : AV := .imm l.length (l.map (fun n => AV.lit (.int .u8 n)))
@[go_sem] def sl_Ar3_Int (l : List Ar3_Int) : AV := .imm l.length (l.flatMap Ar3_IntC)
def Gscarfjointref05_DraftC (x : Gscarfjointref05_Draft) : List AV := [sl_Int_u8 (x.nodes), sl_Ar3_Int (x.edges)]
structure Gscarfjointlaw17_Drafts where
  nodes : List Ar2_Int
  edges : List Ar2_Int
  p : Gscarfjointref05_Draft
  g : Gscarfjointref05_Draft
deriving Inhabited
def Gscarfjointlaw17_DraftsC (x : Gscarfjointlaw17_Drafts) : List AV := [sl_Ar2_Int (x.nodes), sl_Ar2_Int (x.edges), sl_Int_u8 (x.p.nodes), sl_Ar3_Int (x.p.edges), sl_Int_u8 (x.g.nodes), sl_Ar3_Int (x.g.edges)]
end Go.Proofs.YtdacgjleiloooaaGreat
