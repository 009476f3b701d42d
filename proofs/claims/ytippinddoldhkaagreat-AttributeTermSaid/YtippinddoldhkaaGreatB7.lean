/-
  Contracts of our own, as plain functions for the generator: types.Valid, given, attrs, line, is; graph.Valid.
-/
import Derived.Test.YtippinddoldhkaaGreatB3
import Derived.Laws.Externs
import Derived.Test.YtippinddoldhkaaGreatB2
set_option linter.unusedSimpArgs false
set_option linter.unusedVariables false
namespace Go.Proofs.YtippinddoldhkaaGreat
open Go Go.Ew Go.Proofs Go.RowKit
set_option maxRecDepth 10000
noncomputable def s_types_Valid (t : Types) : Option (List UInt8 × Int) := if wfTypes t then some ((validF t).1, ((validF t).2 : Int)) else none
theorem w_types_Valid (t : Types) (r : List UInt8 × Int) (h : s_types_Valid t = some r) : PureA Tryz.prog 49 [typesA t] (.tup [.str r.1, .int r.2]) := by
  obtain ⟨h1, rfl⟩ := some_of_if h
  exact valid_ev t h1
noncomputable def s_types_given (t : Types) (l : List Int) : Option Int := if wfTypes t ∧ l.length ≤ 4611686018427387904 then some (givenF t l : Int) else none
theorem w_types_given (t : Types) (l : List Int) (r : Int) (h : s_types_given t l = some r) : PureA Tryz.prog 133 [typesA t, intsA l] (.int r) := by
  obtain ⟨⟨h1, h2⟩, rfl⟩ := some_of_if h
  exact given_ev t h1 l h2
noncomputable def s_types_is (t : Types) (a b : Int) : Option Bool := if 0 ≤ a ∧ t.nodes.length ≤ 12 ∧ a.toNat < t.nodes.length ∧ okAll t.nodes then some (isF t.nodes a.toNat b) else none
theorem w_types_is (t : Types) (a b : Int) (r : Bool) (h : s_types_is t a b = some r) : PureA Tryz.prog 172 [typesA t, .int a, .int b] (.bool r) := by
  obtain ⟨⟨h0, h1, h2, h3⟩, rfl⟩ := some_of_if h
  have := is_ev t h3 h1 a.toNat h2 b
  rwa [Int.toNat_of_nonneg h0] at this
noncomputable def s_graph_Valid (g : Graph) : Option Int := if wfGraph g then some (gvalidF g : Int) else none
theorem w_graph_Valid (g : Graph) (r : Int) (h : s_graph_Valid g = some r) : PureA Tryz.prog 50 [graphA g] (.int r) := by
  obtain ⟨h1, rfl⟩ := some_of_if h
  exact gvalid_ev g h1
end Go.Proofs.YtippinddoldhkaaGreat
namespace Go.Proofs.YtippinddoldhkaaGreat
open Go Go.Ew Go.Proofs Go.RowKit
set_option maxRecDepth 10000
theorem wide_calls (a b : Int) (ha1 : -9223372036854775808 ≤ a) (ha2 : a ≤ 9223372036854775807) (hb1 : -9223372036854775808 ≤ b) (hb2 : b ≤ 9223372036854775807) (w : World) :
    Calls Tryz.prog 164 #[.int .i64 a, .int .i64 b] w fun e w' => e = .returned (.tuple #[.int .i64 ((a + b) / 18446744073709551616), .int .u64 ((a + b) % 18446744073709551616)]) ∧ w' = w := by
  go_enter Tryz.func164, Tryz.ntmps164
  go_wp2
  rw [run_callFunc_extern (show Tryz.prog.funcs[188]? = some Tryz.f188 by kernel_rfl) (by kernel_rfl) (by kernel_rfl) (by kernel_rfl) (e := add64Entry) (by kernel_rfl)]
  rw [run_add64 _ _ _ (by rw [IntKind.wrap_u64]; omega) (by rw [IntKind.wrap_u64]; omega) (by decide) (by decide)]
  simp only [Result.andThen]
  rw [Oper.upon_value]
  go_wp2
  go_ret2
  refine ⟨?_, rfl⟩
  have h1 : wrap64 (a / 9223372036854775808 + b / 9223372036854775808 + wrap64 ((IntKind.u64.wrap a + IntKind.u64.wrap b) / 18446744073709551616)) = (a + b) / 18446744073709551616 := by
    have h3 : wrap64 ((IntKind.u64.wrap a + IntKind.u64.wrap b) / 18446744073709551616) = (IntKind.u64.wrap a + IntKind.u64.wrap b) / 18446744073709551616 := by
      unfold wrap64; rw [IntKind.wrap_u64, IntKind.wrap_u64]; omega
    rw [h3, IntKind.wrap_u64, IntKind.wrap_u64]
    have ga : a / 9223372036854775808 = (if a < 0 then -1 else 0) ∧ a % 18446744073709551616 = (if a < 0 then a + 18446744073709551616 else a) := by split <;> omega
    have gb : b / 9223372036854775808 = (if b < 0 then -1 else 0) ∧ b % 18446744073709551616 = (if b < 0 then b + 18446744073709551616 else b) := by split <;> omega
    rw [ga.1, ga.2, gb.1, gb.2]
    have h4 : ∀ n : Int, -10 ≤ n → n ≤ 10 → wrap64 n = n := fun n h1 h2 => by unfold wrap64; omega
    by_cases ha : a < 0 <;> by_cases hb : b < 0 <;> simp only [ha, hb, if_true, if_false] <;> rw [h4 _ (by omega) (by omega)] <;> omega
  have h2 : (IntKind.u64.wrap a + IntKind.u64.wrap b) % 18446744073709551616 = (a + b) % 18446744073709551616 := by rw [IntKind.wrap_u64, IntKind.wrap_u64]; omega
  rw [← h1, ← h2]
  rfl
def s_difference_wide (a b : Int) : Option (Int × Int) := if -9223372036854775808 ≤ a ∧ a ≤ 9223372036854775807 ∧ -9223372036854775808 ≤ b ∧ b ≤ 9223372036854775807 then some ((a + b) / 18446744073709551616, (a + b) % 18446744073709551616) else none
theorem w_difference_wide (a b : Int) (r : Int × Int) (h : s_difference_wide a b = some r) : PureA Tryz.prog 164 [.int a, .int b] (.tup [.int r.1, .lit (.int .u64 r.2)]) := by
  obtain ⟨⟨h1, h2, h3, h4⟩, rfl⟩ := some_of_if h
  refine pureA_of_calls ⟨Tryz.f164, Tryz.func164, by kernel_rfl, by kernel_rfl⟩ rfl (by simp [conc, conc1]) (fun φ σ w vs hr hv => ?_)
  obtain ⟨hl, hv⟩ := hv
  match vs, hl, hv with
  | [v1, v2], _, hv =>
    have g1 := hv 0 _ _ rfl rfl
    have g2 := hv 1 _ _ rfl rfl
    cases g1; cases g2
    refine (wide_calls a b h1 h2 h3 h4 w).mono ?_
    rintro e w' ⟨rfl, rfl⟩
    exact ⟨by simp [conc, conc1], Below.refl _ _⟩
end Go.Proofs.YtippinddoldhkaaGreat
namespace Go.Proofs.YtippinddoldhkaaGreat
open Go Go.Ew Go.Proofs Go.RowKit
set_option maxRecDepth 10000
theorem and32 (c : Nat) (hc : c < 4294967296) : bitI .and .u64 (c : Int) 4294967295 = c := by
  have h : (BitVec.ofInt 64 (c : Int) &&& BitVec.ofInt 64 4294967295).toNat = c := by
    have e1 : BitVec.ofInt 64 (c : Int) = BitVec.ofNat 64 c := by simp
    have e2 : BitVec.ofInt 64 4294967295 = BitVec.ofNat 64 4294967295 := rfl
    rw [e1, e2, BitVec.toNat_and, BitVec.toNat_ofNat, BitVec.toNat_ofNat, Nat.mod_eq_of_lt (by omega), Nat.mod_eq_of_lt (by decide)]
    have := Nat.and_two_pow_sub_one_eq_mod c 32
    rw [show 2 ^ 32 - 1 = 4294967295 by decide] at this
    rw [this, Nat.mod_eq_of_lt (by omega)]
  show IntKind.u64.wrap ((BitVec.ofInt 64 (c : Int) &&& BitVec.ofInt 64 4294967295).toNat : Int) = c
  rw [h, IntKind.wrap_u64]
  omega
theorem shr32 (c : Nat) (hc : c < 4294967296) : shrI .u64 (c : Int) 32 = 0 := by
  show (c : Int).fdiv (2 ^ 32) = 0
  rw [Int.fdiv_eq_ediv_of_nonneg _ (by decide), show (2 : Int) ^ 32 = 4294967296 by decide]
  omega
theorem mul64_ev (c : Nat) (hc : c < 4294967296) : PureA Tryz.prog 198 [.lit (.int .u64 1), .lit (.int .u64 c)] (.tup [.lit (.int .u64 0), .lit (.int .u64 c)]) := by
  refine pureA_of Tryz.func198 rfl (by kernel_rfl) (fun σ => ?_)
  have h1 : bitI .and .u64 1 4294967295 = 1 := rfl
  have h2 : shrI .u64 1 32 = 0 := rfl
  have h3 := and32 c hc
  have h4 := shr32 c hc
  have h5 : IntKind.u64.wrap (c : Int) = c := by rw [IntKind.wrap_u64]; omega
  have h6 : bitI .and .u64 0 4294967295 = 0 := rfl
  have h7 : shrI .u64 0 32 = 0 := rfl
  have h8 : IntKind.u64.wrap 0 = 0 := rfl
  simp [go_sem, Tryz.results198, Tryz.ntmps198, h1, h2, h3, h4, h5, h6, h7, h8]
theorem mul_ev (c : Nat) (hc : c < 4294967296) : PureA Tryz.prog 174 [.lit (.int .u64 1), .lit (.int .u64 c)] (.tup [.lit (.int .u64 0), .lit (.int .u64 c)]) := by
  refine pureA_of Tryz.func174 rfl (by kernel_rfl) (fun σ => ?_)
  simp [go_sem, Tryz.results174, Tryz.ntmps174]
  refine EWcall_pure (mul64_ev c hc) ?_
  simp [go_sem]
def RpInv (v : Int) (c : Nat) (σ : Mem) (n : Nat) (fr : Fr) (τ : Mem) : Prop :=
  ∃ (k : Nat) (cells : List AV), 1 ≤ k ∧ k ≤ c ∧ n = c - k ∧ fr 8 = .int k ∧ fr 7 = .arr σ.next 0 c 1 ∧ τ.get σ.next = some cells ∧ cells.length = c ∧ (∀ j, j < k → cells[j]? = some (AV.int v)) ∧ τ.ty σ.next = 3 ∧ (∀ i, i < σ.next → τ.get i = σ.get i ∧ τ.ty i = σ.ty i) ∧ σ.next < τ.next
theorem cells_rep {v : Int} {c : Nat} {cells : List AV} (h1 : cells.length = c) (h2 : ∀ j, j < c → cells[j]? = some (AV.int v)) : cells = (List.replicate c v).map AV.int := by
  apply List.ext_getElem?
  intro j
  by_cases hj : j < c
  · rw [h2 j hj, List.getElem?_map, List.getElem?_replicate, if_pos hj]; rfl
  · rw [List.getElem?_eq_none (by omega), List.getElem?_eq_none (by simp; omega)]
theorem repeat_ev (v : Int) (c : Nat) (hc1 : 1 ≤ c) (hc2 : c ≤ 100000) (σ : Mem) : CallA Tryz.prog 142 [.imm 1 [.int v], .int c] σ fun x τ =>
    ArrAt σ.next τ x 3 ((List.replicate c v).map AV.int) c 1 ∧ Kept σ τ ∧ σ.next ≤ τ.next := by
  refine callA_of Tryz.func142 rfl (by kernel_rfl) ?_
  have h1 : IntKind.u64.wrap 1 = 1 := rfl
  have h2 : IntKind.u64.wrap (c : Int) = c := by rw [IntKind.wrap_u64]; omega
  have h3 : IntKind.i64.wrap (c : Int) = c := wrap64_of _ (by omega) (by omega)
  simp [go_sem, Tryz.results142, Tryz.ntmps142, h1, h2, show ¬ (c : Int) < 0 by omega]
  refine EWcall_pure (mul_ev c (by omega)) ?_
  simp [go_sem, h3, show ¬ (9223372036854775807 : Int) < c by omega, show (c : Int) ≤ 9223372036854775807 by omega, show 8 * (c : Int) ≤ 281474976710656 by omega, get_alloc]
  have hz : (zerosA [AV.lit (Value.int IntKind.i64 0)] c).length = c := by rw [length_zerosA]; simp
  have hm : min 1 c = 1 := by omega
  simp [go_sem, hz, get_alloc, hm, show 0 < c by omega, show c ≤ (zerosA [AV.lit (Value.int IntKind.i64 0)] c).length by omega]
  refine EW_loop (RpInv v c σ) (c - 1) ⟨1, AV.int v :: (zerosA [AV.lit (Value.int IntKind.i64 0)] c).drop 1, by omega, by omega, rfl, by simp [go_sem], by simp [go_sem], by simp [get_set], by simp [hz]; omega, fun j hj => ?_, by simp [ty_set, ty_alloc], fun i hi => by simp [get_set, ty_set, get_alloc, ty_alloc, show ¬ i = σ.next by omega], by simp [next_set, next_alloc]⟩ ?_
  · have : j = 0 := by omega
    subst this; rfl
  rintro n fr τ ⟨k, cells, k1, k2, rfl, k3, k4, k5, k6, k7, k8, k9, k10⟩
  simp [go_sem, k3, k4, k5]
  by_cases hk : k < c
  · simp [go_sem, hk]
    refine EW_regionI Mem.empty (by kernel_rfl) (by kernel_rfl) (by simp [go_sem]) (fun _ => ?_)
    have hw : IntKind.i64.wrap ((k : Int) + (min k (c - k) : Nat)) = ((k + min k (c - k) : Nat) : Int) := by rw [wrap64_of _ (by omega) (by omega)]; omega
    simp [go_sem, k3, k4, k5, hk, k6, show k ≤ cells.length by omega, show 0 < k by omega, show 0 < c - k by omega, show k ≤ c by omega, show k + (c - k) ≤ c by omega, show k + (c - k) ≤ cells.length by omega, show ¬ k = 0 by omega, hw]
    refine ⟨c - (k + min k (c - k)), by omega, k + min k (c - k), _, by omega, by omega, rfl, by simp [go_sem], by simp [go_sem, k4], by simp [get_set]; rfl, by simp; omega, fun j hj => ?_, by simp [ty_set, k8], fun i hi => by simp [get_set, ty_set, show ¬ i = σ.next by omega]; exact k9 i hi, by simp [next_set]; exact k10⟩
    by_cases hjk : j < k
    · rw [List.getElem?_append_left (by simp; omega), List.getElem?_take_of_lt hjk]; exact k7 j hjk
    · rw [List.getElem?_append_right (by simp; omega), List.getElem?_append_left (by simp; omega)]
      have e : j - (cells.take k).length = j - k := by simp; omega
      rw [e, List.getElem?_take_of_lt (by omega), List.getElem?_take_of_lt (by omega)]
      exact k7 _ (by omega)
  · have hkc : k = c := by omega
    subst hkc
    simp [go_sem, k3, k4]
    exact ⟨.inr ⟨σ.next, rfl, by rw [k5, cells_rep k6 k7]; simp, k8, Nat.le_refl _, k10⟩, k9, by omega⟩
def s_slices_Repeat_int (x : List Int) (c : Int) : Option (List Int) := if x.length = 1 ∧ 1 ≤ c ∧ c ≤ 100000 then some (List.replicate c.toNat (x.headD 0)) else none
def O_slices_Repeat_int (r : List Int) (n : Nat) (x : AV) (τ : Mem) : Prop := ∃ v : AV, x = v ∧ ArrAt n τ v 3 (r.map AV.int) r.length 1
theorem o_slices_Repeat_int (x : List Int) (c : Int) (r : List Int) (h : s_slices_Repeat_int x c = some r) (σ0 : Mem) : CallA Tryz.prog 142 [intsA x, .int c] σ0 (fun x τ => O_slices_Repeat_int r σ0.next x τ ∧ Kept σ0 τ ∧ σ0.next ≤ τ.next) := by
  obtain ⟨⟨h1, h2, h3⟩, rfl⟩ := some_of_if h
  match x, h1 with
  | [v], _ =>
    have := repeat_ev v c.toNat (by omega) (by omega) σ0
    rw [Int.toNat_of_nonneg (by omega)] at this
    refine this.mono ?_
    rintro y τ ⟨g1, g2, g3⟩
    exact ⟨⟨y, rfl, by simpa using g1⟩, g2, g3⟩
theorem os_slices_Repeat_int (r : List Int) : ∀ n x τ, O_slices_Repeat_int r n x τ → Solid x ∧ ∀ τ', (∀ i cs, n ≤ i → τ.get i = some cs → cs.all flatA = true → τ'.get i = some cs ∧ τ'.ty i = τ.ty i) → τ'.next = τ.next → O_slices_Repeat_int r n x τ' := by
  rintro n x τ ⟨v, hx, av⟩
  exact ⟨by rw [hx]; exact arrAt_solid av, fun τ' hg hn => ⟨v, hx, av.re (flat_map (fun _ => rfl) _) hg hn⟩⟩
end Go.Proofs.YtippinddoldhkaaGreat
namespace Go.Proofs.YtippinddoldhkaaGreat
open Go Go.Ew Go.Proofs Go.RowKit
set_option maxRecDepth 10000
theorem valid_nodeF {t : Types} (h : (validF t).2 = 0) (j : Nat) (hj : j < t.nodes.length) : nodeF t.nodes j = 0 := by
  unfold validF at h
  split at h
  · cases h
  split at h
  · cases h
  by_cases hz : ∃ i, i < t.nodes.length ∧ nodeF t.nodes i ≠ 0
  · exfalso
    obtain ⟨i, hi, hne⟩ := hz
    induction i using Nat.strongRecOn with
    | _ i ih =>
      by_cases hall : ∀ k, k < i → nodeF t.nodes k = 0
      · have hs := firstErr_some (nodeF t.nodes) i t.nodes.length 0 hi (fun k _ hk => hall k (by omega)) (by rw [Nat.zero_add]; exact hne)
        rw [hs, Nat.zero_add] at h
        exact hne h
      · have hex : ∃ k, k < i ∧ nodeF t.nodes k ≠ 0 := by
          by_cases e : ∃ k, k < i ∧ nodeF t.nodes k ≠ 0
          · exact e
          · exact absurd (fun k hk => by
              by_cases z : nodeF t.nodes k = 0
              · exact z
              · exact absurd ⟨k, hk, z⟩ e) hall
        obtain ⟨k, hk, hk2⟩ := hex
        exact ih k hk (by omega) hk2
  · by_cases e : nodeF t.nodes j = 0
    · exact e
    · exact absurd ⟨j, hj, e⟩ hz
theorem valid_okUpto {t : Types} (h : (validF t).2 = 0) (a : Nat) (ha : a < t.nodes.length) : okUpto t.nodes a := fun j hj => by
  obtain ⟨h1, h2, h3⟩ := nodeF_ok (valid_nodeF h j (by omega))
  exact ⟨h1, h2, h3⟩
theorem given_zero {t : Types} {a : Int} (h : givenF t [a] = 0) : (validF t).2 = 0 ∧ 0 ≤ a ∧ a < t.nodes.length := by
  unfold givenF at h
  split at h
  · rename_i h0; exact absurd h h0
  · rename_i h0
    simp at h
    exact ⟨by simpa using h0, by omega, by omega⟩
theorem cloneStr_ev (l : List (List UInt8)) (hl : l.length ≤ 1000000000) : PureA Tryz.prog 135 [strsA l] (strsA l) := by
  intro σ
  refine callA_frz ?_
  by_cases h0 : l.length = 0
  · have : l = [] := List.eq_nil_of_length_eq_zero h0
    subst this
    refine callA_slice0 fun A c _ => ?_
    refine callA_of Tryz.func135 rfl (by kernel_rfl) ?_
    cases A with
    | none => simp [go_sem, Tryz.results135, Tryz.ntmps135, strsA]
    | some a =>
      simp [go_sem, Tryz.results135, Tryz.ntmps135, get_alloc, ty_alloc, strsA]
      exact ⟨frz_arr (by simp) (by simp [get_alloc, next_alloc, next_kill]) (strs_data []), fun i hi => by simp [get_alloc, get_kill, show i ≠ σ.next by omega, show i ≠ σ.next + 1 by omega]⟩
  · have hp : 0 < l.length := by omega
    refine callA_of Tryz.func135 rfl (by kernel_rfl) ?_
    simp [go_sem, Tryz.results135, Tryz.ntmps135, hp, get_alloc, ty_alloc, strsA, show l.length ≤ 9223372036854775807 by omega, show l.length * 16 ≤ 140737488355328 by omega]
    exact ⟨frz_arr (by simp) (by simp [get_alloc, next_alloc, next_kill]) (strs_data l), fun i hi => by simp [get_alloc, get_kill, show i ≠ σ.next by omega, show i ≠ σ.next + 1 by omega]⟩
theorem splice_same {cs : List AV} {off : Nat} {x : AV} (h : cs[off]? = some x) : cs.take off ++ x :: cs.drop (off + 1) = cs := by
  obtain ⟨h1, h2⟩ := List.getElem?_eq_some_iff.1 h
  conv => rhs; rw [← List.take_append_drop off cs, List.drop_eq_getElem_cons h1, h2]
theorem attr_cell (l : List Attr) (i : Nat) (h : i < l.length) : (l.flatMap attrC)[i * 4 + 3]? = some (strsA (nth l i).names) := by
  have d := drop_attr l i h
  have e : (l.flatMap attrC)[i * 4 + 3]? = ((l.flatMap attrC).drop (i * 4))[3]? := by rw [List.getElem?_drop]
  rw [e, d]
  rfl
def TaInv (l : List Attr) (id : Nat) (σ : Mem) (n : Nat) (fr : Fr) (τ : Mem) : Prop :=
  ∃ i : Nat, i ≤ l.length ∧ n = l.length - i ∧ fr 7 = .arr id 0 l.length 4 ∧ fr 20 = .int l.length ∧ fr 21 = .int i ∧ τ.get id = some (l.flatMap attrC) ∧ σ.next ≤ id ∧ id < τ.next ∧ Keeps σ τ
theorem tattrs_ev (t : Types) (ht : wfTypes t) (a : Int) (hg0 : givenF t [a] = 0) (hn : ∀ x ∈ attrsF t.nodes a.toNat, x.names.length ≤ 1000000) : PureA Tryz.prog 82 [typesA t, .int a] (.tup [attrsA (attrsF t.nodes a.toNat), .int 0]) := by
  obtain ⟨hv, ha0, hal⟩ := given_zero hg0
  obtain ⟨hok, h12, _, _⟩ := valid_okAll hv
  have hup := valid_okUpto hv a.toNat (by omega)
  have hlen := attrsF_len t.nodes a.toNat hup
  refine pureA_of Tryz.func82 rfl (by kernel_rfl) (fun σ => ?_)
  have hK : Keeps σ (σ.alloc 35 (typesC t)) := by rw [keeps_alloc _ _ (Nat.le_refl _)]; exact Keeps.refl _
  have hg : (σ.alloc 35 (typesC t)).get σ.next = some (typesC t) := by simp [get_alloc]
  have hN : (σ.alloc 35 (typesC t)).next = σ.next + 1 := rfl
  simp [go_sem, Tryz.results82, Tryz.ntmps82, typesA]
  generalize σ.alloc 35 (typesC t) = τ at hK hg hN ⊢
  simp [go_sem, hg, typesC]
  obtain ⟨τ1, hτ1⟩ : ∃ τ1, τ1 = τ.alloc 3 [AV.int a] := ⟨_, rfl⟩
  have hK1 : Keeps σ τ1 := by rw [hτ1, keeps_alloc _ _ (by omega)]; exact hK
  have hg1 : τ1.get σ.next = some (typesC t) := by rw [hτ1]; simp [get_alloc, show ¬ σ.next = τ.next by omega]; exact hg
  have hN1 : σ.next < τ1.next := by rw [hτ1]; simp [next_alloc]; omega
  refine EWcall_frz (given_ev t ht [a] (by simp)) rfl ?_ ?_
  · simp [go_sem]
    exact ⟨(DataA.agg (typesC_data t)) _ _, frz_arr (Nat.zero_le _) (by simp [get_alloc]) (ints_data _)⟩
  rw [hg0, ← hτ1]
  simp [go_sem, hg1, typesC, nodesA]
  have hcall := attrs_ev t h12 a.toNat (by omega) hup τ1
  rw [Int.toNat_of_nonneg ha0] at hcall
  refine EWcall_of hcall ?_
  rintro x τ2 ⟨hx, hK2, hN2⟩
  generalize attrsF t.nodes a.toNat = l at hn hlen hx ⊢
  have hK3 : Keeps σ τ2 := hK1.trans hK2 (by omega)
  rcases hx with ⟨rfl, e1, e2⟩ | ⟨id, rfl, hgi, hti, hid, hidl⟩
  · have : l = [] := List.eq_nil_of_length_eq_zero e1
    subst this
    simp [go_sem]
    refine EW_loop (fun n fr τ => fr 7 = .nils ∧ fr 20 = .int 0 ∧ fr 21 = .int 0 ∧ Keeps σ τ) 0 ⟨by simp [go_sem], by simp [go_sem], by simp [go_sem], hK3⟩ ?_
    rintro n fr τ3 ⟨f7, f20, f21, hK4⟩
    simp [go_sem, f7, f20, f21]
    exact ⟨by simp [attrsA, frz_nils], hK4⟩
  · simp [go_sem]
    refine EW_loop (TaInv l id σ) l.length ⟨0, by omega, by omega, by simp [go_sem], by simp [go_sem], by simp [go_sem], hgi, by omega, hidl, hK3⟩ ?_
    rintro n fr τ3 ⟨i, hi, rfl, f7, f20, f21, g1, g2, g3, hK4⟩
    simp [go_sem, f7, f20, f21]
    by_cases hlt : i < l.length
    · have d := drop_attr l i hlt
      have hs := splice_same (attr_cell l i hlt)
      have hwi : IntKind.i64.wrap ((i : Int) + 1) = ((i + 1 : Nat) : Int) := by rw [wrap64_of _ (by omega) (by omega)]; rfl
      have hfl : (l.flatMap attrC).length = l.length * 4 := length_flatMap (f := attrC) (sz := 4) (fun _ => rfl) l
      have d3 : (l.flatMap attrC).drop (i * 4 + 3) = strsA (nth l i).names :: (l.drop (i + 1)).flatMap attrC := by rw [← List.drop_drop, d]; rfl
      simp [go_sem, hlt, f7, f20, f21, g1, d3, hfl, show i * 4 + 3 < l.length * 4 by omega]
      refine EWcall_pure (cloneStr_ev _ (by have := hn _ (nth_mem l i hlt); omega)) ?_
      simp [go_sem, hlt, f7, f20, f21, g1, d3, hfl, show i * 4 + 3 < l.length * 4 by omega, show i * 4 + 3 + 1 ≤ l.length * 4 by omega, hs, show cellsA (strsA (nth l i).names) = some [strsA (nth l i).names] from rfl]
      refine ⟨l.length - (i + 1), by omega, i + 1, by omega, rfl, by simp [go_sem, f7], by simp [go_sem, f20], by simp [go_sem]; exact hwi, by simp [get_set], g2, by simpa [next_set] using g3, fun j hj => ?_⟩
      simp [get_set, show ¬ j = id by omega]
      exact hK4 j hj
    · have : i = l.length := by omega
      subst this
      simp [go_sem, f7]
      exact ⟨frz_arr g2 g1 (attrs_data l), hK4⟩
theorem tattrs_err (t : Types) (ht : wfTypes t) (a : Int) (hg0 : givenF t [a] ≠ 0) : PureA Tryz.prog 82 [typesA t, .int a] (.tup [attrsA [], .int (givenF t [a])]) := by
  refine pureA_of Tryz.func82 rfl (by kernel_rfl) (fun σ => ?_)
  have hK : Keeps σ (σ.alloc 35 (typesC t)) := by rw [keeps_alloc _ _ (Nat.le_refl _)]; exact Keeps.refl _
  have hg : (σ.alloc 35 (typesC t)).get σ.next = some (typesC t) := by simp [get_alloc]
  have hN : (σ.alloc 35 (typesC t)).next = σ.next + 1 := rfl
  simp [go_sem, Tryz.results82, Tryz.ntmps82, typesA]
  generalize σ.alloc 35 (typesC t) = τ at hK hg hN ⊢
  simp [go_sem, hg, typesC]
  obtain ⟨τ1, hτ1⟩ : ∃ τ1, τ1 = τ.alloc 3 [AV.int a] := ⟨_, rfl⟩
  have hK1 : Keeps σ τ1 := by rw [hτ1, keeps_alloc _ _ (by omega)]; exact hK
  refine EWcall_frz (given_ev t ht [a] (by simp)) rfl ?_ ?_
  · simp [go_sem]
    exact ⟨(DataA.agg (typesC_data t)) _ _, frz_arr (Nat.zero_le _) (by simp [get_alloc]) (ints_data _)⟩
  rw [← hτ1]
  generalize givenF t [a] = e at hg0 ⊢
  simp [go_sem, show ¬ e = 0 from hg0]
  exact ⟨by simp [attrsA, frz_nils], hK1⟩
noncomputable def s_types_Attrs (t : Types) (a : Int) : Option (List Attr × Int) := if wfTypes t then (if givenF t [a] ≠ 0 then some ([], (givenF t [a] : Int)) else if ∀ x ∈ attrsF t.nodes a.toNat, x.names.length ≤ 1000000 then some (attrsF t.nodes a.toNat, 0) else none) else none
theorem w_types_Attrs (t : Types) (a : Int) (r : List Attr × Int) (h : s_types_Attrs t a = some r) : PureA Tryz.prog 82 [typesA t, .int a] (.tup [attrsA r.1, .int r.2]) := by
  unfold s_types_Attrs at h
  split at h
  · rename_i ht
    split at h
    · rename_i hg; cases h; exact tattrs_err t ht a hg
    · rename_i hg
      obtain ⟨hn, rfl⟩ := some_of_if h
      exact tattrs_ev t ht a (by simpa using hg) hn
  · cases h
end Go.Proofs.YtippinddoldhkaaGreat
