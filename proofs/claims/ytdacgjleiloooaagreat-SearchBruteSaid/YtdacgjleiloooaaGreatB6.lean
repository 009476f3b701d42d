/-
  slices.Values, slices.AppendSeq and slices.Collect at []int: what the iterator over a slice gives is collected again. (The lines are turned from the kit's worked iterators over a slice.)
-/
import Derived.RangeFuncBox
import Derived.RangeFuncLeaves
import Derived.RangeFuncWrites
import Derived.RangeFuncFrom
import Derived.Shelf.Abstract
import Derived.WalkKit
import Derived.OwnWalkIn
import Derived.TacticsInMore
import Derived.LoopNIn
import Derived.LoopIn
import Derived.Maps.AppendAt
import Derived.Test.YtdacgjleiloooaaGreatProg
import Derived.Sort.OwnSortedInts
import Derived.Lib.SlicesCompact
import Derived.Test.YtdacgjleiloooaaGreatB3
import Derived.Shelf.SlLaysM
import Derived.Shelf.Lays2
set_option linter.unusedSimpArgs false
set_option linter.unusedVariables false
namespace Go.Proofs.YtdacgjleiloooaaGreat
open Go Go.Proofs Go.RowKit Go.Shelf
attribute [local go_sem] Oper.semAt_some
theorem take_get (zs : List Int) {k : Nat} (h : k < zs.length) : zs.take (k + 1) = zs.take k ++ [zs[k]?.getD 0] := by
  rw [List.take_add_one]; simp [h]
set_option maxRecDepth 100000 in
set_option maxHeartbeats 2000000 in
theorem values1_in (n : Nat) (hn : 1 ≤ n) (l Bs n₀ b off cap : Nat) (zs : List Int) (hreach : zs.length * 8 ≤ 140737488351232) (hb : b < n₀) (J Jx : List Int → World → Prop)
    (hY : ∀ pre x W, J pre W → pre.length < zs.length → YieldAt Fence.wide (n - 1) Tryz.prog l #[.int .i64 x] W fun e W' =>
      (e = .returned (.bool true) ∧ J (pre ++ [x]) W' ∧ Below n₀ W W') ∨ (e = .returned (.bool false) ∧ Jx (pre ++ [x]) W'))
    (W : World) (hBs : W.cell? ⟨Bs, 0, none⟩ = some (.slice (some ⟨b, off, none⟩) zs.length cap)) (hc : ∀ j, j < zs.length → W.cell? ⟨b, off + j, none⟩ = some (.int .i64 (zs[j]?.getD 0))) (h0 : J [] W) :
    CallsIn Fence.wide n Tryz.prog 97 #[.func (.yield l) #[] #[], .pointer (some ⟨Bs, 0, none⟩)] W fun e W' => (∃ v, e = .returned v) ∧
      ((∃ ys, ys = zs ∧ J ys W') ∨ (∃ pre, pre <+: zs ∧ Jx pre W')) := by
  refine callsIn_of_wp Tryz.func97 rfl trivial ?_ rfl
  simp only [Tryz.ntmps97, List.size_toArray, List.length_cons, List.length_nil, Nat.reduceAdd, Nat.reduceSub, Array.replicate_succ, Array.replicate_zero, List.push_toArray, List.append_toArray, List.nil_append, List.cons_append]
  gi_wp2
  gi_loopw [7] (fun i wr => ∃ k : Nat, k ≤ zs.length ∧ i = .int .i64 k ∧ J (zs.take k) wr ∧ Below n₀ W wr)
    (fun i _ => zs.length - (intOf i).toNat)
  case atStart => exact ⟨0, Nat.zero_le _, rfl, h0, Below.refl _ _⟩
  case round =>
    obtain ⟨k, hk, rfl, hJs, hnx⟩ := hrel
    have hcx : k < zs.length → wr.cell? ⟨b, off + k, none⟩ = some (.int .i64 (zs[k]?.getD 0)) := fun h => (hnx.cell (p := ⟨b, off + k, none⟩) hb).trans (hc k h)
    by_cases hlt : k < zs.length
    · have hcx' := hcx hlt
      have T := take_get zs hlt
      clear hcx
      generalize zs[k]?.getD 0 = x at hcx' T
      obtain ⟨fn, tmps, assign, body, hy, hR⟩ := hY _ x wr hJs (by rw [List.length_take]; omega)
      gi_wp2
      refine hR.mono ?_
      rintro e W3 (⟨rfl, hJ3, hk3⟩ | ⟨rfl, hJx3⟩)
      · gi_wp2
        go_roundw
        case rel => exact ⟨k + 1, by omega, by simp, by rw [T]; exact hJ3, hnx.trans hk3⟩
        case measure => simp [intOf]; omega
      · gi_wp2
        refine bodyPost_ret (results_none rfl _ _ _) rfl ?_
        exact ⟨⟨_, rfl⟩, .inr ⟨_, List.take_prefix (k + 1) zs, by rw [T]; exact hJx3⟩⟩
    · obtain rfl : k = zs.length := by omega
      gi_wp2
      go_end0
      rw [List.take_length] at hJs
      exact ⟨⟨_, rfl⟩, .inl ⟨_, rfl, hJs⟩⟩
/-- The slice value holds these numbers, in a block below n₀; or it has none. -/
def IntsAt (n₀ : Nat) (W : World) (sv : Value) (zs : List Int) : Prop :=
  (∃ a cap, sv = .slice a 0 cap ∧ zs = []) ∨ ∃ b off cap, sv = .slice (some ⟨b, off, none⟩) zs.length cap ∧ b < n₀ ∧ ∀ j, j < zs.length → W.cell? ⟨b, off + j, none⟩ = some (.int .i64 (zs[j]?.getD 0))
theorem IntsAt.below {n₀ : Nat} {A B : World} (h : Below n₀ A B) {sv : Value} {zs : List Int} : IntsAt n₀ A sv zs → IntsAt n₀ B sv zs
  | .inl e => .inl e
  | .inr ⟨b, off, cap, e, hb, hc⟩ => .inr ⟨b, off, cap, e, hb, fun j hj => (h.cell (p := ⟨b, off + j, none⟩) hb).trans (hc j hj)⟩
theorem IntsAt.more {n₀ n₁ : Nat} {A : World} (h : n₀ ≤ n₁) {sv : Value} {zs : List Int} : IntsAt n₀ A sv zs → IntsAt n₁ A sv zs
  | .inl e => .inl e
  | .inr ⟨b, off, cap, e, hb, hc⟩ => .inr ⟨b, off, cap, e, by omega, hc⟩
set_option maxRecDepth 100000 in
set_option maxHeartbeats 1000000 in
theorem values1_nil_in (n l Bs : Nat) (a : Option Addr) (cap : Nat) (J : List Int → World → Prop) (W : World) (hBs : W.cell? ⟨Bs, 0, none⟩ = some (.slice a 0 cap)) (h0 : J [] W) :
    CallsIn Fence.wide n Tryz.prog 97 #[.func (.yield l) #[] #[], .pointer (some ⟨Bs, 0, none⟩)] W fun e W' => (∃ v, e = .returned v) ∧ J [] W' := by
  refine callsIn_of_wp Tryz.func97 rfl trivial ?_ rfl
  simp only [Tryz.ntmps97, List.size_toArray, List.length_cons, List.length_nil, Nat.reduceAdd, Nat.reduceSub, Array.replicate_succ, Array.replicate_zero, List.push_toArray, List.append_toArray, List.nil_append, List.cons_append]
  gi_wp2
  gi_loopw [7] (fun i wr => i = .int .i64 0 ∧ J [] wr) (fun _ _ => 0)
  case atStart => exact ⟨rfl, h0⟩
  case round =>
    obtain ⟨rfl, hJs⟩ := hrel
    gi_wp2
    go_end0
    exact ⟨⟨_, rfl⟩, hJs⟩
set_option maxHeartbeats 1000000 in
theorem values_in (n : Nat) (a : Option Addr) (len cap : Nat) (w : World) :
    CallsIn Fence.wide n Tryz.prog 69 #[.slice a len cap] w fun e w' => e = .returned (.func (.func 97) #[] #[.pointer (some ⟨w.heap.size, 0, none⟩)]) ∧ w' = w.alloc (.cells #[.slice a len cap] 26) := by
  refine callsIn_of_wp Tryz.func69 rfl trivial ?_ rfl
  simp only [Tryz.ntmps69, List.size_toArray, List.length_cons, List.length_nil, Nat.reduceAdd, Nat.reduceSub, Array.replicate_succ, Array.replicate_zero, List.push_toArray, List.append_toArray, List.nil_append, List.cons_append]
  gi_wp2
  go_ret
  exact ⟨rfl, rfl⟩
theorem values_stops (n : Nat) (hn : 1 ≤ n) (Bs n₀ : Nat) (sv : Value) (zs : List Int) (hreach : zs.length * 8 ≤ 140737488351232) (w : World) (hBs : Bs < w.heap.size) (hn₀ : n₀ ≤ w.heap.size)
    (hc : w.cell? ⟨Bs, 0, none⟩ = some sv) (hI : IntsAt n₀ w sv zs) :
    SeqStopsK Fence.wide n Tryz.prog 97 #[.pointer (some ⟨Bs, 0, none⟩)] (fun x : Int => #[Value.int .i64 x]) (Below n₀) (fun ys => ys = zs) (fun pre => pre <+: zs) zs.length w := fun l J Jx W hW _ _ hY h0 => by
  have hc' := (hW.cell (p := ⟨Bs, 0, none⟩) hBs).trans hc
  rcases hI.below (hW.mono hn₀) with ⟨a, cap, rfl, rfl⟩ | ⟨b, off, cap, rfl, hb, hcs⟩
  · exact (values1_nil_in n l Bs a cap J W hc' h0).mono fun e W' ⟨he, hj⟩ => ⟨he, .inl ⟨_, rfl, hj⟩⟩
  · exact values1_in n hn l Bs n₀ b off cap zs hreach hb J Jx hY W hc' hcs h0
theorem infoInt : (Tryz.prog.info? 3).map (fun i => (i.zero, i.size, i.bytes)) = some (some (.int .i64 0), 1, 8) := by kernel_rfl
set_option maxRecDepth 100000 in
set_option maxHeartbeats 2000000 in
theorem appendSeq_in (n : Nat) (hn : 3 ≤ n) (Bs : Nat) (sv : Value) (zs : List Int) (hreach : zs.length * 8 ≤ 140737488351232) (w : World) (hBs : Bs < w.heap.size) (hcB : w.cell? ⟨Bs, 0, none⟩ = some sv) (hI : IntsAt w.heap.size w sv zs) :
    CallsIn Fence.wide n Tryz.prog 116 #[.slice none 0 0, .func (.func 97) #[] #[.pointer (some ⟨Bs, 0, none⟩)]] w fun e W' => ∃ v, e = .returned v ∧ W'.ownsRow w.heap.size 3 1 v zs.length (zs.map (Value.int .i64)) ∧ (v = .slice none 0 0 ↔ zs = []) ∧ Below w.heap.size w W' := by
  have h1 : 1 ≤ n := by omega
  have hlen : zs.length ≤ maxLen := by have : maxLen = 9223372036854775807 := rfl; omega
  have hbytes : zs.length * 8 ≤ 140737488355328 := by omega
  obtain ⟨i0, hi, hz0, hz1, hz2⟩ := info_parts infoInt
  refine callsIn_of_wp_marks Tryz.func116 rfl trivial ?_ rfl
  simp only [Tryz.ntmps116, List.size_toArray, List.length_cons, List.length_nil, Nat.reduceAdd, Nat.reduceSub, Array.replicate_succ, Array.replicate_zero, List.push_toArray, List.append_toArray, List.nil_append, List.cons_append]
  gi_wp2
  have bO := Boxed.new w 26 (.slice none 0 0)
  have hB0 : Below w.heap.size w (w.alloc (.cells #[.slice none 0 0] 26)) := (Below.refl _ w).alloc (Nat.le_refl _) _
  refine wpIn_rangeFunc_ownG rfl h1 (gf := 97) (lb := #[.pointer (some ⟨Bs, 0, none⟩)]) rfl trivial (enters_of Tryz.func97 (by kernel_rfl) rfl)
    (values_stops (n - 1) (by omega) Bs w.heap.size sv zs hreach _ (by simp; omega) (by simp) ((hB0.cell (p := ⟨Bs, 0, none⟩) hBs).trans hcB) (hI.below hB0)) belowK_t (belowK_b (by simp)) (Below.refl _ _) (fun _ => rfl)
    (fun pre W => (∃ v, Boxed W w.heap.size 26 v ∧ W.ownsRow w.heap.size 3 1 v pre.length (pre.map (Value.int .i64)) ∧ (v = .slice none 0 0 ↔ pre = [])) ∧ Below w.heap.size w W)
    (fun _ _ _ => False)
    (OwnFrom.and (Own.from (holdsRow_own w.heap.size w.heap.size 26 3 1 (fun pre => pre.length) (fun pre => pre.map (Value.int .i64)) (fun pre v => v = .slice none 0 0 ↔ pre = [])) _) (ownFrom_below (Nat.le_refl _) (by simp)))
    (fun _ _ _ _ _ hs _ _ => hs)
    ⟨⟨_, bO, World.ownsRow_nil _ _ _ _, by simp⟩, hB0⟩
    (fun x => { tmps := #[.slice none 0 0, .func (.func 97) #[] #[.pointer (some ⟨Bs, 0, none⟩)], .pointer (some ⟨w.heap.size, 0, none⟩), undef, .slice none 0 0, .int .i64 x, .func (.func 97) #[] #[.pointer (some ⟨Bs, 0, none⟩)], .int .i64 x, undef, undef, undef, undef, undef], defers := [] }) ?assign ?body ?done ?stop
  case assign =>
    intro l x W K hK
    gi_wp2
    exact hK
  case body =>
    rintro l pre x W ⟨⟨v, hv, hrow, hnil⟩, hB⟩ hlt
    have hc := hv.cell
    gi_wp2_with (gi_at_builtin; refine wpListIn_append_own _ rfl _ _ 26 rfl w.heap.size 3 i0 (.int .i64 0) 1 8 Tryz.underlying26 hi hz0 hz1 hz2 rfl (by decide) _ _ _ rfl (hrow.alloc _) ⟨W.heap.size, 0, none⟩ 1 1 [.int .i64 x] rfl rfl (cell_one_new _ _ _) (by simp [Value.oneCell']) (by omega) (by omega) (by have := hB.size; simp; omega) ?_; intro v' w1 hown' hgrow _; obtain ⟨g', cap', rfl⟩ := ownsRow_succ hown'; obtain ⟨hv1, hv2, hr2, hk2, hb2⟩ := hv.appended (by decide) hrow hB.size (Nat.le_refl _) hown' hgrow; have hc1 := hv1.cell; have hf1 := hv1.frozen)
    exact ⟨hk2.from _, hb2, ⟨_, hv2, by simpa using hr2, by simp⟩, hB.trans hb2⟩
  case done =>
    rintro D ys W hD rfl ⟨⟨v, hv, hrow, hnil⟩, hB⟩ hK
    have hc := hv.cell
    gi_wp2
    refine ⟨by simp, .inl ⟨_, _, rfl, run_takeDeferred hK, ?_⟩⟩
    exact ⟨_, results_tmp rfl _ _ _, v, rfl, ownsRow_putObj hrow _ hK rfl, hnil, hB.trans (belowK_b (w := w) (Nat.le_refl _) W D _ _ (by simp at hD; omega) hK rfl rfl)⟩
  case stop =>
    rintro D c pre W _ _ h _
    exact h.elim
set_option maxHeartbeats 1000000 in
theorem collect_in (n : Nat) (hn : 4 ≤ n) (Bs : Nat) (sv : Value) (zs : List Int) (hreach : zs.length * 8 ≤ 140737488351232) (w : World) (hBs : Bs < w.heap.size) (hcB : w.cell? ⟨Bs, 0, none⟩ = some sv) (hI : IntsAt w.heap.size w sv zs) :
    CallsIn Fence.wide n Tryz.prog 95 #[.func (.func 97) #[] #[.pointer (some ⟨Bs, 0, none⟩)]] w fun e W' => ∃ v, e = .returned v ∧ W'.ownsRow w.heap.size 3 1 v zs.length (zs.map (Value.int .i64)) ∧ (v = .slice none 0 0 ↔ zs = []) ∧ Below w.heap.size w W' := by
  have h1 : 1 ≤ n := by omega
  have hf : Fence.wide.fn 116 := trivial
  refine callsIn_of_wp Tryz.func95 rfl trivial ?_ rfl
  simp only [Tryz.ntmps95, List.size_toArray, List.length_cons, List.length_nil, Nat.reduceAdd, Nat.reduceSub, Array.replicate_succ, Array.replicate_zero, List.push_toArray, List.append_toArray, List.nil_append, List.cons_append]
  gi_wp2_with (gi_at_call 116; refine (appendSeq_in (n - 1) (by omega) Bs sv zs hreach w hBs hcB hI).mono ?_; rintro e w' ⟨v, rfl, hrow, hnil, hb⟩)
  go_ret
  exact ⟨v, rfl, hrow, hnil, hb⟩
end Go.Proofs.YtdacgjleiloooaaGreat
namespace Go.Proofs.YtdacgjleiloooaaGreat
open Go Go.Proofs Go.RowKit Go.Shelf Go.Sort
attribute [local go_sem] Oper.semAt_some
def sorted (zs : List Int) : List Int := zs.mergeSort fun x y => decide (x ≤ y)
theorem sorted_len (zs : List Int) : (sorted zs).length = zs.length := by simp [sorted]
/-- What slices.Sort comes to at this seat. -/
structure SortOk : Prop where
  some : ∀ (blk off cap : Nat) (ss : List Int) (W : World), Holds (Value.int .i64) W blk off ss.toArray → blk < W.heap.size → ss.length < 4611686018427387904 →
    Calls Tryz.prog 96 #[.slice (Option.some ⟨blk, off, none⟩) ss.length cap] W fun e w' => e = .returned (.tuple #[]) ∧ ∃ k os, w' = grow (putRow (Value.int .i64) (Sort.ahead W k) blk off (sorted ss).toArray) os
  none : ∀ (p : Option Addr) (cap : Nat) (W : World), Calls Tryz.prog 96 #[.slice p 0 cap] W fun e w' => e = .returned (.tuple #[]) ∧ w' = W
set_option maxRecDepth 100000 in
set_option maxHeartbeats 2000000 in
theorem sorted_in (hsort : SortOk) (n : Nat) (hn : 5 ≤ n) (Bs : Nat) (sv : Value) (zs : List Int) (hreach : zs.length * 8 ≤ 140737488351232) (w : World) (hBs : Bs < w.heap.size) (hcB : w.cell? ⟨Bs, 0, none⟩ = some sv) (hI : IntsAt w.heap.size w sv zs) :
    CallsIn Fence.wide n Tryz.prog 68 #[.func (.func 97) #[] #[.pointer (some ⟨Bs, 0, none⟩)]] w fun e W' => ∃ v, e = .returned v ∧ W'.ownsRow w.heap.size 3 1 v zs.length ((sorted zs).map (Value.int .i64)) ∧ (v = .slice none 0 0 ↔ zs = []) ∧ Below w.heap.size w W' := by
  have h1 : 1 ≤ n := by omega
  have hf1 : Fence.wide.fn 95 := trivial
  have hf2 : Fence.wide.fn 96 := trivial
  refine callsIn_of_wp Tryz.func68 rfl trivial ?_ rfl
  simp only [Tryz.ntmps68, List.size_toArray, List.length_cons, List.length_nil, Nat.reduceAdd, Nat.reduceSub, Array.replicate_succ, Array.replicate_zero, List.push_toArray, List.append_toArray, List.nil_append, List.cons_append]
  gi_wp2_with (gi_at_call 95; refine (collect_in (n - 1) (by omega) Bs sv zs hreach w hBs hcB hI).mono ?_; rintro e W ⟨v, rfl, hrow, hnil, hb⟩)
  rcases hrow.2 with ⟨rfl, hz⟩ | ⟨gb, cap, cur, rfl, hbase, hgb, r1, r2, r3, r4⟩
  · have hss : zs = [] := List.eq_nil_of_length_eq_zero hz
    subst hss
    gi_wp2_with (gi_at_call 96; refine (callsIn_wide.2 (hsort.none none 0 W)).mono ?_; rintro e w' ⟨rfl, rfl⟩)
    go_ret
    exact ⟨.slice none 0 0, rfl, by simpa [sorted] using hrow, by simp, hb⟩
  · have hH : Holds (Value.int .i64) W gb 0 zs.toArray := holds_of_blockI hgb (by simpa using r4)
    have hgl : gb < W.heap.size := (Array.getElem?_eq_some_iff.1 hgb).1
    have hsz : zs.length < 4611686018427387904 := by omega
    have cS := (callsIn_wide (n := n - 1)).2 (hsort.some gb 0 cap zs W hH hgl hsz)
    gi_wp2_with (gi_at_call 96; refine cS.mono ?_; rintro e w' ⟨rfl, nn, os, rfl⟩)
    go_ret
    exact ⟨_, rfl, ownsRow_sortedI (sorted_len zs) hbase hgb r1 r2 r3, hnil, hb.grown (grownBy_sortedI _) hb.size (fun j hj => by cases hj; exact hbase)⟩
end Go.Proofs.YtdacgjleiloooaaGreat
namespace Go.Proofs.YtdacgjleiloooaaGreat
open Go Go.Proofs Go.RowKit Go.Shelf Go.Sort
attribute [local go_sem] Oper.semAt_some
/-- What slices.Compact comes to at this seat. -/
structure CompactOk : Prop where
  some : ∀ (blk off cap : Nat) (zs : List Int) (w : World), Holds (Value.int .i64) w blk off zs.toArray → zs.length ≤ 9223372036854775807 → zs.length ≤ cap →
    Calls Tryz.prog 67 #[.slice (Option.some ⟨blk, off, none⟩) zs.length cap] w fun e w' => e = .returned (.slice (Option.some ⟨blk, off, none⟩) (Lib.compact zs).length cap) ∧ ∃ q, w' = putRow (Value.int .i64) (Sort.ahead w q) blk off (Lib.compact zs ++ List.replicate (zs.length - (Lib.compact zs).length) 0).toArray
  none : ∀ (a : Option Addr) (cap : Nat) (w : World), Calls Tryz.prog 67 #[.slice a 0 cap] w fun e w' => e = .returned (.slice a 0 cap) ∧ w' = w
theorem compact_len (zs : List Int) : (Lib.compact zs).length = ((List.range zs.length).filter (Lib.keeps zs.toArray)).length := by simp [Lib.compact, Lib.compactUpTo]
theorem sorted_pw (zs : List Int) : (sorted zs).Pairwise (· ≤ ·) := by
  have := List.pairwise_mergeSort (le := fun (x y : Int) => decide (x ≤ y)) (fun a b c h1 h2 => by simp at *; omega) (fun a b => by simp; omega) zs
  exact this.imp fun h => by simpa using h
/-- A sorted list loses an element just where one occurs twice. -/
theorem compact_sorted (zs : List Int) : decide ((Lib.compact (sorted zs)).length < zs.length) = decide (¬ zs.Nodup) := by
  have hp : zs.Nodup ↔ (sorted zs).Nodup := (List.mergeSort_perm zs _).nodup_iff.symm
  rw [decide_eq_decide, hp, ← sorted_len zs]
  have hs := sorted_pw zs
  generalize sorted zs = l at hs
  have hle : (Lib.compact l).length ≤ l.length := by rw [compact_len]; exact Nat.le_trans (List.length_filter_le _ _) (by simp)
  rw [List.Nodup, List.pairwise_iff_getElem]
  rw [List.pairwise_iff_getElem] at hs
  constructor
  · intro hlt hn
    have : Lib.compact l = l := Lib.compact_all l fun j hj => by
      unfold Lib.keeps
      rw [decide_eq_true_eq]
      by_cases h0 : j = 0
      · exact .inl h0
      · right
        have := hn (j - 1) j (by omega) hj (by omega)
        simp only [List.getElem!_toArray]
        rw [getElem!_pos l j hj, getElem!_pos l (j - 1) (by omega)]
        exact fun e => this e.symm
    rw [this] at hlt
    omega
  · intro hn
    by_cases he : (Lib.compact l).length = l.length
    · exfalso
      apply hn
      rw [compact_len] at he
      have hall : ∀ j ∈ List.range l.length, Lib.keeps l.toArray j = true := List.length_filter_eq_length_iff.1 (by simpa using he)
      have hstep : ∀ j (h : j + 1 < l.length), l[j] < l[j + 1] := fun j h => by
        have := hall (j + 1) (by simpa using h)
        unfold Lib.keeps at this
        rw [decide_eq_true_eq] at this
        rcases this with h0 | h0
        · omega
        · simp only [List.getElem!_toArray, Nat.add_sub_cancel] at h0
          rw [getElem!_pos l (j + 1) h, getElem!_pos l j (by omega)] at h0
          have := hs j (j + 1) (by omega) h (by omega)
          omega
      intro i j hi hj hij
      have a1 := hstep i (by omega)
      by_cases e : i + 1 = j
      · subst e; omega
      · have a2 := hs (i + 1) j (by omega) hj (by omega)
        omega
    · omega
set_option maxRecDepth 100000 in
set_option maxHeartbeats 2000000 in
theorem twice_in (hsort : SortOk) (hcomp : CompactOk) (n : Nat) (hn : 6 ≤ n) (a : Option Addr) (cap : Nat) (zs : List Int) (hreach : zs.length * 8 ≤ 140737488351232) (w : World) (hI : IntsAt w.heap.size w (.slice a zs.length cap) zs) :
    CallsIn Fence.wide n Tryz.prog 49 #[.slice a zs.length cap] w fun e W' => e = .returned (.bool (decide (¬ zs.Nodup))) ∧ Below w.heap.size w W' := by
  have h1 : 1 ≤ n := by omega
  have hf1 : Fence.wide.fn 69 := trivial
  have hf2 : Fence.wide.fn 68 := trivial
  have hf3 : Fence.wide.fn 67 := trivial
  have hB0 : Below w.heap.size w (w.alloc (.cells #[.slice a zs.length cap] 26)) := (Below.refl _ w).alloc (Nat.le_refl _) _
  have cS := sorted_in hsort (n - 1) (by omega) w.heap.size _ zs hreach (w.alloc (.cells #[.slice a zs.length cap] 26)) (by simp) (Boxed.new w 26 _).cell ((hI.below hB0).more (by simp))
  refine callsIn_of_wp Tryz.func49 rfl trivial ?_ rfl
  simp only [Tryz.ntmps49, List.size_toArray, List.length_cons, List.length_nil, Nat.reduceAdd, Nat.reduceSub, Array.replicate_succ, Array.replicate_zero, List.push_toArray, List.append_toArray, List.nil_append, List.cons_append]
  gi_wp2_with (first
    | (gi_at_call 69; refine (values_in (n - 1) a zs.length cap w).mono ?_; rintro e w' ⟨rfl, rfl⟩)
    | (gi_at_call 68; refine cS.mono ?_; rintro e W ⟨v, rfl, hrow, hnil, hb⟩))
  have hbw : Below w.heap.size w W := hB0.trans (hb.mono (by simp))
  rcases hrow.2 with ⟨rfl, hz⟩ | ⟨gb, cap', cur, rfl, hbase, hgb, r1, r2, r3, r4⟩
  · have hss : zs = [] := List.eq_nil_of_length_eq_zero hz
    subst hss
    gi_wp2_with (gi_at_call 67; refine (callsIn_wide.2 (hcomp.none none 0 W)).mono ?_; rintro e w' ⟨rfl, rfl⟩)
    go_ret
    exact ⟨rfl, hbw⟩
  · have hH : Holds (Value.int .i64) W gb 0 (sorted zs).toArray := holds_of_blockI hgb (by rw [sorted_len]; simpa using r4)
    have hmax : maxLen = 9223372036854775807 := rfl
    have cC := (callsIn_wide (n := n - 1)).2 (hcomp.some gb 0 cap' (sorted zs) W hH (by rw [sorted_len]; omega) (by rw [sorted_len]; omega))
    rw [sorted_len] at cC
    gi_wp2_with (gi_at_call 67; refine cC.mono ?_; rintro e w' ⟨rfl, q, rfl⟩)
    go_ret
    have hg := grownBy_sortedI (w := W) (g := gb) (n := q) (os := #[]) (Lib.compact (sorted zs) ++ List.replicate (zs.length - (Lib.compact (sorted zs)).length) 0).toArray
    rw [grow_empty] at hg
    exact ⟨by rw [← compact_sorted zs]; rfl, hbw.grown hg hbw.size (fun j hj => by cases hj; simp at hbase; omega)⟩
end Go.Proofs.YtdacgjleiloooaaGreat
namespace Go.Proofs.YtdacgjleiloooaaGreat
open Go Go.Ew Go.Proofs Go.RowKit
theorem intsAt_of_rv {φ : Nat → Nat} {σ : Mem} {w : World} {l : List Int} {v : Value} (h : RvM φ σ w (intsA l) v) : ∃ a cap, v = .slice a l.length cap ∧ IntsAt w.heap.size w (.slice a l.length cap) l := by
  unfold intsA at h
  generalize hm : l.length = m at h
  generalize hc : l.map _ = cs at h
  cases h with
  | imm0 A c _ =>
    have : l = [] := List.eq_nil_of_length_eq_zero hm
    subst this
    exact ⟨A, c, rfl, .inl ⟨A, c, rfl, rfl⟩⟩
  | imm _ _ ad c vs h1 h2 _ h4 _ _ =>
    by_cases he : l = []
    · subst he
      simp only [List.length_nil] at hm
      subst hm
      exact ⟨some ad, c, rfl, .inl ⟨some ad, c, rfl, rfl⟩⟩
    · have hcl : cs.length = l.length := by rw [← hc]; simp
      have hpos : 0 < l.length := List.length_pos_iff.2 he
      obtain ⟨b, off, spot⟩ := ad
      have hs : spot = none := by
        have h0 := (h1 0 (by omega)).1
        unfold World.cell? Addr.add at h0
        simp only [if_true] at h0
        split at h0
        · cases spot with
          | none => rfl
          | some k => simp at h0
        · cases h0
      subst hs
      refine ⟨_, c, rfl, .inr ⟨b, off, c, by rw [hm], h4, fun j hj => ?_⟩⟩
      have hj' : j < cs.length := by omega
      have h5 := (h1 j hj').1
      have h6 := h2 j _ (by rw [← hc, List.getElem?_map, List.getElem?_eq_getElem hj]; rfl)
      have e : (Addr.mk b off none).add j = ⟨b, off + j, none⟩ := by
        unfold Addr.add
        by_cases h0 : j = 0
        · subst h0; rfl
        · rw [if_neg h0]
      rw [e] at h5
      rw [h5]
      generalize vs j = u at h6
      cases h6
      simp [List.getElem?_eq_getElem hj]
theorem twice_ev (hsort : SortOk) (hcomp : CompactOk) (l : List Int) (hl : l.length ≤ 1000000) : PureA Tryz.prog 49 [intsA l] (.bool (decide (¬ l.Nodup))) := by
  refine pureA_of_calls ⟨_, Tryz.func49, rfl, by kernel_rfl⟩ rfl (fun v hv => by cases hv) fun φ σ w vs _ h3 => ?_
  obtain ⟨e1, e2⟩ := h3
  match vs, e1 with
  | [v], _ =>
    obtain ⟨a, cap, rfl, hI⟩ := intsAt_of_rv (e2 0 _ v rfl rfl)
    exact (callsIn_wide (n := 6)).1 (twice_in hsort hcomp 6 (Nat.le_refl _) a cap l (by omega) w hI)
end Go.Proofs.YtdacgjleiloooaaGreat
namespace Go.Proofs.YtdacgjleiloooaaGreat
open Go Go.Proofs Go.Shelf
set_option maxRecDepth 100000 in
def sortL_ren : Go.Shelf.Ren := ⟨fun | 5 => 96 | 8 => 118 | 7 => 117 | 19 => 138 | 20 => 139 | 10 => 129 | 11 => 130 | 12 => 131 | 13 => 132 | 14 => 133 | 15 => 134 | 16 => 135 | 17 => 136 | 18 => 137 | 30 => 146 | 31 => 147 | 32 => 148 | 33 => 149 | 34 => 150 | 35 => 73 | 40 => 164 | n => n, fun | 23 => 26 | 25 => 3 | 3 => 3 | 32 => 147 | 22 => 26 | 0 => 0 | 44 => 168 | 46 => 170 | 4 => 4 | 36 => 161 | 35 => 160 | 41 => 165 | 5 => 5 | 9 => 9 | 53 => 178 | 57 => 182 | 63 => 192 | 64 => 193 | n => n, fun | n => n⟩
set_option maxRecDepth 100000 in
theorem sortL : Go.Proofs.SlLaysM.n5 Tryz.prog sortL_ren where
  mixed := by kernel_rfl
  f5 := ⟨Tryz.f96.name, by kernel_rfl, Tryz.func96.trans (congrArg some (by kernel_rfl))⟩
  f7 := ⟨Tryz.f117.name, by kernel_rfl, Tryz.func117.trans (congrArg some (by kernel_rfl))⟩
  f8 := Tryz.func118.trans (congrArg some (by kernel_rfl))
  f10 := ⟨Tryz.f129.name, by kernel_rfl, Tryz.func129.trans (congrArg some (by kernel_rfl))⟩
  f11 := ⟨Tryz.f130.name, by kernel_rfl, Tryz.func130.trans (congrArg some (by kernel_rfl))⟩
  f12 := ⟨Tryz.f131.name, by kernel_rfl, Tryz.func131.trans (congrArg some (by kernel_rfl))⟩
  f13 := ⟨Tryz.f132.name, by kernel_rfl, Tryz.func132.trans (congrArg some (by kernel_rfl))⟩
  f14 := ⟨Tryz.f133.name, by kernel_rfl, Tryz.func133.trans (congrArg some (by kernel_rfl))⟩
  f15 := ⟨Tryz.f134.name, by kernel_rfl, Tryz.func134.trans (congrArg some (by kernel_rfl))⟩
  f16 := ⟨Tryz.f135.name, by kernel_rfl, Tryz.func135.trans (congrArg some (by kernel_rfl))⟩
  f17 := ⟨Tryz.f136.name, by kernel_rfl, Tryz.func136.trans (congrArg some (by kernel_rfl))⟩
  f18 := ⟨Tryz.f137.name, by kernel_rfl, Tryz.func137.trans (congrArg some (by kernel_rfl))⟩
  f19 := Tryz.func138.trans (congrArg some (by kernel_rfl))
  f20 := Tryz.func139.trans (congrArg some (by kernel_rfl))
  f30 := ⟨Tryz.f146.name, by kernel_rfl, Tryz.func146.trans (congrArg some (by kernel_rfl))⟩
  f31 := Tryz.func147.trans (congrArg some (by kernel_rfl))
  f32 := Tryz.func148.trans (congrArg some (by kernel_rfl))
  f33 := ⟨Tryz.f149.name, by kernel_rfl, Tryz.func149.trans (congrArg some (by kernel_rfl))⟩
  f34 := ⟨Tryz.f150.name, by kernel_rfl, Tryz.func150.trans (congrArg some (by kernel_rfl))⟩
  f35 := ⟨Tryz.f73.name, by kernel_rfl, Tryz.func73.trans (congrArg some (by kernel_rfl))⟩
  f40 := ⟨Tryz.f164.name, by kernel_rfl, Tryz.func164.trans (congrArg some (by kernel_rfl))⟩
  t0 := Tryz.underlying0
  a0 := Tryz.isAgg0
  z0 := Tryz.sizeOf0
  v0 := Tryz.zeroValue0
  t3 := Tryz.underlying3
  a3 := Tryz.isAgg3
  z3 := Tryz.sizeOf3
  v3 := Tryz.zeroValue3
  t4 := Tryz.underlying4
  a4 := Tryz.isAgg4
  z4 := Tryz.sizeOf4
  v4 := Tryz.zeroValue4
  t5 := Tryz.underlying5
  a5 := Tryz.isAgg5
  z5 := Tryz.sizeOf5
  v5 := Tryz.zeroValue5
  t9 := Tryz.underlying9
  a9 := Tryz.isAgg9
  z9 := Tryz.sizeOf9
  v9 := Tryz.zeroValue9
  t22 := Tryz.underlying26
  a22 := Tryz.isAgg26
  z22 := Tryz.sizeOf26
  v22 := Tryz.zeroValue26
  t23 := Tryz.underlying26
  a23 := Tryz.isAgg26
  z23 := Tryz.sizeOf26
  v23 := Tryz.zeroValue26
  t25 := Tryz.underlying3
  a25 := Tryz.isAgg3
  z25 := Tryz.sizeOf3
  v25 := Tryz.zeroValue3
  t32 := Tryz.underlying147
  a32 := Tryz.isAgg147
  z32 := Tryz.sizeOf147
  v32 := Tryz.zeroValue147
  t35 := Tryz.underlying160
  a35 := Tryz.isAgg160
  z35 := Tryz.sizeOf160
  v35 := Tryz.zeroValue160
  t36 := Tryz.underlying161
  a36 := Tryz.isAgg161
  z36 := Tryz.sizeOf161
  v36 := Tryz.zeroValue161
  t41 := Tryz.underlying165
  a41 := Tryz.isAgg165
  z41 := Tryz.sizeOf165
  v41 := Tryz.zeroValue165
  t44 := Tryz.underlying168
  a44 := Tryz.isAgg168
  z44 := Tryz.sizeOf168
  v44 := Tryz.zeroValue168
  t46 := Tryz.underlying170
  a46 := Tryz.isAgg170
  z46 := Tryz.sizeOf170
  v46 := Tryz.zeroValue170
  t53 := Tryz.underlying178
  a53 := Tryz.isAgg178
  z53 := Tryz.sizeOf178
  v53 := Tryz.zeroValue178
  t57 := Tryz.underlying182
  a57 := Tryz.isAgg182
  z57 := Tryz.sizeOf182
  v57 := Tryz.zeroValue182
  t63 := Tryz.underlying192
  a63 := Tryz.isAgg192
  z63 := Tryz.sizeOf192
  v63 := Tryz.zeroValue192
  t64 := Tryz.underlying193
  a64 := Tryz.isAgg193
  z64 := Tryz.sizeOf193
  v64 := Tryz.zeroValue193
set_option maxRecDepth 100000 in
def compactL_ren : Go.Shelf.Ren := ⟨fun | 20 => 67 | n => n, fun | 22 => 26 | 3 => 3 | 4 => 4 | 0 => 0 | n => n, fun | n => n⟩
set_option maxRecDepth 100000 in
theorem compactL : Go.Proofs.Lays2.n20 Tryz.prog compactL_ren where
  mixed := by kernel_rfl
  f20 := Tryz.func67.trans (congrArg some (by kernel_rfl))
  t0 := Tryz.underlying0
  a0 := Tryz.isAgg0
  z0 := Tryz.sizeOf0
  v0 := Tryz.zeroValue0
  t3 := Tryz.underlying3
  a3 := Tryz.isAgg3
  z3 := Tryz.sizeOf3
  v3 := Tryz.zeroValue3
  t4 := Tryz.underlying4
  a4 := Tryz.isAgg4
  z4 := Tryz.sizeOf4
  v4 := Tryz.zeroValue4
  t22 := Tryz.underlying26
  a22 := Tryz.isAgg26
  z22 := Tryz.sizeOf26
  v22 := Tryz.zeroValue26
  i3 := by kernel_rfl
end Go.Proofs.YtdacgjleiloooaaGreat
