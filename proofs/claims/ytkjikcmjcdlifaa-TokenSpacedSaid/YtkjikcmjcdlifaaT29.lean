import Derived.Test.YtkjikcmjcdlifaaT28
import Derived.Lib.Bytealg
import Derived.Laws.Externs
namespace Go.Proofs.Ytkjikcmjcdlifaa
open Go Go.Ew Go.Proofs Go.RowKit
set_option maxRecDepth 10000
theorem count_calls (s : ByteArray) (w : World) : Calls Try.prog 28 #[.string s, .string ⟨#[10]⟩] w fun e w' => e = .returned (.int .i64 (Go.Lib.countByte s.data.toList 10)) ∧ w' = w := by
  go_enter Try.func28, Try.ntmps28
  go_wp2
  rw [run_callFunc_extern (show Try.prog.funcs[42]? = some Try.f42 by kernel_rfl) (by kernel_rfl) (by kernel_rfl) (by kernel_rfl) (e := Extern.BytealgCount.count) (by kernel_rfl)]
  rw [Go.Lib.run_countString]
  simp only [Result.andThen]
  rw [Oper.upon_value]
  go_wp2
  go_ret
  exact ⟨rfl, rfl⟩
theorem count_ev (s : List UInt8) : PureA Try.prog 28 [.str s, .lit (.string ⟨#[10]⟩)] (.int ((s.count 10 : Nat) : Int)) := by
  refine pureA_of_calls ⟨Try.f28, Try.func28, by kernel_rfl, by kernel_rfl⟩ rfl (by simp [conc, conc1]) (fun φ σ w vs hr hv => ?_)
  obtain ⟨hl, hv⟩ := hv
  match vs, hl, hv with
  | [v1, v2], _, hv =>
    have h1 := hv 0 _ _ rfl rfl
    have h2 := hv 1 _ _ rfl rfl
    cases h1; cases h2
    refine (count_calls ⟨⟨s⟩⟩ w).mono ?_
    rintro e w' ⟨rfl, rfl⟩
    exact ⟨by simp [conc, conc1, Go.Lib.countByte], Below.refl _ _⟩
/-! ### The gaps of TokenSpaced -/
def gapL : List (List UInt8) := [[32], [10], [9, 32, 13, 10], [32, 35, 32, 45, 62, 32, 34, 32, 123, 10], [35, 10, 10]]
def gapAt (g : List Int) (i : Nat) : List UInt8 := if i < g.length then gapL.getD ((g.getD i 0).toNat % 5) [] else [32]
theorem gapL_ok : ∀ g ∈ gapL, GapP g ∧ (!g.isEmpty && stops g) = true ∧ g.length ≤ 10 := by
  intro g hg
  simp only [gapL, List.mem_cons, List.not_mem_nil, or_false] at hg
  rcases hg with rfl | rfl | rfl | rfl | rfl
  · exact ⟨gap_ws 32 [] (by simp) gap_nil, rfl, by decide⟩
  · exact ⟨gap_nl [] gap_nil, rfl, by decide⟩
  · exact ⟨gap_ws 9 _ (by simp) (gap_ws 32 _ (by simp) (gap_ws 13 _ (by simp) (gap_nl [] gap_nil))), rfl, by decide⟩
  · exact ⟨gap_ws 32 _ (by simp) (gap_hash [32, 45, 62, 32, 34, 32, 123] [] (by decide) (gap_nl [] gap_nil)), rfl, by decide⟩
  · exact ⟨gap_hash [] [10] (by decide) (gap_nl [10] (gap_nl [] gap_nil)), rfl, by decide⟩
theorem gapAt_mem (g : List Int) (i : Nat) : gapAt g i ∈ gapL := by
  unfold gapAt
  split
  · have h : (g.getD i 0).toNat % 5 < gapL.length := Nat.mod_lt _ (by decide)
    rw [List.getD_eq_getElem?_getD, List.getElem?_eq_getElem h, Option.getD_some]
    exact List.getElem_mem h
  · simp [gapL]
def spaced (g : List Int) : Nat → List Tk → List (List UInt8 × Tk)
  | _, [] => []
  | i, t :: r => (gapAt g i, t) :: spaced g (i + 1) r
theorem spaced_seps (g : List Int) : ∀ (l : List Tk) (i : Nat), headSep (spaced g i l) = true ∧ seps (spaced g i l) = true
  | [], _ => ⟨rfl, rfl⟩
  | t :: r, i => by
    have := spaced_seps g r (i + 1)
    exact ⟨(gapL_ok _ (gapAt_mem g i)).2.1, by simp [spaced, seps, this]⟩
theorem spaced_ok (g : List Int) : ∀ (l : List Tk) (i : Nat), rightAll l = true → ∀ a ∈ spaced g i l, GapP a.1 ∧ rightF a.2.kind (addQ a.2.kind a.2.text) = true
  | [], _, _, a, ha => by cases ha
  | t :: r, i, h, a, ha => by
    simp only [rightAll, List.all_cons, Bool.and_eq_true] at h
    rcases List.mem_cons.1 ha with rfl | ha
    · exact ⟨(gapL_ok _ (gapAt_mem g i)).1, h.1⟩
    · exact spaced_ok g r (i + 1) h.2 a ha
theorem spaced_len (g : List Int) : ∀ (l : List Tk) (i : Nat), (gbody (spaced g i l)).length ≤ qLen l + 10 * l.length ∧ (spaced g i l).length = l.length
  | [], _ => by simp [spaced, gbody]
  | t :: r, i => by
    have h1 := spaced_len g r (i + 1)
    have h2 := (gapL_ok _ (gapAt_mem g i)).2.2
    refine ⟨?_, by simp [spaced, h1.2]⟩
    simp only [spaced, gbody, List.length_append, qLen, List.map_cons, List.sum_cons, List.length_cons] at h1 ⊢
    omega
theorem spaced_law (g : List Int) (l : List Tk) (h : rightAll l = true) (hl : l.length ≤ 300) (hq : qLen l ≤ 4000) : tokensF (gbody (spaced g 0 l)) = (relined 1 (spaced g 0 l), 0, 0) := by
  obtain ⟨h1, h2⟩ := spaced_len g l 0
  have := tl_gbody (spaced g 0 l) 1 [] (spaced_ok g l 0 h) (spaced_seps g l 0).2 (by simp; omega)
  unfold tokensF
  rw [if_neg (by omega)]
  exact this
theorem qLen_le : ∀ l : List Tk, qLen l ≤ textSum l + 2 * l.length
  | [] => by simp [qLen, textSum]
  | t :: r => by
    have h1 := qLen_le r
    have h2 := addQ_len t.kind t.text
    simp only [qLen, textSum, List.map_cons, List.sum_cons, List.length_cons] at h1 ⊢
    omega
end Go.Proofs.Ytkjikcmjcdlifaa
