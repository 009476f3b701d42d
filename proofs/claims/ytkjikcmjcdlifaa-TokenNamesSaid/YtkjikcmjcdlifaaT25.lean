import Derived.Test.YtkjikcmjcdlifaaT24
import Derived.Test.YtkjikcmjcdlifaaT26
import Derived.Test.YtkjikcmjcdlifaaT14
namespace Go.Proofs.Ytkjikcmjcdlifaa
open Go Go.Ew Go.Proofs Go.RowKit
set_option maxRecDepth 10000
theorem tokenSame_ev (a b : List Tk) : PureA Try.prog 9 [.imm a.length (tksC a), .imm b.length (tksC b)] (.bool true) := by
  refine pureA_of Try.func9 rfl (by kernel_rfl) (fun σ => ?_)
  simp [go_sem, Try.results9, Try.ntmps9]
  refine EWcall_pure awake_ev ?_
  simp [go_sem]
  refine EWcall_pure (rfew_ev a) ?_
  rcases ha : fewW a
  · simp [go_sem]
    refine EWcall_pure awake_ev ?_
    simp [go_sem]
  simp [go_sem]
  refine EWcall_pure (rfew_ev b) ?_
  rcases hb : fewW b
  · simp [go_sem]
    refine EWcall_pure awake_ev ?_
    simp [go_sem]
  have la := fewW_len ha
  have lb := fewW_len hb
  simp [go_sem]
  refine EWcall_pure (same_ev a b (by omega)) ?_
  simp [go_sem]
  refine EWcall_pure (rsame_ev a b (by omega)) ?_
  simp [go_sem]
  refine EWcall_pure (same_ev b a (by omega)) ?_
  simp [go_sem]
  refine EWcall_pure (same_ev a b (by omega)) ?_
  have hc : sameF b a = sameF a b := by
    rw [sameF_eq, sameF_eq]
    exact decide_eq_decide.2 ⟨Eq.symm, Eq.symm⟩
  rw [hc]
  simp [go_sem]
  refine EWcall_pure (clone_ev a (by omega)) ?_
  simp [go_sem]
  refine EWcall_pure (same_ev a a (by omega)) ?_
  have : sameF a a = true := by rw [sameF_eq]; simp
  rw [this]
  simp [go_sem]
theorem rIsName_ev (s : List UInt8) (hs : s.length ≤ 9223372036854773000) : PureA Try.prog 25 [.str s] (.bool (rightF 1 s)) := by
  refine pureA_of Try.func25 rfl (by kernel_rfl) (fun σ => ?_)
  simp [go_sem, Try.results25, Try.ntmps25]
  refine EWcall_pure (rright_ev one_ev 1 s 0 hs) ?_
  simp [go_sem, show addQ 1 s = s from rfl]
theorem name_tokens (s : List UInt8) (h : rightF 1 s = true) : tokensF s = ([⟨1, s, 1⟩], 0, 0) := by
  have h62 := right_small 1 s h
  unfold tokensF
  rw [if_neg (by omega)]
  have := tl_tok ⟨1, s, 0⟩ [] 1 [] h rfl (by decide)
  rw [List.append_nil] at this
  exact this
theorem tokenNames_ev (s : List UInt8) : PureA Try.prog 7 [.str s] (.bool true) := by
  refine pureA_of Try.func7 rfl (by kernel_rfl) (fun σ => ?_)
  simp [go_sem, Try.results7, Try.ntmps7]
  refine EWcall_pure awake_ev ?_
  by_cases hbig : 100 < s.length
  · simp [go_sem, show (100 : Int) < s.length by omega]
    refine EWcall_pure awake_ev ?_
    simp [go_sem]
  simp [go_sem, show ¬ (100 : Int) < s.length by omega]
  refine EWcall_pure (isName_ev s (by omega)) ?_
  simp [go_sem]
  refine EWcall_pure (rIsName_ev s (by omega)) ?_
  simp [go_sem]
  refine EWcall_pure (rIsName_ev s (by omega)) ?_
  rcases hr : rightF 1 s
  · simp [go_sem]
    refine EWcall_pure (isName_ev s (by omega)) ?_
    simp [go_sem]
    refine EWcall_pure (rIsName_ev s (by omega)) ?_
    simp [go_sem, hr]
  · simp [go_sem]
    refine EWcall_pure (tokens_ev s (by omega)) ?_
    rw [name_tokens s hr]
    simp [go_sem, tokD]
    refine EWcall_frz (equal_ev [⟨1, s, 1⟩] [⟨1, s, 1⟩] (by simp)) rfl ?_ ?_
    · simp [go_sem]
      exact ⟨(tksC_data _).frz, frz_arr (Nat.zero_le _) (by simp [get_alloc]; rfl) (tksC_data _)⟩
    · rw [equalF_self]
      simp [go_sem]
theorem tokenAgain_ev (s : List UInt8) : PureA Try.prog 8 [.str s] (.bool true) := by
  refine pureA_of Try.func8 rfl (by kernel_rfl) (fun σ => ?_)
  simp [go_sem, Try.results8, Try.ntmps8]
  refine EWcall_pure awake_ev ?_
  by_cases hbig : 1000 < s.length
  · simp [go_sem, show (1000 : Int) < s.length by omega]
    refine EWcall_pure awake_ev ?_
    simp [go_sem]
  simp [go_sem, show ¬ (1000 : Int) < s.length by omega]
  refine EWcall_pure (tokens_ev s (by omega)) ?_
  generalize hr : tokensF s = r
  obtain ⟨l, ln, er⟩ := r
  by_cases he : er = 0
  · subst he
    obtain ⟨h1, h2, h3, h4, h5⟩ := tokensF_right s l ln hr (by omega)
    have hw := writeF_small l h1 (by omega) (by omega)
    obtain ⟨l', h6, h7⟩ := write_tokens l hw
    simp [go_sem, tokD]
    refine EWcall_pure (write_ev l (by omega) (fun t ht => ?_)) ?_
    · have := right_small _ _ (h1 t ht)
      have := addQ_le t.kind t.text
      omega
    rw [hw]
    simp [go_sem]
    refine EWcall_pure (tokens_ev _ (by have := writeF_len l; omega)) ?_
    rw [h6]
    simp [go_sem, tokD]
    refine EWcall_pure (same_ev l l' (by omega)) ?_
    have : sameF l l' = true := by rw [sameF_eq]; simp [h7]
    rw [this]
    simp [go_sem]
  · simp [go_sem, tokD, he]
end Go.Proofs.Ytkjikcmjcdlifaa
