/- DemeritBounds: the demerits of a legal line of valid pieces are at most 10^9 in absolute value; a line is legal exactly if it fits or has one piece. -/
import Derived.Test.YtbcilhnldnpehaaT44
namespace Go.Proofs.Ytbcilhnldnpehaa.Pure
set_option linter.unusedVariables false
set_option linter.unusedSimpArgs false
open Go.RowKit Go.Proofs.Ytbcilhnldnpehaa.PD Go.Proofs.Ytbcilhnldnpehaa.D44 Go.Proofs.YtbcilhnldnpehaaW.PrintWords

theorem awake44 (k : Nat) (hk : 10 ≤ k) : vinculumlaw44_awake.f k = some true := at_rounds vinculumlaw44_awake.mono hk (by decide +kernel)

theorem DemeritBounds (l0 : List S) (a b c d : Int) (w0 : l0.length * 24 ≤ 140737488351232 ∧ l0.length ≤ maxLen ∧ ∀ v ∈ l0, WfP v) (w1 : (Lit.int .i64 a).wf = true) (w2 : (Lit.int .i64 b).wf = true) (w3 : (Lit.int .i64 c).wf = true) (w4 : (Lit.int .i64 d).wf = true) :
    ∃ k, vinculumlaw44_DemeritBounds.f k l0 a b c d = some true := by
  obtain ⟨hn, _, hw⟩ := w0
  refine ⟨l0.length + 20, ?_⟩
  unfold vinculumlaw44_DemeritBounds.f
  rw [awake44 _ (by omega), refValid l0 (by omega) _ (by omega), fits_f _ _ w3]
  simp only [Option.bind_some, if_true]
  have ht : vinculumlaw44_DemeritBounds.j0 (l0.length + 19 + 1) l0 true a b c d = some true := by simp only [vinculumlaw44_DemeritBounds.j0, if_true]
  by_cases h : vp l0 = true
  · rw [if_pos h]
    by_cases hf : 1 ≤ c ∧ c ≤ 10000000 ∧ (0 : Int) ≤ 0 ∧ 0 < c
    · rw [decide_eq_true hf, Bool.not_true]
      simp only [vinculumlaw44_DemeritBounds.j0]
      rw [if_neg (by simp), demLength l0 (by omega) hw a b _ (by omega), demLine l0 (by omega) hw a b c _ (by omega)]
      simp only [Option.bind_some, lengthS, if_pos h, lineS]
      rw [if_pos (show vp l0 = true ∧ 1 ≤ c ∧ c ≤ 10000000 from ⟨h, hf.1, hf.2.1⟩)]
      by_cases hr : 0 ≤ a ∧ a < b ∧ b ≤ (l0.length : Int)
      · rw [if_pos hr, if_pos hr]
        obtain ⟨i, rfl⟩ : ∃ i : Nat, a = i := ⟨a.toNat, by omega⟩
        obtain ⟨j, rfl⟩ : ∃ j : Nat, b = j := ⟨b.toNat, by omega⟩
        have hb := lineD_bound h (i := i) (j := j) (by omega) (by omega) hf.1 hf.2.1
        have hl := vp_len h
        simp only [Int.toNat_natCast, if_true]
        rw [wrap_id (x := (j : Int) - i) (by omega) (by omega)]
        by_cases hlong : len44 l0 i j > c
        · rw [if_pos hlong]
          by_cases h1 : (j : Int) - i > 1
          · rw [if_pos h1, if_neg (show ¬ legal l0 i j c = true by simp only [legal, decide_eq_true_eq]; omega)]
            rfl
          · rw [if_neg h1, if_pos (show legal l0 i j c = true by simp only [legal, decide_eq_true_eq]; omega)]
            simp only [if_true]
            rw [if_pos (show lineD l0 i j c ≤ 1000000000 by omega), decide_eq_true (show lineD l0 i j c ≥ -1000000000 by omega)]
        · rw [if_neg hlong, if_pos (show legal l0 i j c = true by simp only [legal, decide_eq_true_eq]; omega)]
          simp only [if_true]
          rw [if_pos (show lineD l0 i j c ≤ 1000000000 by omega), decide_eq_true (show lineD l0 i j c ≥ -1000000000 by omega)]
      · rw [if_neg hr, if_neg hr]
        rfl
    · rw [decide_eq_false hf, Bool.not_false]
      exact ht
  · rw [if_neg h]
    exact ht

end Go.Proofs.Ytbcilhnldnpehaa.Pure
