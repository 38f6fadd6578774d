/- DemeritTotal: for up to 70 pieces and starts, Total tells what the reference tells. -/
import Derived.Test.YtbcilhnldnpehaaT44
namespace Go.Proofs.Ytbcilhnldnpehaa.Pure
set_option linter.unusedVariables false
set_option linter.unusedSimpArgs false
open Go.RowKit Go.Proofs.Ytbcilhnldnpehaa.PD Go.Proofs.Ytbcilhnldnpehaa.D44 Go.Proofs.YtbcilhnldnpehaaW.PrintWords

theorem awake44 (k : Nat) (hk : 10 ≤ k) : vinculumlaw44_awake.f k = some true := at_rounds vinculumlaw44_awake.mono hk (by decide +kernel)

theorem DemeritTotal (l0 : List S) (l1 : List Int) (a b c d : Int) (w0 : l0.length * 24 ≤ 140737488351232 ∧ l0.length ≤ maxLen ∧ ∀ v ∈ l0, WfP v) (w1 : l1.length * 8 ≤ 140737488351232 ∧ l1.length ≤ maxLen ∧ ∀ v ∈ l1, (Lit.int .i64 v).wf = true) (wa : (Lit.int .i64 a).wf = true) (wb : (Lit.int .i64 b).wf = true) (wc : (Lit.int .i64 c).wf = true) (wd : (Lit.int .i64 d).wf = true) :
    ∃ k, vinculumlaw44_DemeritTotal.f k l0 l1 a b c d = some true := by
  obtain ⟨hn, _, hw⟩ := w0
  obtain ⟨hm, _, hs⟩ := w1
  refine ⟨l0.length + 3 * l1.length + 30, ?_⟩
  unfold vinculumlaw44_DemeritTotal.f
  rw [awake44 _ (by omega)]
  simp only [Option.bind_some, if_true]
  obtain ⟨k, hk⟩ : ∃ k, l0.length + 3 * l1.length + 30 = k + 1 := ⟨l0.length + 3 * l1.length + 29, rfl⟩
  rw [hk]
  have ht : vinculumlaw44_DemeritTotal.j0 (k + 1) l0 l1 true a b c d = some true := by simp only [vinculumlaw44_DemeritTotal.j0, if_true]
  by_cases h : (l0.length : Int) > 70
  · rw [if_pos h]
    exact ht
  · rw [if_neg h]
    by_cases h2 : (l1.length : Int) > 70
    · rw [decide_eq_true h2]
      exact ht
    · rw [decide_eq_false h2]
      simp only [vinculumlaw44_DemeritTotal.j0]
      simp only [Option.bind_some, List.length_nil, List.nil_append, Nat.zero_add]
      rw [if_neg (by simp), if_pos (by omega), demTotal l0 (by omega) hw l1 (by omega) c d k (by omega), refTotal l0 (by omega) l1 (by omega) hs c d wc k (by omega)]
      simp

end Go.Proofs.Ytbcilhnldnpehaa.Pure
