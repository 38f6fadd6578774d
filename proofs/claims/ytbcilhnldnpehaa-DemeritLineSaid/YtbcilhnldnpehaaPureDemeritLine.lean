/- DemeritLine: for up to 70 pieces and any line, Valid, Length and Line tell what the reference tells. -/
import Derived.Test.YtbcilhnldnpehaaD44
namespace Go.Proofs.Ytbcilhnldnpehaa.Pure
set_option linter.unusedVariables false
set_option linter.unusedSimpArgs false
open Go.RowKit Go.Proofs.Ytbcilhnldnpehaa.PD Go.Proofs.Ytbcilhnldnpehaa.D44 Go.Proofs.YtbcilhnldnpehaaW.PrintWords

theorem awake44 (k : Nat) (hk : 10 ≤ k) : vinculumlaw44_awake.f k = some true := at_rounds vinculumlaw44_awake.mono hk (by decide +kernel)

theorem DemeritLine (l0 : List S) (a b c d : Int) (w0 : l0.length * 24 ≤ 140737488351232 ∧ l0.length ≤ maxLen ∧ ∀ v ∈ l0, WfP v) (w1 : (Lit.int .i64 a).wf = true) (w2 : (Lit.int .i64 b).wf = true) (w3 : (Lit.int .i64 c).wf = true) (w4 : (Lit.int .i64 d).wf = true) :
    ∃ k, vinculumlaw44_DemeritLine.f k l0 a b c d = some true := by
  obtain ⟨hn, _, hw⟩ := w0
  refine ⟨l0.length + 10, ?_⟩
  unfold vinculumlaw44_DemeritLine.f
  rw [awake44 _ (by omega)]
  simp only [Option.bind_some, if_true]
  by_cases h : (l0.length : Int) > 70
  · rw [if_pos h]
  rw [if_neg h, demLength l0 (by omega) hw a b _ (by omega), refLength l0 (by omega) a b _ (by omega), demLine l0 (by omega) hw a b c _ (by omega), refLine l0 (by omega) a b c w1 _ (by omega), demValid l0 (by omega) hw _ (by omega), refValid l0 (by omega) _ (by omega)]
  simp

end Go.Proofs.Ytbcilhnldnpehaa.Pure
