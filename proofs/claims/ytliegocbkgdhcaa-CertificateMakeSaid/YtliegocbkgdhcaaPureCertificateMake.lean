/- CertificateMake: for up to 70 pieces Make tells what the reference tells. -/
import Derived.Test.YtliegocbkgdhcaaM46
namespace Go.Proofs.Ytliegocbkgdhcaa.Pure
set_option linter.unusedVariables false
set_option linter.unusedSimpArgs false
open Go.RowKit Go.Proofs.Ytliegocbkgdhcaa.PM Go.Proofs.Ytliegocbkgdhcaa.D44 Go.Proofs.Ytliegocbkgdhcaa.M46 Go.Proofs.YtliegocbkgdhcaaW.PrintWords

theorem CertificateMake (l0 : List S) (a b : Int) (w0 : l0.length * 24 ≤ 140737488351232 ∧ l0.length ≤ maxLen ∧ ∀ v ∈ l0, WfP v) (wa : (Lit.int .i64 a).wf = true) (wb : (Lit.int .i64 b).wf = true) :
    ∃ k, vinculumlaw46_CertificateMake.f k l0 a b = some true := by
  obtain ⟨hn, _, hw⟩ := w0
  refine ⟨l0.length + 40 + l0.length * (l0.length + 3), ?_⟩
  unfold vinculumlaw46_CertificateMake.f
  rw [awake46 _ (by omega)]
  simp only [Option.bind_some, if_true]
  by_cases h : (l0.length : Int) > 70
  · rw [if_pos h]
  · rw [if_neg h, make_f (by omega) hw a b (by omega), Option.bind_some, refMake_f (by omega) a b wa (by omega), Option.bind_some, if_pos rfl, same_self _ (by rw [makeS_len]; split <;> omega) (by rw [makeS_len]; split <;> omega), Option.bind_some]

end Go.Proofs.Ytliegocbkgdhcaa.Pure
