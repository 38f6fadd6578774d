/- CertificateBest: Check accepts the least potentials with the best starts, whose demerits are the first potential. -/
import Derived.Test.YtliegocbkgdhcaaB46
import Derived.Test.YtliegocbkgdhcaaPBx7
namespace Go.Proofs.Ytliegocbkgdhcaa.Pure
set_option linter.unusedVariables false
set_option linter.unusedSimpArgs false
open Go.RowKit Go.Proofs.Ytliegocbkgdhcaa.PB Go.Proofs.Ytliegocbkgdhcaa.D44 Go.Proofs.Ytliegocbkgdhcaa.M46 Go.Proofs.YtliegocbkgdhcaaW.PrintWords

theorem CertificateBest (l0 : List S) (a b : Int) (w0 : l0.length * 24 ≤ 140737488351232 ∧ l0.length ≤ maxLen ∧ ∀ v ∈ l0, WfP v) (wa : (Lit.int .i64 a).wf = true) (wb : (Lit.int .i64 b).wf = true) :
    ∃ k, vinculumlaw46_CertificateBest.f k l0 a b = some true := by
  obtain ⟨_, _, hw⟩ := w0
  refine ⟨20000 + 1, ?_⟩
  have ht : vinculumlaw46_CertificateBest.j0 (20000 + 1) l0 true a b = some true := by simp only [vinculumlaw46_CertificateBest.j0, if_true]
  unfold vinculumlaw46_CertificateBest.f
  rw [awake46 _ (by omega), Option.bind_some, if_pos rfl]
  by_cases h1 : (l0.length : Int) > 70
  · rw [if_pos h1, ht]
  rw [if_neg h1, refFits_f (by omega) a b wa (by omega), Option.bind_some]
  by_cases hf : fits l0 a b = true
  · rw [hf, Bool.not_true]
    have hml : (makeS l0 a b).1.length = l0.length + 1 := by rw [makeS_len, if_pos hf]
    have he : (makeS l0 a b).2 = 0 := by unfold makeS; rw [if_pos hf]
    have ho := makeS_opt hf
    obtain ⟨s, hb, hs, ht, hl⟩ := best_f hw hf ho (k := 20000) (by omega)
    simp only [vinculumlaw46_CertificateBest.j0]
    rw [if_neg (by simp), make_f (by omega) hw a b (by omega), Option.bind_some, hb, Option.bind_some, if_pos he, if_pos rfl, hml, len_succ (n := l0.length + 1) (by omega) (by omega), if_pos rfl, if_pos (by omega), if_pos rfl, check_f (by omega) hw a b s _ (by omega) (by omega), Option.bind_some]
    unfold checkS
    rw [opt_sound hf ho, hs, ht]
    rfl
  · rw [Bool.not_eq_true _ |>.mp hf, Bool.not_false, ht]

end Go.Proofs.Ytliegocbkgdhcaa.Pure
