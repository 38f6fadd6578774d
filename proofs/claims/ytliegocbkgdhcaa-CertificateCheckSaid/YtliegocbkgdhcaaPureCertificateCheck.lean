/- CertificateCheck: Bound and Check judge any starts and potentials as the reference judges them. -/
import Derived.Test.YtliegocbkgdhcaaS46
import Derived.Test.YtliegocbkgdhcaaQ46
import Derived.Test.YtliegocbkgdhcaaPGx10
namespace Go.Proofs.Ytliegocbkgdhcaa.Pure
set_option linter.unusedVariables false
set_option linter.unusedSimpArgs false
open Go.RowKit Go.Proofs.Ytliegocbkgdhcaa.PG Go.Proofs.Ytliegocbkgdhcaa.D44 Go.Proofs.Ytliegocbkgdhcaa.M46 Go.Proofs.YtliegocbkgdhcaaW.PrintWords

theorem CertificateCheck (l0 : List S) (a b : Int) (st nm : List Int) (ch : Bool) (w0 : l0.length * 24 ≤ 140737488351232 ∧ l0.length ≤ maxLen ∧ ∀ v ∈ l0, WfP v) (wa : (Lit.int .i64 a).wf = true) (wb : (Lit.int .i64 b).wf = true)
    (ws : st.length * 8 ≤ 140737488351232 ∧ st.length ≤ maxLen ∧ ∀ v ∈ st, (Lit.int .i64 v).wf = true) (wn : nm.length * 8 ≤ 140737488351232 ∧ nm.length ≤ maxLen ∧ ∀ v ∈ nm, (Lit.int .i64 v).wf = true) :
    ∃ k, vinculumlaw46_CertificateCheck.f k l0 a b st nm ch = some true := by
  obtain ⟨_, _, hw⟩ := w0
  refine ⟨20000 + 1, ?_⟩
  have body : l0.length ≤ 70 → st.length ≤ 100 → nm.length ≤ 100 → vinculumlaw46_CertificateCheck.j0 (20000 + 1) l0 false a b st nm ch = some true := by
    intro h1 h2 h3
    have hm := Nat.mul_le_mul h1 (show l0.length + 4 ≤ 74 by omega)
    have hm2 := Nat.mul_le_mul h1 (show l0.length + 3 ≤ 73 by omega)
    simp only [vinculumlaw46_CertificateCheck.j0]
    obtain ⟨o, ho, hl, _⟩ := pot_f (l := l0) (by omega) a b wa st nm ch (k := 20000) (by omega)
    have hol : o.length ≤ 1000 := by
      rw [makeS_len] at hl
      split at hl <;> omega
    rw [if_neg (by simp), ho, Option.bind_some, refSound_f (by omega) a b wa o (by omega) (by omega), Option.bind_some, bound_f (by omega) hw a b o (by omega), Option.bind_some, check_f (by omega) hw a b st o (by omega) (by omega), Option.bind_some, refCheck_f (by omega) a b wa st o (by omega) (by omega) (by omega), Option.bind_some]
    by_cases h : soundS l0 a b o = true
    · have := sound_len h
      rw [if_pos h, if_pos (by omega), if_pos h, h, if_pos (by rfl), if_pos rfl]
      simp
    · rw [if_neg h, if_neg h, Option.bind_some, Bool.not_eq_true _ |>.mp h, if_pos (by rfl), if_pos rfl]
      simp
  have ht : vinculumlaw46_CertificateCheck.j0 (20000 + 1) l0 true a b st nm ch = some true := by simp only [vinculumlaw46_CertificateCheck.j0, if_true]
  unfold vinculumlaw46_CertificateCheck.f
  rw [awake46 _ (by omega), Option.bind_some, if_pos rfl]
  by_cases h1 : (l0.length : Int) > 70
  · rw [if_pos h1, ht]
  · rw [if_neg h1]
    by_cases h2 : (st.length : Int) > 100
    · rw [if_pos h2, ht]
    · rw [if_neg h2]
      by_cases h3 : (nm.length : Int) > 100
      · rw [decide_eq_true h3, ht]
      · rw [decide_eq_false h3]
        exact body (by omega) (by omega) (by omega)

end Go.Proofs.Ytliegocbkgdhcaa.Pure
