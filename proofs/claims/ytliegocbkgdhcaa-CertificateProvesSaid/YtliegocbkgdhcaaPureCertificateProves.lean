/- CertificateProves: what Bound returns is at most the demerits of any legal starts; where Check accepts starts, theirs are this number. -/
import Derived.Test.YtliegocbkgdhcaaU46
import Derived.Test.YtliegocbkgdhcaaQ46
import Derived.Test.YtliegocbkgdhcaaPGx12
namespace Go.Proofs.Ytliegocbkgdhcaa.Pure
set_option linter.unusedVariables false
set_option linter.unusedSimpArgs false
open Go.RowKit Go.Proofs.Ytliegocbkgdhcaa.PG Go.Proofs.Ytliegocbkgdhcaa.D44 Go.Proofs.Ytliegocbkgdhcaa.M46 Go.Proofs.YtliegocbkgdhcaaW.PrintWords

theorem CertificateProves (l0 : List S) (a b : Int) (st nm : List Int) (ch : Bool) (w0 : l0.length * 24 ≤ 140737488351232 ∧ l0.length ≤ maxLen ∧ ∀ v ∈ l0, WfP v) (wa : (Lit.int .i64 a).wf = true) (wb : (Lit.int .i64 b).wf = true)
    (ws : st.length * 8 ≤ 140737488351232 ∧ st.length ≤ maxLen ∧ ∀ v ∈ st, (Lit.int .i64 v).wf = true) (wn : nm.length * 8 ≤ 140737488351232 ∧ nm.length ≤ maxLen ∧ ∀ v ∈ nm, (Lit.int .i64 v).wf = true) :
    ∃ k, vinculumlaw46_CertificateProves.f k l0 a b st nm ch = some true := by
  obtain ⟨_, _, hw⟩ := w0
  refine ⟨20000 + 1, ?_⟩
  have ht : vinculumlaw46_CertificateProves.j0 (20000 + 1) l0 true a b st nm ch = some true := by simp only [vinculumlaw46_CertificateProves.j0, if_true]
  unfold vinculumlaw46_CertificateProves.f
  rw [awake46 _ (by omega), Option.bind_some, if_pos rfl]
  by_cases h1 : (l0.length : Int) > 70
  · rw [if_pos h1, ht]
  rw [if_neg h1]
  by_cases h2 : (st.length : Int) > 100
  · rw [if_pos h2, ht]
  rw [if_neg h2]
  by_cases h3 : (nm.length : Int) > 100
  · rw [if_pos h3, ht]
  rw [if_neg h3, refFits_f (by omega) a b wa (by omega), Option.bind_some]
  by_cases hf : fits l0 a b = true
  · rw [hf, Bool.not_true]
    have hm2 := Nat.mul_le_mul (show l0.length ≤ 70 by omega) (show l0.length + 3 ≤ 73 by omega)
    obtain ⟨ps, hp, _, _⟩ := pot_f (l := l0) (by omega) a b wa st nm ch (k := 20000) (by omega)
    simp only [vinculumlaw46_CertificateProves.j0]
    rw [if_neg (by simp), hp, Option.bind_some, bound_f (by omega) hw a b ps (by omega), Option.bind_some, demTotal l0 (by omega) hw st (by omega) a b _ (by omega), Option.bind_some, check_f (by omega) hw a b st ps (by omega) (by omega), Option.bind_some]
    unfold checkS
    by_cases h : soundS l0 a b ps = true
    · rw [if_pos h, h, Bool.true_and, if_pos (c := ((rd ps 0, true) : Int × Bool).2 = true) rfl]
      by_cases hs : startsB (l0.length : Int) st = true
      · obtain ⟨hc, _⟩ := starts_chain hs
        rw [total_eq hf hs, hs, Bool.true_and]
        cases hT : tS l0 a b st with
        | none =>
          have hx : ¬ M46.tight l0 a b ps st = true := by
            intro e
            have := tight_total h (by omega) hc e
            rw [hT] at this
            simp at this
          rw [Bool.not_eq_true _ |>.mp hx, if_neg (by simp [pack])]
          rfl
        | some t =>
          have hb := bound_le h (by omega) hc hT
          rw [starts_end hs] at hb
          rw [if_pos (by rfl), if_pos (show ((rd ps 0, true) : Int × Bool).1 ≤ (pack 0 (some t)).1 by simp only [pack]; omega)]
          by_cases e : M46.tight l0 a b ps st = true
          · have := tight_total h (by omega) hc e
            rw [hT, starts_end hs] at this
            have := Option.some.inj this
            rw [if_pos e]
            simp only [pack]
            rw [this, Int.zero_add]
            simp
          · rw [if_neg e]
      · rw [total_not hf hs, Bool.not_eq_true _ |>.mp hs, Bool.false_and, if_neg (by simp)]
        rfl
    · rw [if_neg h, Bool.not_eq_true _ |>.mp h, Bool.false_and, if_neg (c := ((0, false) : Int × Bool).2 = true) (by simp)]
      split <;> rfl
  · rw [Bool.not_eq_true _ |>.mp hf, Bool.not_false, ht]

end Go.Proofs.Ytliegocbkgdhcaa.Pure
