/- BreakerNumbers: the best starts are the best ones with their number of lines, and no number of lines has fewer demerits; there is none below the fewest. -/
import Derived.Test.YtgickognjlapmaaO45
import Derived.Test.YtgickognjlapmaaA45
import Derived.Test.YtgickognjlapmaaPQx6
namespace Go.Proofs.Ytgickognjlapmaa.Pure
set_option linter.unusedVariables false
set_option linter.unusedSimpArgs false
open Go.RowKit Go.Proofs.Ytgickognjlapmaa.PQ Go.Proofs.Ytgickognjlapmaa.D44 Go.Proofs.Ytgickognjlapmaa.M46 Go.Proofs.YtgickognjlapmaaW.PrintWords Go.Proofs.YtgickognjlapmaaW.PrintLast Go.Proofs.YtgickognjlapmaaW.PrintMore

theorem numbers_loop {l : List S} (hw : ∀ p ∈ l, WfP p) {w ind : Int} (hf : fits l w ind = true) {b : List Int} {v : Int} (hb : BestOf l w ind 0 (fun _ => True) b v) (hbl : b.length ≤ l.length) {c : Nat} (hc1 : 1 ≤ c)
    (hcs : ∃ s t, Fr l 0 s ∧ s.length = c ∧ tS l w ind s = some t) (hcn : ∀ x, x < c → ¬ ∃ s t, Fr l 0 s ∧ s.length = x ∧ tS l w ind s = some t) (m : Int) (d : Nat) : ∀ (k i : Nat), i ≤ l.length + 2 → l.length + 2 - i = d → l.length + 200 + 2 * d < k →
    vinculumlaw45_BreakerNumbers.l0 k l b v (c : Int) (i : Int) w ind m = some true := by
  have hn := vp_len (fits_iff.1 hf).1
  have hw1 : wrap64 ((l.length : Int) + 1) = (l.length : Int) + 1 := wrap_id (by omega) (by omega)
  induction d with
  | zero =>
    intro k i hi hd hk
    obtain ⟨k, rfl⟩ : ∃ q, k = q + 1 := ⟨k - 1, by omega⟩
    simp only [vinculumlaw45_BreakerNumbers.l0]
    rw [hw1, if_neg (by omega)]
  | succ d ih =>
    intro k i hi hd hk
    obtain ⟨k, rfl⟩ : ∃ q, k = q + 2 := ⟨k - 2, by omega⟩
    have hnext : vinculumlaw45_BreakerNumbers.l0 k l b v (c : Int) (wrap64 ((i : Int) + 1)) w ind m = some true := by
      rw [len_succ (n := 100) (by omega) (by omega)]
      exact ih k (i + 1) (by omega) (by omega) (by omega)
    simp only [vinculumlaw45_BreakerNumbers.l0]
    rw [hw1, if_pos (by omega)]
    by_cases hic : i < c
    · have hL : breaker_Lines.f (k + 1) l w ind (i : Int) = some ([], 0, 8) := by
        by_cases h1 : 1 ≤ i ∧ i ≤ l.length
        · rcases lines_spec hw hf (K := k + 1) (by omega) h1.1 h1.2 with ⟨s, t, g1, g2⟩ | ⟨g1, _⟩
          · exact absurd ⟨s, t, g2.fr, g2.ok, g2.sum⟩ (hcn i hic)
          · exact g1
        · exact lines_out hw hf (by omega) (by omega)
      rw [hL, Option.bind_some, if_pos (by omega)]
      simp only [vinculumlaw45_BreakerNumbers.j3]
      rw [if_pos trivial, if_pos trivial]
      exact hnext
    · have hnc : ¬ (i : Int) < (c : Int) := by omega
      by_cases hil : i ≤ l.length
      · rcases lines_spec hw hf (K := k + 1) (by omega) (show 1 ≤ i by omega) hil with ⟨s, t, g1, g2⟩ | ⟨g1, g2⟩
        · rw [g1, Option.bind_some, if_neg hnc]
          simp only [vinculumlaw45_BreakerNumbers.j3]
          have hle : v ≤ t := by rcases hb.least s t g2.fr trivial g2.sum with h | h <;> omega
          rw [decide_eq_false (by omega), if_neg (by decide), if_pos trivial, if_neg (by omega), if_pos (by rw [g2.ok])]
          by_cases hib : i = b.length
          · have hu := (hb.sub (Q := fun s => s.length = i) hib.symm (fun _ _ => trivial)).unique g2
            rw [if_pos (by rw [hib]), if_pos hu.2.symm, ← hu.1, same45_self b (by omega) (by omega), Option.bind_some, if_pos rfl]
            exact hnext
          · rw [if_neg (by omega)]
            exact hnext
        · rw [g1, Option.bind_some, if_neg hnc]
          simp only [vinculumlaw45_BreakerNumbers.j3]
          rw [decide_eq_false (by omega), if_neg (by decide), if_neg (by decide), if_pos trivial, if_neg, if_neg]
          · exact hnext
          · intro e
            obtain ⟨s, t, k1, k2, k3⟩ := singles hf l.length 0 (by omega) (by omega)
            have := g2 s k1 (by omega)
            rw [k3] at this
            cases this
          · intro e
            obtain ⟨s, t, k1, k2, k3⟩ := hcs
            have := g2 s k1 (by omega)
            rw [k3] at this
            cases this
      · rw [lines_out hw hf (by omega) (by omega), Option.bind_some, if_neg hnc]
        simp only [vinculumlaw45_BreakerNumbers.j3]
        rw [decide_eq_true (by omega), if_pos rfl, if_pos trivial]
        exact hnext
theorem BreakerNumbers (l0 : List S) (a b c : Int) (w0 : l0.length * 24 ≤ 140737488351232 ∧ l0.length ≤ maxLen ∧ ∀ v ∈ l0, WfP v) (wa : (Lit.int .i64 a).wf = true) (wb : (Lit.int .i64 b).wf = true) (wc : (Lit.int .i64 c).wf = true) :
    ∃ k, vinculumlaw45_BreakerNumbers.f k l0 a b c = some true := by
  obtain ⟨hn, _, hw⟩ := w0
  refine ⟨l0.length + 5002, ?_⟩
  have yes : ∀ q, vinculumlaw45_BreakerNumbers.j0 (q + 1) l0 true a b c = some true := fun q => by
    simp only [vinculumlaw45_BreakerNumbers.j0]
    rfl
  unfold vinculumlaw45_BreakerNumbers.f
  rw [awake45 _ (by omega), Option.bind_some, if_pos rfl, fits45_f (by omega) a b c wa (by omega), Option.bind_some]
  by_cases hf : fits l0 a b = true
  · rw [if_pos hf]
    by_cases h20 : (l0.length : Int) > 20
    · rw [decide_eq_true h20]
      exact yes _
    · rw [decide_eq_false h20]
      simp only [vinculumlaw45_BreakerNumbers.j0]
      obtain ⟨s, t, g1, g2, g3⟩ := best_spec hw hf (k := l0.length + 5001) (by omega)
      obtain ⟨f, k1, k2, k3, k4, k5⟩ := fewest_spec hw hf (K := l0.length + 5001) (by omega)
      rw [if_neg (by decide), g1, Option.bind_some, k1, Option.bind_some, if_pos rfl, if_pos rfl]
      have hsf : ¬ (s.length : Int) < (f : Int) := fun h => k5 s.length (by omega) ⟨s, t, g2.fr, rfl, g2.sum⟩
      rw [decide_eq_false hsf]
      simp only [vinculumlaw45_BreakerNumbers.j1]
      rw [if_neg (by decide)]
      exact numbers_loop hw hf g2 g3 k2 k4 k5 c (l0.length + 2) _ 0 (by omega) (by omega) (by omega)
  · rw [if_neg hf]
    exact yes _

end Go.Proofs.Ytgickognjlapmaa.Pure
