/- BreakerLines: Lines returns the specified starts and demerits, or the specified error, for up to 10 pieces and any number of lines. -/
import Derived.Test.YtgickognjlapmaaX45
import Derived.Test.YtgickognjlapmaaPRx9
namespace Go.Proofs.Ytgickognjlapmaa.Pure
set_option linter.unusedVariables false
set_option linter.unusedSimpArgs false
open Go.RowKit Go.Proofs.Ytgickognjlapmaa.PR Go.Proofs.Ytgickognjlapmaa.D44 Go.Proofs.Ytgickognjlapmaa.M46 Go.Proofs.YtgickognjlapmaaW.PrintWords Go.Proofs.YtgickognjlapmaaW.PrintLast Go.Proofs.YtgickognjlapmaaW.PrintMore

theorem lines_same {l : List S} (hw : ∀ p ∈ l, WfP p) (h10 : l.length ≤ 10) (w ind m : Int) (hww : (Lit.int .i64 w).wf = true) {k : Nat} (hk : 5000 ≤ k) :
    ∃ r, breaker_Lines.f k l w ind m = some r ∧ vinculumref45_Lines.f k l w ind m = some r ∧ r.1.length ≤ 100 := by
  unfold vinculumref45_Lines.f
  by_cases hf : fits l w ind = true
  case neg =>
    refine ⟨_, lines_arg (by omega) hw hf (by omega) m, ?_, by simp⟩
    rw [all_arg (by omega) hf hww (by omega), Option.bind_some, if_neg (by decide)]
  have hn := vp_len (fits_iff.1 hf).1
  obtain ⟨st, h1, h2, h3⟩ := all_spec hf (by omega) hww (k := k) (by omega)
  rw [h1, Option.bind_some, if_pos rfl]
  simp only
  by_cases hm : m < 1 ∨ m > (l.length : Int)
  · refine ⟨_, lines_out hw hf (by omega) hm, ?_, by simp⟩
    by_cases c : m < 1
    · rw [if_pos c]
    · rw [if_neg c, if_pos (by omega)]
  · obtain ⟨c, rfl⟩ : ∃ c : Nat, m = (c : Int) := ⟨m.toNat, by omega⟩
    rw [if_neg (by omega), if_neg (by omega), if_pos (by omega), if_pos (by omega)]
    obtain ⟨g1, g2⟩ := h3 c (by omega)
    have hP : ∀ s : List Int, Pj c s ↔ s.length = c := fun s => ⟨fun h => h.resolve_left (by omega), fun h => Or.inr h⟩
    rcases lines_spec hw hf (K := k) (by omega) (show 1 ≤ c by omega) (by omega) with ⟨s, t, k1, k2⟩ | ⟨k1, k2⟩
    · cases hfd : (rd_T61 st (c : Int)).f2 with
      | true =>
        have hu := k2.unique ((g1 hfd).sub (Q := fun s => s.length = c) ((hP _).1 (g1 hfd).ok) (fun s h => (hP s).2 h))
        refine ⟨_, k1, ?_, ?_⟩
        · rw [if_pos rfl, ← hu.1, ← hu.2]
        · have := k2.ok
          simp only at this ⊢
          omega
      | false =>
        have := g2 hfd s k2.fr ((hP s).2 k2.ok)
        rw [k2.sum] at this
        cases this
    · cases hfd : (rd_T61 st (c : Int)).f2 with
      | true =>
        have hb := g1 hfd
        have := k2 _ hb.fr ((hP _).1 hb.ok)
        rw [hb.sum] at this
        cases this
      | false =>
        refine ⟨_, k1, ?_, by simp⟩
        rw [if_neg (by decide)]
theorem BreakerLines (l0 : List S) (a b c : Int) (w0 : l0.length * 24 ≤ 140737488351232 ∧ l0.length ≤ maxLen ∧ ∀ v ∈ l0, WfP v) (wa : (Lit.int .i64 a).wf = true) (wb : (Lit.int .i64 b).wf = true) (wc : (Lit.int .i64 c).wf = true) :
    ∃ k, vinculumlaw45_BreakerLines.f k l0 a b c = some true := by
  obtain ⟨hn, _, hw⟩ := w0
  refine ⟨6000, ?_⟩
  unfold vinculumlaw45_BreakerLines.f
  rw [awake45 _ (by omega), Option.bind_some, if_pos rfl]
  by_cases h10 : (l0.length : Int) > 10
  · rw [if_pos h10]
  · obtain ⟨r, h1, h2, h3⟩ := lines_same hw (by omega) a b c wa (k := 6000) (by omega)
    rw [if_neg h10, h1, Option.bind_some, h2, Option.bind_some, same45_self _ (by omega) (by omega), Option.bind_some, if_pos rfl, if_pos rfl]
    simp

end Go.Proofs.Ytgickognjlapmaa.Pure
