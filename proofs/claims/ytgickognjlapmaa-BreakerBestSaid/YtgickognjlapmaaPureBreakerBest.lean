/- BreakerBest: Best and Fewest return the specified starts, demerits and numbers, or ErrArg, for up to 10 pieces. -/
import Derived.Test.YtgickognjlapmaaX45
import Derived.Test.YtgickognjlapmaaPRx9
namespace Go.Proofs.Ytgickognjlapmaa.Pure
set_option linter.unusedVariables false
set_option linter.unusedSimpArgs false
open Go.RowKit Go.Proofs.Ytgickognjlapmaa.PR Go.Proofs.Ytgickognjlapmaa.D44 Go.Proofs.Ytgickognjlapmaa.M46 Go.Proofs.YtgickognjlapmaaW.PrintWords Go.Proofs.YtgickognjlapmaaW.PrintLast Go.Proofs.YtgickognjlapmaaW.PrintMore

theorem ref_fewest_loop {st : List SR} {c n : Nat} (hl : st.length = n + 1) (hn : n ≤ 100) (hc : c ≤ n) (hf : (rd_T61 st (c : Int)).f2 = true) : ∀ (d k i : Nat), 1 ≤ i → i ≤ c → c - i = d → d + 2 ≤ k → (∀ x, i ≤ x → x < c → (rd_T61 st (x : Int)).f2 = false) →
    vinculumref45_Fewest.l0 k st (i : Int) = some ((c : Int), 0)
  | 0, k, i, h1, h2, hd, hk, h => by
    obtain ⟨k, rfl⟩ : ∃ q, k = q + 1 := ⟨k - 1, by omega⟩
    obtain rfl : i = c := by omega
    simp only [vinculumref45_Fewest.l0]
    rw [if_pos (by omega), if_pos (by omega), if_pos hf]
  | d + 1, k, i, h1, h2, hd, hk, h => by
    obtain ⟨k, rfl⟩ : ∃ q, k = q + 1 := ⟨k - 1, by omega⟩
    simp only [vinculumref45_Fewest.l0]
    rw [if_pos (by omega), if_pos (by omega), if_neg (by rw [h i (Nat.le_refl _) (by omega)]; decide), len_succ (n := 1000) (by omega) (by omega)]
    exact ref_fewest_loop hl hn hc hf d k (i + 1) (by omega) (by omega) (by omega) (by omega) (fun x hx hx2 => h x (by omega) hx2)
theorem best_same {l : List S} (hw : ∀ p ∈ l, WfP p) (h10 : l.length ≤ 10) (w ind : Int) (hww : (Lit.int .i64 w).wf = true) {k : Nat} (hk : 5000 ≤ k) :
    (∃ r, breaker_Best.f k l w ind = some r ∧ vinculumref45_Best.f k l w ind = some r ∧ r.1.length ≤ 100) ∧ ∃ q, breaker_Fewest.f k l w ind = some q ∧ vinculumref45_Fewest.f k l w ind = some q := by
  unfold vinculumref45_Best.f vinculumref45_Fewest.f
  by_cases hf : fits l w ind = true
  case neg =>
    rw [all_arg (by omega) hf hww (by omega), Option.bind_some, Option.bind_some, if_neg (by decide), if_neg (by decide)]
    exact ⟨⟨_, best_arg (by omega) hw hf (by omega), rfl, by simp⟩, _, fewest_arg (by omega) hw hf (by omega), rfl⟩
  have hn := vp_len (fits_iff.1 hf).1
  obtain ⟨st, h1, h2, h3⟩ := all_spec hf (by omega) hww (k := k) (by omega)
  rw [h1, Option.bind_some, Option.bind_some, if_pos rfl, if_pos rfl]
  simp only
  rw [if_pos (by omega)]
  constructor
  · obtain ⟨s, t, k1, k2, k3⟩ := best_spec hw hf (k := k) (by omega)
    obtain ⟨g1, g2⟩ := h3 0 (Nat.zero_le _)
    have e0 : ((0 : Nat) : Int) = 0 := rfl
    rw [e0] at g1 g2
    cases hfd : (rd_T61 st 0).f2 with
    | true =>
      have hu := k2.unique ((g1 hfd).sub (Q := fun _ => True) trivial (fun s _ => Or.inl rfl))
      refine ⟨_, k1, ?_, ?_⟩
      · rw [← hu.1, ← hu.2]
      · simp only
        omega
    | false =>
      have := g2 hfd s k2.fr (Or.inl rfl)
      rw [k2.sum] at this
      cases this
  · obtain ⟨c, k1, k2, k3, ⟨s, t, q1, q2, q3⟩, k5⟩ := fewest_spec hw hf (K := k) (by omega)
    refine ⟨_, k1, ?_⟩
    have hfound : (rd_T61 st (c : Int)).f2 = true := by
      cases hfd : (rd_T61 st (c : Int)).f2 with
      | true => rfl
      | false =>
        have := (h3 c k3).2 hfd s q1 (Or.inr q2)
        rw [q3] at this
        cases this
    have := ref_fewest_loop h2 (by omega) k3 hfound (c - 1) k 1 (Nat.le_refl _) k2 rfl (by omega) (fun x hx hx2 => by
      cases hfd : (rd_T61 st (x : Int)).f2 with
      | false => rfl
      | true =>
        have hb := (h3 x (by omega)).1 hfd
        exact absurd ⟨_, _, hb.fr, hb.ok.resolve_left (by omega), hb.sum⟩ (k5 x hx2))
    exact this
theorem BreakerBest (l0 : List S) (a b c : Int) (w0 : l0.length * 24 ≤ 140737488351232 ∧ l0.length ≤ maxLen ∧ ∀ v ∈ l0, WfP v) (wa : (Lit.int .i64 a).wf = true) (wb : (Lit.int .i64 b).wf = true) (wc : (Lit.int .i64 c).wf = true) :
    ∃ k, vinculumlaw45_BreakerBest.f k l0 a b c = some true := by
  obtain ⟨hn, _, hw⟩ := w0
  refine ⟨6000, ?_⟩
  unfold vinculumlaw45_BreakerBest.f
  rw [awake45 _ (by omega), Option.bind_some, if_pos rfl]
  by_cases h10 : (l0.length : Int) > 10
  · rw [if_pos h10]
  · obtain ⟨⟨r, h1, h2, h3⟩, q, h4, h5⟩ := best_same hw (by omega) a b wa (k := 6000) (by omega)
    rw [if_neg h10, Option.bind_some, if_pos (by simp; omega), List.nil_append, h1, Option.bind_some, h2, Option.bind_some, h4, Option.bind_some, h5, Option.bind_some, same45_self _ (by omega) (by omega), Option.bind_some, if_pos rfl, if_pos rfl, if_pos rfl, if_pos rfl]
    simp

end Go.Proofs.Ytgickognjlapmaa.Pure
