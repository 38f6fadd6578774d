/- BreakerTails: from the second line on, the best starts are those of the pieces from there on, for the width minus the indent. -/
import Derived.Test.YtgickognjlapmaaV45
import Derived.Test.YtgickognjlapmaaA45
import Derived.Test.YtgickognjlapmaaPWx7
namespace Go.Proofs.Ytgickognjlapmaa.Pure
set_option linter.unusedVariables false
set_option linter.unusedSimpArgs false
open Go.RowKit Go.Proofs.Ytgickognjlapmaa.PW Go.Proofs.Ytgickognjlapmaa.D44 Go.Proofs.Ytgickognjlapmaa.M46 Go.Proofs.YtgickognjlapmaaW.PrintWords Go.Proofs.YtgickognjlapmaaW.PrintLast Go.Proofs.YtgickognjlapmaaW.PrintMore

theorem rd_tail (r : List Int) (i : Int) {t : Nat} (ht : t < r.length) : rd (0 :: r.map (fun x => x + i)) ((t + 1 : Nat) : Int) = rd r (t : Int) + i := by
  rw [rd_int (by simpa using ht), rd_int ht]
  simp
theorem tails_loop (r : List Int) (i : Int) (h0 : rd (0 :: r.map (fun x => x + i)) 1 = i) (hw : ∀ t : Nat, t < r.length → wrap64 (rd r (t : Int) + i) = rd r (t : Int) + i) (hr : 1 ≤ r.length) (hr2 : r.length ≤ 1000) (d : Nat) : ∀ (k t : Nat), t ≤ r.length → r.length - t = d → d < k → vinculumlaw45_BreakerTails.l0 k (0 :: r.map (fun x => x + i)) r (t : Int) = some true := by
  have hl : (0 :: r.map (fun x => x + i)).length = r.length + 1 := by simp
  induction d with
  | zero =>
    intro k t ht hd hk
    obtain ⟨k, rfl⟩ : ∃ m, k = m + 1 := ⟨k - 1, by omega⟩
    simp only [vinculumlaw45_BreakerTails.l0]
    rw [if_neg (by omega)]
  | succ d ih =>
    intro k t ht hd hk
    obtain ⟨k, rfl⟩ : ∃ m, k = m + 1 := ⟨k - 1, by omega⟩
    simp only [vinculumlaw45_BreakerTails.l0]
    rw [if_pos (by omega), if_pos (by omega), if_pos (by rw [hl]; omega), len_succ (n := r.length) (by omega) (by omega), if_pos (by omega), if_pos (by rw [hl]; omega), h0, hw t (by omega), rd_tail r i (by omega), if_pos rfl]
    exact ih k (t + 1) (by omega) (by omega) (by omega)
theorem BreakerTails (l0 : List S) (a b c : Int) (w0 : l0.length * 24 ≤ 140737488351232 ∧ l0.length ≤ maxLen ∧ ∀ v ∈ l0, WfP v) (wa : (Lit.int .i64 a).wf = true) (wb : (Lit.int .i64 b).wf = true) (wc : (Lit.int .i64 c).wf = true) :
    ∃ k, vinculumlaw45_BreakerTails.f k l0 a b c = some true := by
  obtain ⟨hn, _, hw⟩ := w0
  obtain ⟨q0, hq0⟩ : ∃ q0, q0 = l0.length + 5000 := ⟨_, rfl⟩
  refine ⟨q0 + 1 + 1, ?_⟩
  unfold vinculumlaw45_BreakerTails.f
  rw [awake45 _ (by omega), Option.bind_some, if_pos rfl, fits45_f (by omega) a b c wa (by omega), Option.bind_some]
  by_cases hf : fits l0 a b = true
  · rw [if_pos hf]
    obtain ⟨hv, f1, f2, f3, f4⟩ := fits_iff.1 hf
    have hl := vp_len hv
    have ho := bestO_opt hf
    obtain ⟨_, j, k2, k3, k4, k6, k5⟩ := ho.2.2.2.1 0 (by omega) (by omega)
    have k6' : (re (bestO l0 a b) 0).2.1 = (j : Int) := k6
    have k5' : (re (bestO l0 a b) 0).1 = (lin l0 a b 0 j).1 + (re (bestO l0 a b) (j : Int)).1 := k5
    have step : ∀ k, breaker_problem_follow.l l0.length (fun _ i => (re (bestO l0 a b) i).2.1) (k + 1) [] 0 0 = breaker_problem_follow.l l0.length (fun _ i => (re (bestO l0 a b) i).2.1) k [0] (j : Int) (wrap64 (0 + 1)) := by
      intro k
      rw [show breaker_problem_follow.l l0.length (fun _ i => (re (bestO l0 a b) i).2.1) (k + 1) [] 0 0 = (if (0 : Int) < (l0.length : Int) then (if (0 : Int) ≤ 0 then (if ([] : List Int).length < 17592186044416 then breaker_problem_follow.l l0.length (fun _ i => (re (bestO l0 a b) i).2.1) k ([] ++ [0]) (re (bestO l0 a b) 0).2.1 (wrap64 (0 + 1)) else none) else none) else some []) from rfl, if_pos (by omega), if_pos (by omega), if_pos (by simp), k6']
      rfl
    by_cases hj : j = l0.length
    · have hs : breaker_problem_follow.l l0.length (fun _ i => (re (bestO l0 a b) i).2.1) (q0 + 1 + 1) [] 0 0 = some [0] := by
        rw [step]
        simp only [breaker_problem_follow.l]
        rw [if_neg (by omega)]
      rw [best_o hw hf (by omega) hs, Option.bind_some, if_pos rfl]
      simp only [vinculumlaw45_BreakerTails.j0]
      rw [if_neg (by simp), if_pos (by simp)]
    · have hf' := fits_drop hf (i := j) (by omega)
      have hlen : (l0.drop j).length = l0.length - j := List.length_drop
      have hw' : ∀ p ∈ l0.drop j, WfP p := fun p hp => hw p (List.mem_of_mem_drop hp)
      obtain ⟨r, r1, r2, r3⟩ := follow_drop hf k2 (by omega) (l0.length - j) 0 (by omega) (by omega)
      have hs : breaker_problem_follow.l l0.length (fun _ i => (re (bestO l0 a b) i).2.1) (q0 + 1 + 1) [] 0 0 = some (0 :: r.map (fun x => x + (j : Int))) := by
        rw [step]
        have := r2 (q0 + 1) [0] (wrap64 (0 + 1)) (by omega) (by simp; omega)
        exact this
      have hs' : breaker_problem_follow.l (l0.drop j).length (fun _ i => (re (bestO (l0.drop j) (a - b) 0) i).2.1) (q0 + 1) [] 0 0 = some r := by
        have := r3 (q0 + 1) [] 0 (by omega) (by simp; omega)
        rw [List.nil_append] at this
        exact this
      obtain ⟨r', q1, q2, q3, q4⟩ := best_f hw' hf' (makeS_opt hf') (k := q0 + 1) (by omega)
      have hbo := best_o hw' hf' (by omega) hs'
      rw [hbo] at q1
      have hrr : r = r' := (Prod.mk.inj (Option.some.inj q1)).1
      rw [← hrr] at q2 q4
      have hr1 : 1 ≤ r.length ∧ rd r 0 = 0 := by
        unfold startsB at q2
        rw [Bool.and_eq_true, decide_eq_true_eq] at q2
        cases r with
        | nil => simp at q2
        | cons x t =>
          have : x = 0 := by simpa using q2.2
          subst this
          exact ⟨by simp, rfl⟩
      have hsl : (0 :: r.map (fun x => x + (j : Int))).length = r.length + 1 := by simp
      have h01 : rd (0 :: r.map (fun x => x + (j : Int))) 1 = (j : Int) := by
        have := rd_tail r (j : Int) (t := 0) (by omega)
        rw [show ((0 + 1 : Nat) : Int) = 1 from rfl, show ((0 : Nat) : Int) = 0 from rfl, hr1.2] at this
        omega
      have hmem : ∀ t : Nat, t < r.length → 0 ≤ rd r (t : Int) ∧ rd r (t : Int) ≤ 100 := by
        intro t ht
        have key : ∀ (s : List Int) (a : Int), chain ((l0.drop j).length : Int) a s = true → ∀ x ∈ s, a < x ∧ x < ((l0.drop j).length : Int) := by
          intro s
          induction s with
          | nil => intro a _ x hx; cases hx
          | cons y s ih =>
            intro a h x hx
            rw [chain, Bool.and_eq_true, decide_eq_true_eq] at h
            cases hx with
            | head => exact h.1
            | tail _ hx => have := ih y h.2 x hx; omega
        unfold startsB at q2
        rw [Bool.and_eq_true] at q2
        have := key r _ q2.1 _ (List.getElem_mem ht)
        rw [rd_int ht]
        omega
      have hv0 := val_drop hf k2 (i := j) (by omega) 0 (by omega)
      rw [if_pos rfl, Nat.add_zero, show ((0 : Nat) : Int) = 0 from rfl] at hv0
      have hb1 := ho.2.2.2.2 j (by omega) (by omega)
      have hb2 := (bestO_opt hf').2.2.2.2 0 (by omega) (by omega)
      rw [show ((0 : Nat) : Int) = 0 from rfl] at hb2
      have hlb := lin_bd l0 a b 0 j
      have hline : lineS l0 0 (j : Int) a = ((lin l0 a b 0 j).1, 0) := by
        have e : lin l0 a b 0 j = ((lineS l0 0 (j : Int) a).1, ((lineS l0 0 (j : Int) a).2 == 0)) := by
          unfold lin
          rw [if_neg (by omega)]
          rfl
        rw [e] at k4 ⊢
        exact Prod.ext rfl (beq_iff_eq.1 k4)
      rw [best_o hw hf (by omega) hs, Option.bind_some, if_pos rfl]
      simp only [vinculumlaw45_BreakerTails.j0]
      rw [if_neg (by rw [beq_iff_eq, hsl]; omega), if_neg (by rw [hsl]; omega), if_pos (by rw [hsl]; omega), h01, if_pos (by omega), if_pos (by omega), Int.toNat_natCast, wrap_id (x := a - b) (by omega) (by omega), hbo, Option.bind_some, demLine l0 (by omega) hw _ _ _ _ (by omega), Option.bind_some, hline, if_pos rfl, if_pos rfl, if_pos (by show (r.length : Int) = _; rw [hsl, wrap_id (x := ((r.length + 1 : Nat) : Int) - 1) (by omega) (by omega)]; omega), if_pos (by omega)]
      simp only [vinculumlaw45_BreakerTails.j1]
      have htot : ((re (bestO l0 a b) 0).1 != (wrap64 ((wrap64 ((lin l0 a b 0 j).1 + (re (bestO (l0.drop j) (a - b) 0) 0).1)) + ((rd_T34 l0 (j : Int)).f2)))) = false := by
        rw [bne_eq_false_iff_eq, wrap_id (x := (lin l0 a b 0 j).1 + _) (by omega) (by omega), wrap_id (by omega) (by omega)]
        omega
      rw [htot, if_neg (by simp)]
      exact tails_loop r (j : Int) h01 (fun t ht => by have := hmem t ht; exact wrap_id (by omega) (by omega)) hr1.1 (by omega) r.length _ 0 (by omega) (by omega) (by omega)
  · rw [if_neg hf]

end Go.Proofs.Ytgickognjlapmaa.Pure
