/- breaker.Best of the pieces from some piece on. Lemmas only. -/
import Derived.Test.YtgickognjlapmaaT45
import Derived.Test.YtgickognjlapmaaR46
namespace Go.Proofs.Ytgickognjlapmaa.M46
open Go.RowKit Go.Proofs.Ytgickognjlapmaa.PW Go.Proofs.Ytgickognjlapmaa.D44 Go.Proofs.YtgickognjlapmaaW.PrintWords Go.Proofs.YtgickognjlapmaaW.PrintLast Go.Proofs.YtgickognjlapmaaW.PrintMore
set_option linter.unusedVariables false
set_option linter.unusedSimpArgs false

/-- The demerits from i + x on are those of the pieces from i on. -/
theorem val_drop {l : List S} {w ind : Int} (hf : fits l w ind = true) {i : Nat} (hi : 0 < i) (hi2 : i < l.length) (x : Nat) (hx : x ≤ l.length - i) :
    (re (bestO l w ind) ((i + x : Nat) : Int)).1 - (if x = 0 then (rd_T34 l (i : Int)).f2 else 0) = (re (bestO (l.drop i) (w - ind) 0) (x : Int)).1 := by
  have hlen : (l.drop i).length = l.length - i := List.length_drop
  have hf' := fits_drop hf hi2
  have h := opt_drop_all hf (makeS_opt hf) hi hi2 (makeS_opt hf') x hx
  rw [best_least (bestO_opt hf) (makeS_opt hf) (by omega), best_least (bestO_opt hf') (makeS_opt hf') (by omega)]
  exact h
theorem next_drop {l : List S} {w ind : Int} (hf : fits l w ind = true) {i : Nat} (hi : 0 < i) (hi2 : i < l.length) (x : Nat) (hx : x < l.length - i) :
    ∃ y : Nat, x < y ∧ y ≤ l.length - i ∧ (re (bestO (l.drop i) (w - ind) 0) (x : Int)).2.1 = (y : Int) ∧ (re (bestO l w ind) ((i + x : Nat) : Int)).2.1 = ((i + y : Nat) : Int) := by
  have hlen : (l.drop i).length = l.length - i := List.length_drop
  have hf' := fits_drop hf hi2
  obtain ⟨_, j, a2, a3, a4, a6, a5⟩ := (bestO_opt hf).2.2.2.1 (i + x) (by omega) (by omega)
  obtain ⟨_, y, b2, b3, b4, b6, b5⟩ := (bestO_opt hf').2.2.2.1 x (by omega) (by omega)
  have ta := bestO_tb hf (i + x) (by omega) (by omega)
  have tb := bestO_tb hf' x (by omega) (by omega)
  rw [a6, Int.toNat_natCast] at ta
  rw [b6, Int.toNat_natCast] at tb
  rw [hlen] at b3 tb
  refine ⟨y, b2, b3, b6, ?_⟩
  rw [a6]
  obtain ⟨c1, c2⟩ := lin_drop hf hi b2 (show i + y ≤ l.length by omega)
  obtain ⟨d1, d2⟩ := lin_drop hf hi (show x < j - i by omega) (show i + (j - i) ≤ l.length by omega)
  rw [show i + (j - i) = j by omega] at d1 d2
  have c2' := c2 (by rw [c1]; exact b4)
  have d2' := d2 a4
  have vx := val_drop hf hi hi2 x (by omega)
  have vy := val_drop hf hi hi2 y (by omega)
  have vj := val_drop hf hi hi2 (j - i) (by omega)
  rw [if_neg (by omega)] at vy vj
  rw [show i + (j - i) = j by omega] at vj
  have t1 := ta (i + y) (by omega) (by omega) (by rw [c1]; exact b4)
  have t2 := tb (j - i) (by omega) (by omega) (by rw [← d1]; exact a4)
  unfold key at t1 t2
  by_cases e1 : i + y = l.length
  · by_cases e2 : j = l.length
    · omega
    · rw [if_pos e1, if_neg e2] at t1
      have := t1 (by omega)
      omega
  · rw [if_neg e1] at t1
    by_cases e2 : j = l.length
    · rw [if_pos (show j - i = l.length - i by omega), if_neg (show ¬ y = l.length - i by omega)] at t2
      have := t2 (by omega)
      omega
    · rw [if_neg e2] at t1
      rw [if_neg (show ¬ j - i = l.length - i by omega), if_neg (show ¬ y = l.length - i by omega)] at t2
      by_cases e3 : i + y < j
      · have := t1 e3
        omega
      · by_cases e4 : j < i + y
        · have := t2 (by omega)
          omega
        · omega
/-- The starts behind i are those of the pieces from i on, moved by i. -/
theorem follow_drop {l : List S} {w ind : Int} (hf : fits l w ind = true) {i : Nat} (hi : 0 < i) (hi2 : i < l.length) : ∀ (d x : Nat), l.length - i - x = d → x ≤ l.length - i →
    ∃ s : List Int, s.length ≤ d ∧ (∀ k acc ln, d < k → acc.length + d ≤ 1000 → breaker_problem_follow.l l.length (fun _ i => (re (bestO l w ind) i).2.1) k acc ((i + x : Nat) : Int) ln = some (acc ++ s.map (fun t => t + (i : Int)))) ∧
      (∀ k acc ln, d < k → acc.length + d ≤ 1000 → breaker_problem_follow.l (l.drop i).length (fun _ j => (re (bestO (l.drop i) (w - ind) 0) j).2.1) k acc (x : Int) ln = some (acc ++ s)) := by
  have hlen : (l.drop i).length = l.length - i := List.length_drop
  have hn := vp_len (fits_iff.1 hf).1
  intro d
  induction d using Nat.strongRecOn with
  | ind d ih =>
    intro x hd hx
    by_cases e : x = l.length - i
    · refine ⟨[], by simp, fun k acc ln hk hacc => ?_, fun k acc ln hk hacc => ?_⟩
      · obtain ⟨k, rfl⟩ : ∃ q, k = q + 1 := ⟨k - 1, by omega⟩
        simp only [breaker_problem_follow.l]
        rw [if_neg (by omega)]
        simp
      · obtain ⟨k, rfl⟩ : ∃ q, k = q + 1 := ⟨k - 1, by omega⟩
        simp only [breaker_problem_follow.l]
        rw [if_neg (by omega)]
        simp
    · obtain ⟨y, y1, y2, y3, y4⟩ := next_drop hf hi hi2 x (by omega)
      obtain ⟨s, s1, s2, s3⟩ := ih (l.length - i - y) (by omega) y rfl y2
      refine ⟨(x : Int) :: s, by rw [List.length_cons]; omega, fun k acc ln hk hacc => ?_, fun k acc ln hk hacc => ?_⟩
      · obtain ⟨k, rfl⟩ : ∃ q, k = q + 1 := ⟨k - 1, by omega⟩
        simp only [breaker_problem_follow.l]
        rw [if_pos (by omega), if_pos (by omega), if_pos (by omega), y4, s2 k _ _ (by omega) (by rw [List.length_append, List.length_singleton]; omega), List.append_assoc, List.map_cons, show ((i + x : Nat) : Int) = (x : Int) + (i : Int) by omega]
        rfl
      · obtain ⟨k, rfl⟩ : ∃ q, k = q + 1 := ⟨k - 1, by omega⟩
        simp only [breaker_problem_follow.l]
        rw [if_pos (by omega), if_pos (by omega), if_pos (by omega), y3, s3 k _ _ (by omega) (by rw [List.length_append, List.length_singleton]; omega), List.append_assoc]
        rfl
end Go.Proofs.Ytgickognjlapmaa.M46
