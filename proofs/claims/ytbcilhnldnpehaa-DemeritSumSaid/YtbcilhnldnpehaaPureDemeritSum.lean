/- DemeritSum: the demerits of starts that bits pick are the sum of the demerits of their lines, or one of the lines is not legal. -/
import Derived.Test.YtbcilhnldnpehaaT44
import Derived.Test.YtbcilhnldnpehaaPDx7
namespace Go.Proofs.Ytbcilhnldnpehaa.Pure
set_option linter.unusedVariables false
set_option linter.unusedSimpArgs false
open Go.RowKit Go.Proofs.Ytbcilhnldnpehaa.PD Go.Proofs.Ytbcilhnldnpehaa.D44 Go.Proofs.YtbcilhnldnpehaaW.PrintWords

theorem awake44 (k : Nat) (hk : 10 ≤ k) : vinculumlaw44_awake.f k = some true := at_rounds vinculumlaw44_awake.mono hk (by decide +kernel)

/-- The sum of the lines' demerits, a line that is not legal counted 0; and whether all are legal. -/
def sumL (l : List S) (v' : Int) : Int → List Int → Int
  | _, [] => 0
  | v, x :: r => (lineS l x (endOf l r) v).1 + sumL l v' v' r
def legalL (l : List S) (v' : Int) : Int → List Int → Bool
  | _, [] => true
  | v, x :: r => decide ((lineS l x (endOf l r) v).2 = 0) && legalL l v' v' r
theorem sumO_eq (l : List S) (v' : Int) : ∀ (s : List Int) (v : Int), sumO l v' v s = if legalL l v' v s = true then some (sumL l v' v s) else none
  | [], v => rfl
  | x :: r, v => by
    have ih := sumO_eq l v' r v'
    have e : legalL l v' v (x :: r) = (decide ((lineS l x (endOf l r) v).2 = 0) && legalL l v' v' r) := rfl
    have e1 : sumO l v' v (x :: r) = if (lineS l x (endOf l r) v).2 = 0 then (sumO l v' v' r).map (fun t => (lineS l x (endOf l r) v).1 + t) else none := rfl
    rw [e1, ih]
    by_cases h : (lineS l x (endOf l r) v).2 = 0
    · rw [if_pos h]
      by_cases h2 : legalL l v' v' r = true
      · rw [if_pos h2, if_pos (show legalL l v' v (x :: r) = true by rw [e, decide_eq_true h, h2]; rfl)]
        rfl
      · rw [if_neg h2, if_neg (show ¬ legalL l v' v (x :: r) = true by rw [e, decide_eq_true h, Bool.true_and]; exact h2)]
        rfl
    · rw [if_neg h, if_neg (show ¬ legalL l v' v (x :: r) = true by rw [e, decide_eq_false h]; simp)]

theorem l1_loop (l : List S) (hl : l.length ≤ 64) (hw : ∀ p ∈ l, WfP p) (s : List Int) (hs : s.length ≤ 64) (a b w ind : Int) (hwi : 1 ≤ w ∧ w ≤ 10000000 ∧ 0 ≤ ind ∧ ind < w) (d : Nat) : ∀ (k i : Nat) (q : Int) (g : Bool), i ≤ s.length → s.length - i = d → d + 400 < k →
    -10000 * (i : Int) ≤ q → q ≤ 700040000 * (i : Int) →
    vinculumlaw44_DemeritSum.l1 k l s q g (i : Int) a b w ind =
      some (if (g && legalL l (w - ind) (if i = 0 then w else w - ind) (s.drop i)) = true then (if (totalS l s w ind).1 = q + sumL l (w - ind) (if i = 0 then w else w - ind) (s.drop i) then (totalS l s w ind).2 == 0 else false) else (if (totalS l s w ind).1 = 0 then (totalS l s w ind).2 == 6 else false)) := by
  induction d with
  | zero =>
    intro k i q g hi hd hk h1 h2
    obtain ⟨k, rfl⟩ : ∃ m, k = m + 1 := ⟨k - 1, by omega⟩
    simp only [vinculumlaw44_DemeritSum.l1]
    rw [if_neg (by omega), List.drop_of_length_le (by omega), demTotal l (by omega) hw s (by omega) w ind k (by omega)]
    simp only [Option.bind_some, legalL, sumL, Bool.and_true, Int.add_zero]
    by_cases hg : g = true
    · rw [if_pos hg, if_pos hg]
      split <;> rfl
    · rw [if_neg hg, if_neg hg]
      split <;> rfl
  | succ d ih =>
    intro k i q g hi hd hk h1 h2
    obtain ⟨k, rfl⟩ : ∃ m, k = m + 1 := ⟨k - 1, by omega⟩
    have hlt : i < s.length := by omega
    have hb := lineS_bound l s[i] (endOf l (s.drop (i + 1))) (if i = 0 then w else w - ind)
    have ih' := fun g' => ih k (i + 1) (q + (lineS l s[i] (endOf l (s.drop (i + 1))) (if i = 0 then w else w - ind)).1) g' (by omega) (by omega) (by omega) (by omega) (by omega)
    rw [if_neg (show ¬ i + 1 = 0 by omega)] at ih'
    rw [List.drop_eq_getElem_cons hlt]
    simp only [legalL, sumL]
    -- the round, for the line's end e and its width v
    have round : ∀ (e v : Int), e = endOf l (s.drop (i + 1)) → v = (if i = 0 then w else w - ind) →
        ((demerit_Line.f k l s[i] e v).bind fun bt => (if g = true then (vinculumlaw44_DemeritSum.l1 k l s (wrap64 (q + bt.1)) (bt.2 == 0) (wrap64 ((i : Int) + 1)) a b w ind) else (vinculumlaw44_DemeritSum.l1 k l s (wrap64 (q + bt.1)) false (wrap64 ((i : Int) + 1)) a b w ind))) =
        some (if (g && (decide ((lineS l s[i] (endOf l (s.drop (i + 1))) (if i = 0 then w else w - ind)).2 = 0) && legalL l (w - ind) (w - ind) (s.drop (i + 1)))) = true then (if (totalS l s w ind).1 = q + ((lineS l s[i] (endOf l (s.drop (i + 1))) (if i = 0 then w else w - ind)).1 + sumL l (w - ind) (w - ind) (s.drop (i + 1))) then (totalS l s w ind).2 == 0 else false) else (if (totalS l s w ind).1 = 0 then (totalS l s w ind).2 == 6 else false)) := by
      rintro e v rfl rfl
      rw [demLine l (by omega) hw _ _ _ k (by omega)]
      simp only [Option.bind_some]
      rw [wrap_id (x := q + _) (by omega) (by omega), len_succ hlt (by omega)]
      by_cases hg : g = true
      · subst hg
        rw [if_pos rfl, ih', Int.add_assoc, Bool.true_and]
        rfl
      · rw [if_neg hg, ih', Bool.not_eq_true g |>.mp hg, Bool.false_and, Bool.false_and]
        rfl
    have he := endOf_next l s hlt
    simp only [vinculumlaw44_DemeritSum.l1]
    rw [if_pos (show (i : Int) < (s.length : Int) by omega), len_succ hlt (by omega)]
    rw [len_succ hlt (by omega)] at round
    by_cases h3 : i + 1 < s.length
    · rw [dif_pos h3] at he
      rw [if_pos (show ((i + 1 : Nat) : Int) < (s.length : Int) by omega), if_pos (show (0 : Int) ≤ ((i + 1 : Nat) : Int) by omega), rd_int hlt, rd_int h3]
      by_cases h0 : i = 0
      · rw [if_neg (show ¬ (i : Int) > 0 by omega), if_pos (show (0 : Int) ≤ (i : Int) by omega)]
        exact round _ _ he.symm (by rw [if_pos h0])
      · rw [if_pos (show (i : Int) > 0 by omega), if_pos (show (0 : Int) ≤ (i : Int) by omega), wrap_id (x := w - ind) (by omega) (by omega)]
        exact round _ _ he.symm (by rw [if_neg h0])
    · rw [dif_neg h3] at he
      rw [if_neg (show ¬ ((i + 1 : Nat) : Int) < (s.length : Int) by omega), rd_int hlt]
      by_cases h0 : i = 0
      · rw [if_neg (show ¬ (i : Int) > 0 by omega), if_pos (show (0 : Int) ≤ (i : Int) by omega)]
        exact round _ _ he.symm (by rw [if_pos h0])
      · rw [if_pos (show (i : Int) > 0 by omega), if_pos (show (0 : Int) ≤ (i : Int) by omega), wrap_id (x := w - ind) (by omega) (by omega)]
        exact round _ _ he.symm (by rw [if_neg h0])

/-- Any starts: the law holds of them. -/
theorem l1_true (l : List S) (h : vp l = true) (hw : ∀ p ∈ l, WfP p) (s : List Int) (hs : startsB (l.length : Int) s = true) (a b w ind : Int) (hwi : 1 ≤ w ∧ w ≤ 10000000 ∧ 0 ≤ ind ∧ ind < w) (k : Nat) (hk : 500 < k) :
    vinculumlaw44_DemeritSum.l1 k l s 0 true 0 a b w ind = some true := by
  have hl := vp_len h
  have hsl := startsB_length hs (by omega)
  have e := l1_loop l hl.2 hw s (by omega) a b w ind hwi s.length k 0 0 true (by omega) (by omega) (by omega) (by simp) (by simp)
  rw [show ((0 : Nat) : Int) = 0 from rfl] at e
  rw [e]
  simp only [if_true, List.drop_zero, Bool.true_and, Int.zero_add]
  have ht : totalS l s w ind = pack 0 (sumO l (w - ind) w s) := by
    unfold totalS
    rw [if_pos ⟨h, hwi⟩, if_pos hs]
  rw [ht, sumO_eq]
  by_cases hg : legalL l (w - ind) w s = true
  · rw [if_pos hg, if_pos hg]
    simp [pack]
  · rw [if_neg hg, if_neg hg]
    simp [pack]

theorem l0_loop (l : List S) (h : vp l = true) (hw : ∀ p ∈ l, WfP p) (bits : List Bool) (a b w ind : Int) (hwi : 1 ≤ w ∧ w ≤ 10000000 ∧ 0 ≤ ind ∧ ind < w) (d : Nat) : ∀ (k i : Nat) (s : List Int), 1 ≤ i → i ≤ l.length → l.length - i = d → 2 * d + 510 < k →
    startsB (l.length : Int) s = true → (∀ x ∈ s, x < (i : Int)) →
    vinculumlaw44_DemeritSum.l0 k l bits s (i : Int) a b w ind = some true := by
  have hl := vp_len h
  induction d with
  | zero =>
    intro k i s h1 hi hd hk hs hx
    obtain ⟨k, rfl⟩ : ∃ m, k = m + 1 := ⟨k - 1, by omega⟩
    obtain ⟨k, rfl⟩ : ∃ m, k = m + 1 := ⟨k - 1, by omega⟩
    simp only [vinculumlaw44_DemeritSum.l0, vinculumlaw44_DemeritSum.j2]
    rw [if_neg (by omega), if_neg (by simp)]
    exact l1_true l h hw s hs a b w ind hwi k (by omega)
  | succ d ih =>
    intro k i s h1 hi hd hk hs hx
    obtain ⟨k, rfl⟩ : ∃ m, k = m + 1 := ⟨k - 1, by omega⟩
    obtain ⟨k, rfl⟩ : ∃ m, k = m + 1 := ⟨k - 1, by omega⟩
    simp only [vinculumlaw44_DemeritSum.l0, vinculumlaw44_DemeritSum.j2]
    rw [if_pos (by omega)]
    by_cases hb : (i : Int) < (bits.length : Int)
    · rw [decide_eq_true hb, if_pos rfl, if_pos (show (0 : Int) ≤ (i : Int) by omega), if_pos hb]
      have hsl := startsB_length hs (by omega)
      rw [len_succ (n := l.length) (by omega) (by omega)]
      by_cases hr : rdOf false bits (i : Int) = true
      · rw [if_pos hr, if_pos (by omega)]
        refine ih k (i + 1) _ (by omega) (by omega) (by omega) (by omega) ?_ ?_
        · rw [startsB_iff] at hs ⊢
          obtain ⟨q1, q2, q3⟩ := hs
          refine ⟨fun x hx' => ?_, ?_, ?_⟩
          · rcases List.mem_append.1 hx' with hx' | hx'
            · exact q1 x hx'
            · obtain rfl := List.mem_singleton.1 hx'
              omega
          · rw [List.pairwise_append]
            exact ⟨q2, by simp, fun x hx' y hy => by obtain rfl := List.mem_singleton.1 hy; exact hx x hx'⟩
          · cases s with
            | nil => simp at q3
            | cons x r => simpa using q3
        · intro x hx'
          rcases List.mem_append.1 hx' with hx' | hx'
          · have := hx x hx'
            omega
          · obtain rfl := List.mem_singleton.1 hx'
            omega
      · rw [if_neg hr]
        exact ih k (i + 1) s (by omega) (by omega) (by omega) (by omega) hs (fun x hx' => by have := hx x hx'; omega)
    · rw [decide_eq_false hb, if_neg (by simp)]
      exact l1_true l h hw s hs a b w ind hwi k (by omega)

theorem DemeritSum (l0 : List S) (l1 : List Bool) (a b c d : Int) (w0 : l0.length * 24 ≤ 140737488351232 ∧ l0.length ≤ maxLen ∧ ∀ v ∈ l0, WfP v) (w1 : l1.length * 1 ≤ 140737488351232 ∧ l1.length ≤ maxLen ∧ ∀ v ∈ l1, True) (wa : (Lit.int .i64 a).wf = true) (wb : (Lit.int .i64 b).wf = true) (wc : (Lit.int .i64 c).wf = true) (wd : (Lit.int .i64 d).wf = true) :
    ∃ k, vinculumlaw44_DemeritSum.f k l0 l1 a b c d = some true := by
  obtain ⟨hn, _, hw⟩ := w0
  refine ⟨2 * l0.length + 1000, ?_⟩
  unfold vinculumlaw44_DemeritSum.f
  rw [awake44 _ (by omega), refValid l0 (by omega) _ (by omega), fits_f _ _ wc]
  simp only [Option.bind_some, if_true]
  obtain ⟨k, hk⟩ : ∃ k, 2 * l0.length + 1000 = k + 1 := ⟨2 * l0.length + 999, rfl⟩
  rw [hk]
  have ht : vinculumlaw44_DemeritSum.j0 (k + 1) l0 l1 true a b c d = some true := by simp only [vinculumlaw44_DemeritSum.j0, if_true]
  by_cases h : vp l0 = true
  · rw [if_pos h]
    by_cases hf : 1 ≤ c ∧ c ≤ 10000000 ∧ 0 ≤ d ∧ d < c
    · rw [decide_eq_true hf, Bool.not_true]
      simp only [vinculumlaw44_DemeritSum.j0]
      have hl := vp_len h
      rw [if_neg (by simp)]
      exact l0_loop l0 h hw l1 a b c d hf (l0.length - 1) k 1 [0] (by omega) (by omega) rfl (by omega) (by rw [startsB_iff]; exact ⟨fun x hx => by obtain rfl := List.mem_singleton.1 hx; omega, by simp, rfl⟩) (fun x hx => by obtain rfl := List.mem_singleton.1 hx; omega)
    · rw [decide_eq_false hf, Bool.not_false]
      exact ht
  · rw [if_neg h]
    exact ht

end Go.Proofs.Ytbcilhnldnpehaa.Pure
