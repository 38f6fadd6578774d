/- Layer 46: what the reference's Sound and Check, and potentials, come to. Lemmas only. -/
import Derived.Test.YtliegocbkgdhcaaC46
import Derived.Test.YtliegocbkgdhcaaPGx8
import Derived.Test.YtliegocbkgdhcaaPGx9
namespace Go.Proofs.Ytliegocbkgdhcaa.M46
open Go.RowKit Go.Proofs.Ytliegocbkgdhcaa.PG Go.Proofs.Ytliegocbkgdhcaa.D44 Go.Proofs.YtliegocbkgdhcaaW.PrintWords Go.Proofs.YtliegocbkgdhcaaW.PrintLast Go.Proofs.YtliegocbkgdhcaaW.PrintMore
set_option linter.unusedVariables false
set_option linter.unusedSimpArgs false

theorem sound_l2 {l : List S} (hn : l.length ≤ 1000) (w ind : Int) (ps : List Int) (hps : ps.length = l.length + 1) {i : Nat} (hi : i < l.length) : ∀ (d k j : Nat), l.length + 1 - j = d → i < j → j ≤ l.length + 1 → l.length + 2 < k →
    vinculumref46_Sound.l2 (k + d + 1) l w ind ps (i : Int) (j : Int) = if (row l w ind i j d).any (certificate_Bound.v ps (i : Int)) = true then some false else vinculumref46_Sound.l1 k l w ind ps ((i + 1 : Nat) : Int)
  | 0, k, j, hd, hij, hj, hk => by
    simp only [vinculumref46_Sound.l2]
    rw [if_neg (by omega), row_zero, len_succ (n := l.length) hi (by omega)]
    rfl
  | d + 1, k, j, hd, hij, hj, hk => by
    have ej : wrap64 ((j : Int) + 1) = ((j + 1 : Nat) : Int) := len_succ (n := l.length + 1) (by omega) (by omega)
    have ih := sound_l2 hn w ind ps hps hi d k (j + 1) (by omega) (by omega) (by omega) hk
    obtain ⟨q, hq⟩ : ∃ q, q = k + d + 1 := ⟨_, rfl⟩
    rw [← hq] at ih
    rw [show k + (d + 1) + 1 = q + 1 by omega]
    simp only [vinculumref46_Sound.l2]
    rw [if_pos (show (j : Int) ≤ (l.length : Int) by omega), lineR hn w ind (by omega) j (by omega), Option.bind_some, ej]
    by_cases c : (lin l w ind i j).2 = true
    · rw [if_pos c, row_yes d c, List.any_cons, if_pos (show (0 : Int) ≤ (i : Int) by omega), if_pos (show (i : Int) < (ps.length : Int) by omega), if_pos (show (0 : Int) ≤ (j : Int) by omega), if_pos (show (j : Int) < (ps.length : Int) by omega)]
      by_cases c2 : rd ps (i : Int) > wrap64 ((lin l w ind i j).1 + rd ps (j : Int))
      · rw [if_pos c2, show certificate_Bound.v ps (i : Int) ((j : Int), (lin l w ind i j).1) = true from decide_eq_true c2, Bool.true_or, if_pos rfl]
      · rw [if_neg c2, show certificate_Bound.v ps (i : Int) ((j : Int), (lin l w ind i j).1) = false from decide_eq_false c2, Bool.false_or, ih]
    · rw [if_neg c, row_no d c, ih]
theorem sound_l1 {l : List S} (hn : l.length ≤ 1000) (w ind : Int) (ps : List Int) (hps : ps.length = l.length + 1) : ∀ (e k i : Nat), l.length - i = e → i ≤ l.length → l.length + 10 + e * (l.length + 4) ≤ k →
    vinculumref46_Sound.l1 k l w ind ps (i : Int) = some ((List.range' i e).all (fun i => !(row l w ind i (i + 1) (l.length - i)).any (certificate_Bound.v ps (i : Int))))
  | 0, k, i, he, hi, hk => by
    obtain ⟨k, rfl⟩ : ∃ q, k = q + 1 := ⟨k - 1, by omega⟩
    simp only [vinculumref46_Sound.l1]
    rw [if_neg (by omega)]
    rfl
  | e + 1, k, i, he, hi, hk => by
    rw [Nat.succ_mul] at hk
    obtain ⟨q, rfl⟩ : ∃ q, k = (q + (l.length - i) + 1) + 1 := ⟨k - (l.length - i) - 2, by omega⟩
    simp only [vinculumref46_Sound.l1]
    rw [if_pos (by omega), len_succ (n := l.length) (by omega) (by omega), sound_l2 hn w ind ps hps (i := i) (by omega) (l.length - i) q (i + 1) (by omega) (by omega) (by omega) (by omega), sound_l1 hn w ind ps hps e q (i + 1) (by omega) (by omega) (by omega), List.range'_succ, List.all_cons]
    cases (row l w ind i (i + 1) (l.length - i)).any (certificate_Bound.v ps (i : Int)) with
    | true => rfl
    | false => rfl
theorem sound_l0 {l : List S} (hn : l.length ≤ 1000) (w ind : Int) (ps : List Int) (hps : ps.length = l.length + 1) : ∀ (d k i : Nat), ps.length - i = d → i ≤ ps.length → l.length + 2 < k →
    vinculumref46_Sound.l0 (k + d + 1) l w ind ps (i : Int) = if (ps.drop i).all certificate_Bound.r = true then vinculumref46_Sound.l1 k l w ind ps 0 else some false
  | 0, k, i, hd, hi, hk => by
    simp only [vinculumref46_Sound.l0]
    rw [if_neg (by omega), List.drop_of_length_le (by omega)]
    rfl
  | d + 1, k, i, hd, hi, hk => by
    have hlt : i < ps.length := by omega
    have ih := sound_l0 hn w ind ps hps d k (i + 1) (by omega) (by omega) hk
    obtain ⟨q, hq⟩ : ∃ q, q = k + d + 1 := ⟨_, rfl⟩
    rw [← hq] at ih
    rw [show k + (d + 1) + 1 = q + 1 by omega]
    simp only [vinculumref46_Sound.l0]
    rw [if_pos (by omega), if_pos (by omega), len_succ (n := ps.length) hlt (by omega), ih, List.drop_eq_getElem_cons hlt, List.all_cons, rd_int hlt]
    by_cases c1 : ps[i] < -1099511627776
    · rw [if_pos c1, show certificate_Bound.r ps[i] = false from decide_eq_false (by omega), Bool.false_and, if_neg (by simp)]
    · rw [if_neg c1]
      by_cases c2 : ps[i] > 1099511627776
      · rw [if_pos c2, show certificate_Bound.r ps[i] = false from decide_eq_false (by omega), Bool.false_and, if_neg (by simp)]
      · rw [if_neg c2, show certificate_Bound.r ps[i] = true from decide_eq_true (by omega), Bool.true_and]
theorem refSound_f {l : List S} (hn : l.length ≤ 1000) (w ind : Int) (hww : (Lit.int .i64 w).wf = true) (ps : List Int) (hm : ps.length ≤ 4000) {k : Nat} (hk : l.length + 20 + ps.length + l.length * (l.length + 4) ≤ k) : vinculumref46_Sound.f k l w ind ps = some (soundS l w ind ps) := by
  unfold vinculumref46_Sound.f soundS
  obtain ⟨q, rfl⟩ : ∃ q, k = (q + ps.length + 1) + 1 := ⟨k - ps.length - 2, by omega⟩
  rw [refFits_f hn w ind hww (by omega), Option.bind_some]
  have hf : vinculumref46_Sound.j0 (q + ps.length + 1 + 1) l w ind ps true = some false := by simp only [vinculumref46_Sound.j0, if_true]
  by_cases h : fits l w ind = true
  · rw [if_pos h, h, Bool.true_and]
    rw [len_succ (n := l.length + 1) (by omega) (by omega)]
    by_cases c1 : ps.length = l.length + 1
    · rw [if_pos (by omega), if_pos (by omega), if_pos (by omega), decide_eq_true c1, Bool.true_and]
      by_cases c2 : rd ps (l.length : Int) = 0
      · rw [show (rd ps (l.length : Int) != 0) = false from by rw [c2]; rfl, decide_eq_true c2, Bool.true_and]
        simp only [vinculumref46_Sound.j0]
        have h0 := sound_l0 hn w ind ps c1 ps.length q 0 (by omega) (by omega) (by omega)
        rw [show ((0 : Nat) : Int) = 0 from rfl, List.drop_zero] at h0
        have h1 := sound_l1 hn w ind ps c1 l.length q 0 (by omega) (by omega) (by omega)
        rw [show ((0 : Nat) : Int) = 0 from rfl] at h1
        rw [if_neg (by simp), h0, h1]
        by_cases c3 : ps.all certificate_Bound.r = true
        · rw [if_pos c3, c3, Bool.true_and]
        · rw [if_neg c3, Bool.not_eq_true _ |>.mp c3, Bool.false_and]
      · rw [show (rd ps (l.length : Int) != 0) = true from bne_iff_ne.2 c2, hf, decide_eq_false c2, Bool.false_and]
    · rw [if_neg (by omega), hf, decide_eq_false c1, Bool.false_and]
  · rw [if_neg h, hf, Bool.not_eq_true _ |>.mp h, Bool.false_and]

theorem starts_loop (n : Int) (s : List Int) (hs : s.length ≤ 4611686018427387904) (d : Nat) : ∀ (k i : Nat) (h0 : 0 < i) (h1 : i ≤ s.length), s.length - i = d → d < k →
    vinculumref44_Starts.l0 k n s (i : Int) = some (chain n (s[i - 1]'(by omega)) (s.drop i)) := by
  induction d with
  | zero =>
    intro k i h0 hi hd hk
    obtain ⟨k, rfl⟩ : ∃ m, k = m + 1 := ⟨k - 1, by omega⟩
    simp only [vinculumref44_Starts.l0]
    rw [if_neg (by omega)]
    rw [List.drop_of_length_le (by omega), decide_eq_true (by omega)]
    rfl
  | succ d ih =>
    intro k i h0 hi hd hk
    obtain ⟨k, rfl⟩ : ∃ m, k = m + 1 := ⟨k - 1, by omega⟩
    have hlt : i < s.length := by omega
    simp only [vinculumref44_Starts.l0]
    have e1 : wrap64 ((i : Int) - 1) = ((i - 1 : Nat) : Int) := by unfold wrap64; omega
    rw [if_pos (show (i : Int) < (s.length : Int) by omega), if_pos (show (0 : Int) ≤ i by omega), e1, rd_int hlt, rd_int (show i - 1 < s.length by omega), len_succ hlt (by omega), ih k (i + 1) (by omega) (by omega) (by omega) (by omega), List.drop_eq_getElem_cons hlt]
    simp only [chain, Nat.add_sub_cancel]
    by_cases h2 : s[i] ≥ n
    · rw [if_pos h2, decide_eq_false (by omega), Bool.false_and]
    rw [if_neg h2, if_neg (show ¬ (i : Int) = 0 by omega), if_pos (show (i : Int) > 0 by omega), if_pos (show (0 : Int) ≤ ((i - 1 : Nat) : Int) by omega), if_pos (show ((i - 1 : Nat) : Int) < (s.length : Int) by omega)]
    by_cases h1 : s[i] ≤ s[i - 1]
    · rw [if_pos h1, decide_eq_false (by omega), Bool.false_and]
    rw [if_neg h1, decide_eq_true (show s[i - 1] < s[i] ∧ s[i] < n by omega), Bool.true_and]

theorem starts_f (n : Int) (hn : 0 ≤ n) (s : List Int) (hs : s.length ≤ 4611686018427387904) (k : Nat) (hk : s.length + 1 < k) : vinculumref44_Starts.f k n s = some (startsB n s) := by
  obtain ⟨k, rfl⟩ : ∃ m, k = m + 1 := ⟨k - 1, by omega⟩
  simp only [vinculumref44_Starts.f, vinculumref44_Starts.l0, startsB]
  cases hs0 : s with
  | nil => simp [chain]
  | cons x r =>
    rw [← hs0]
    have hl : 0 < s.length := by rw [hs0]; simp
    have h0 : rd s 0 = x := by rw [hs0]; rfl
    rw [if_pos (by omega), if_pos (by omega), h0, show wrap64 (0 + 1) = ((1 : Nat) : Int) from by unfold wrap64; omega, starts_loop n s hs (s.length - 1) k 1 (by omega) (by omega) rfl (by omega)]
    have h1 : s[0]'hl = x := by subst hs0; rfl
    have h2 : s.drop 1 = r := by rw [hs0]; rfl
    simp only [Nat.sub_self, h1, h2, if_true, show ¬ ((0 : Int) > 0) by omega, if_false]
    rw [hs0]
    simp only [chain]
    by_cases c1 : x ≥ n
    · rw [if_pos c1, decide_eq_false (show ¬ (-1 < x ∧ x < n) by omega), Bool.false_and, Bool.false_and]
    rw [if_neg c1]
    by_cases c2 : x = 0
    · subst c2
      rw [if_pos rfl, decide_eq_true (show (-1 : Int) < 0 ∧ 0 < n by omega), Bool.true_and, decide_eq_true (show (0 :: r).head? = some 0 from rfl), Bool.and_true]
    · rw [if_neg c2, decide_eq_false (show ¬ (x :: r).head? = some 0 by simpa using c2), Bool.and_false]
theorem startsB_iff {n : Int} {s : List Int} : startsB n s = true → ∀ x ∈ s, 0 ≤ x ∧ x < n := by
  have key : ∀ (s : List Int) (a : Int), chain n a s = true → ∀ x ∈ s, a < x ∧ x < n := by
    intro s
    induction s with
    | nil => intro a _ x hx; cases hx
    | cons y r ih =>
      intro a h x hx
      rw [chain, Bool.and_eq_true, decide_eq_true_eq] at h
      cases hx with
      | head => exact h.1
      | tail _ hx => have := ih y h.2 x hx; omega
  intro h x hx
  unfold startsB at h
  rw [Bool.and_eq_true] at h
  have := key s _ h.1 x hx
  omega
theorem lineR' {l : List S} (hn : l.length ≤ 1000) (w ind : Int) {i j : Int} (hi : 0 ≤ i) (hi2 : i ≤ 1000) (hj : 0 ≤ j) {k : Nat} (hk : l.length + 2 < k) : vinculumref46_Line.f k l w ind i j = some (lin l w ind i.toNat j.toNat) := by
  rw [← lineR hn w ind (i := i.toNat) (by omega) j.toNat hk, Int.toNat_of_nonneg hi, Int.toNat_of_nonneg hj]
theorem refCheck_loop {l : List S} (hn : l.length ≤ 1000) (w ind : Int) (s ps : List Int) (hps : ps.length = l.length + 1) (hs : s.length ≤ 4611686018427387904) (hin : ∀ x ∈ s, 0 ≤ x ∧ x < (l.length : Int)) (d : Nat) : ∀ (k i : Nat), i ≤ s.length → s.length - i = d → l.length + 10 + d ≤ k →
    vinculumref46_Check.l0 k l w ind s ps (i : Int) = some (tight l w ind ps (s.drop i)) := by
  induction d with
  | zero =>
    intro k i hi hd hk
    obtain ⟨k, rfl⟩ : ∃ m, k = m + 1 := ⟨k - 1, by omega⟩
    simp only [vinculumref46_Check.l0]
    rw [if_neg (by omega), List.drop_of_length_le (by omega)]
    rfl
  | succ d ih =>
    intro k i hi hd hk
    obtain ⟨k, rfl⟩ : ∃ m, k = m + 1 := ⟨k - 1, by omega⟩
    have hlt : i < s.length := by omega
    have hx := hin _ (List.getElem_mem hlt)
    have ih' := ih k (i + 1) (by omega) (by omega) (by omega)
    have he := endOf_next l s hlt
    simp only [vinculumref46_Check.l0]
    rw [if_pos (by omega), len_succ hlt (by omega), rd_int hlt, ih', List.drop_eq_getElem_cons hlt]
    simp only [tight]
    by_cases h3 : i + 1 < s.length
    · rw [dif_pos h3] at he
      have hy := hin _ (List.getElem_mem h3)
      rw [he, if_pos (by omega), if_pos (by omega), if_pos (by omega), rd_int h3, lineR' hn w ind hx.1 (by omega) hy.1 (by omega), Option.bind_some]
      by_cases c3 : (lin l w ind s[i].toNat s[i + 1].toNat).2 = true
      · rw [if_pos c3, if_pos hx.1, if_pos (show s[i] < (ps.length : Int) by omega), if_pos hy.1, if_pos (show s[i + 1] < (ps.length : Int) by omega), c3, Bool.true_and]
        by_cases c4 : rd ps s[i] = wrap64 ((lin l w ind s[i].toNat s[i + 1].toNat).1 + rd ps s[i + 1])
        · rw [if_pos c4, decide_eq_true c4, Bool.true_and]
        · rw [if_neg c4, decide_eq_false c4, Bool.false_and]
      · rw [if_neg c3, Bool.not_eq_true _ |>.mp c3, Bool.false_and, Bool.false_and]
    · rw [dif_neg h3] at he
      rw [he, if_neg (by omega), if_pos (by omega), lineR' hn w ind hx.1 (by omega) (by omega) (by omega), Option.bind_some]
      by_cases c3 : (lin l w ind s[i].toNat (l.length : Int).toNat).2 = true
      · rw [if_pos c3, if_pos hx.1, if_pos (show s[i] < (ps.length : Int) by omega), if_pos (by omega), if_pos (show (l.length : Int) < (ps.length : Int) by omega), c3, Bool.true_and]
        by_cases c4 : rd ps s[i] = wrap64 ((lin l w ind s[i].toNat (l.length : Int).toNat).1 + rd ps (l.length : Int))
        · rw [if_pos c4, decide_eq_true c4, Bool.true_and]
        · rw [if_neg c4, decide_eq_false c4, Bool.false_and]
      · rw [if_neg c3, Bool.not_eq_true _ |>.mp c3, Bool.false_and, Bool.false_and]
theorem refCheck_f {l : List S} (hn : l.length ≤ 1000) (w ind : Int) (hww : (Lit.int .i64 w).wf = true) (s ps : List Int) (hm : ps.length ≤ 4000) (hs : s.length ≤ 1000) {k : Nat} (hk : l.length + 40 + s.length + ps.length + l.length * (l.length + 4) ≤ k) : vinculumref46_Check.f k l w ind s ps = some (checkS l w ind s ps) := by
  unfold vinculumref46_Check.f checkS
  obtain ⟨k, rfl⟩ : ∃ m, k = m + 1 := ⟨k - 1, by omega⟩
  rw [refSound_f hn w ind hww ps hm (by omega), Option.bind_some]
  by_cases h : soundS l w ind ps = true
  · rw [if_pos h, starts_f _ (by omega) s (by omega) _ (by omega), Option.bind_some, h, Bool.true_and]
    simp only [vinculumref46_Check.j0]
    by_cases c : startsB (l.length : Int) s = true
    · have := refCheck_loop hn w ind s ps (sound_len h) (by omega) (startsB_iff c) s.length k 0 (by omega) (by omega) (by omega)
      rw [show ((0 : Nat) : Int) = 0 from rfl, List.drop_zero] at this
      rw [c, if_neg (by simp), this, Bool.true_and]
    · rw [Bool.not_eq_true _ |>.mp c, if_pos (by rfl), Bool.false_and]
  · rw [if_neg h, Bool.not_eq_true _ |>.mp h, Bool.false_and]
    simp only [vinculumref46_Check.j0, if_true]
end Go.Proofs.Ytliegocbkgdhcaa.M46
