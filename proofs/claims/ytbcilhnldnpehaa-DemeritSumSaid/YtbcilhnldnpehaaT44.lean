/- The plain law of layer 44's Total: what it comes to, in numbers and lists alone. Lemmas only. -/
import Derived.Test.YtbcilhnldnpehaaD44
import Derived.Test.YtbcilhnldnpehaaPDx6
namespace Go.Proofs.Ytbcilhnldnpehaa.D44
open Go.RowKit Go.Proofs.Ytbcilhnldnpehaa.PD Go.Proofs.YtbcilhnldnpehaaW.PrintWords Go.Proofs.YtbcilhnldnpehaaW.PrintLast Go.Proofs.YtbcilhnldnpehaaW.PrintMore
set_option linter.unusedVariables false
set_option linter.unusedSimpArgs false

/-- A list goes up from a number, below n. -/
def chain (n : Int) : Int → List Int → Bool
  | _, [] => true
  | a, x :: r => decide (a < x ∧ x < n) && chain n x r
/-- Starts of n pieces. -/
def startsB (n : Int) (s : List Int) : Bool := chain n (-1) s && decide (s.head? = some 0)

theorem chain_iff {n : Int} : ∀ {s : List Int} {a : Int}, chain n a s = true ↔ (∀ x ∈ s, a < x ∧ x < n) ∧ s.Pairwise (· < ·)
  | [], a => by simp [chain]
  | x :: r, a => by
    simp only [chain, Bool.and_eq_true, decide_eq_true_eq, List.pairwise_cons, chain_iff (s := r), List.mem_cons, forall_eq_or_imp]
    constructor
    · rintro ⟨⟨h1, h2⟩, h3, h4⟩
      exact ⟨⟨⟨h1, h2⟩, fun y hy => ⟨by have := (h3 y hy).1; omega, (h3 y hy).2⟩⟩, fun y hy => (h3 y hy).1, h4⟩
    · rintro ⟨⟨h1, h2⟩, h3, h4⟩
      exact ⟨h1, fun y hy => ⟨h3 y hy, (h2 y hy).2⟩, h4⟩

theorem chain_length {n : Int} : ∀ {s : List Int} {a : Int}, chain n a s = true → (s.length : Int) ≤ max 0 (n - a - 1)
  | [], a, _ => by simp; omega
  | x :: r, a, h => by
    simp only [chain, Bool.and_eq_true, decide_eq_true_eq] at h
    have ih := chain_length h.2
    simp only [List.length_cons]
    omega

theorem startsB_iff {n : Int} {s : List Int} : startsB n s = true ↔ (∀ x ∈ s, 0 ≤ x ∧ x < n) ∧ s.Pairwise (· < ·) ∧ s.head? = some 0 := by
  simp only [startsB, Bool.and_eq_true, chain_iff, decide_eq_true_eq, and_assoc]
  constructor
  · rintro ⟨h1, h2, h3⟩
    exact ⟨fun x hx => ⟨by have := (h1 x hx).1; omega, (h1 x hx).2⟩, h2, h3⟩
  · rintro ⟨h1, h2, h3⟩
    exact ⟨fun x hx => ⟨by have := (h1 x hx).1; omega, (h1 x hx).2⟩, h2, h3⟩
theorem startsB_length {n : Int} {s : List Int} (h : startsB n s = true) (hn : 0 ≤ n) : (s.length : Int) ≤ n := by
  simp only [startsB, Bool.and_eq_true] at h
  have := chain_length h.1
  omega

theorem proper_loop (n : Int) (s : List Int) (hs : s.length ≤ 4611686018427387904) (d : Nat) : ∀ (k i : Nat) (a : Int), i ≤ s.length → s.length - i = d → d < k →
    demerit_proper.l0 k n s a s (s.length : Int) (i : Int) = some (chain n a (s.drop i) && decide (s.head? = some 0)) := by
  induction d with
  | zero =>
    intro k i a hi hd hk
    obtain ⟨k, rfl⟩ : ∃ m, k = m + 1 := ⟨k - 1, by omega⟩
    simp only [demerit_proper.l0]
    rw [if_neg (by omega), List.drop_of_length_le (by omega)]
    simp only [chain, Bool.true_and]
    cases s with
    | nil => rfl
    | cons x r =>
      have h0 : (0 : Int) < ((x :: r).length : Int) := by rw [List.length_cons]; omega
      rw [if_pos h0, if_pos h0]
      simp [rd]
      rfl
  | succ d ih =>
    intro k i a hi hd hk
    obtain ⟨k, rfl⟩ : ∃ m, k = m + 1 := ⟨k - 1, by omega⟩
    have hlt : i < s.length := by omega
    simp only [demerit_proper.l0]
    rw [if_pos (by omega), if_pos (by omega), if_pos (by omega), rd_int hlt, len_succ hlt (by omega), ih k (i + 1) _ (by omega) (by omega) (by omega), List.drop_eq_getElem_cons hlt]
    simp only [chain]
    by_cases h1 : s[i] ≤ a
    · rw [if_pos h1, decide_eq_false (by omega), Bool.false_and, Bool.false_and]
    rw [if_neg h1]
    by_cases h2 : s[i] ≥ n
    · rw [if_pos h2, decide_eq_false (by omega), Bool.false_and, Bool.false_and]
    rw [if_neg h2, decide_eq_true (show a < s[i] ∧ s[i] < n by omega), Bool.true_and]

theorem proper_f (n : Int) (s : List Int) (hs : s.length ≤ 4611686018427387904) (k : Nat) (hk : s.length < k) : demerit_proper.f k n s = some (startsB n s) := by
  have := proper_loop n s hs s.length k 0 (-1) (by omega) (by omega) hk
  simpa [demerit_proper.f, startsB] using this

theorem starts_loop (n : Int) (s : List Int) (hs : s.length ≤ 4611686018427387904) (d : Nat) : ∀ (k i : Nat) (h0 : 0 < i) (h1 : i ≤ s.length), s.length - i = d → d < k →
    vinculumref44_Starts.l0 k n s (i : Int) = some (chain n (s[i - 1]'(by omega)) (s.drop i)) := by
  induction d with
  | zero =>
    intro k i h0 hi hd hk
    obtain ⟨k, rfl⟩ : ∃ m, k = m + 1 := ⟨k - 1, by omega⟩
    simp only [vinculumref44_Starts.l0]
    rw [if_neg (by omega)]
    rw [List.drop_of_length_le (by omega), decide_eq_true (by omega)]
    rfl
  | succ d ih =>
    intro k i h0 hi hd hk
    obtain ⟨k, rfl⟩ : ∃ m, k = m + 1 := ⟨k - 1, by omega⟩
    have hlt : i < s.length := by omega
    simp only [vinculumref44_Starts.l0]
    have e1 : wrap64 ((i : Int) - 1) = ((i - 1 : Nat) : Int) := by unfold wrap64; omega
    rw [if_pos (show (i : Int) < (s.length : Int) by omega), if_pos (show (0 : Int) ≤ i by omega), e1, rd_int hlt, rd_int (show i - 1 < s.length by omega), len_succ hlt (by omega), ih k (i + 1) (by omega) (by omega) (by omega) (by omega), List.drop_eq_getElem_cons hlt]
    simp only [chain, Nat.add_sub_cancel]
    by_cases h2 : s[i] ≥ n
    · rw [if_pos h2, decide_eq_false (by omega), Bool.false_and]
    rw [if_neg h2, if_neg (show ¬ (i : Int) = 0 by omega), if_pos (show (i : Int) > 0 by omega), if_pos (show (0 : Int) ≤ ((i - 1 : Nat) : Int) by omega), if_pos (show ((i - 1 : Nat) : Int) < (s.length : Int) by omega)]
    by_cases h1 : s[i] ≤ s[i - 1]
    · rw [if_pos h1, decide_eq_false (by omega), Bool.false_and]
    rw [if_neg h1, decide_eq_true (show s[i - 1] < s[i] ∧ s[i] < n by omega), Bool.true_and]

theorem starts_f (n : Int) (hn : 0 ≤ n) (s : List Int) (hs : s.length ≤ 4611686018427387904) (k : Nat) (hk : s.length + 1 < k) : vinculumref44_Starts.f k n s = some (startsB n s) := by
  obtain ⟨k, rfl⟩ : ∃ m, k = m + 1 := ⟨k - 1, by omega⟩
  simp only [vinculumref44_Starts.f, vinculumref44_Starts.l0, startsB]
  cases hs0 : s with
  | nil => simp [chain]
  | cons x r =>
    rw [← hs0]
    have hl : 0 < s.length := by rw [hs0]; simp
    have h0 : rd s 0 = x := by rw [hs0]; rfl
    rw [if_pos (by omega), if_pos (by omega), h0, show wrap64 (0 + 1) = ((1 : Nat) : Int) from by unfold wrap64; omega, starts_loop n s hs (s.length - 1) k 1 (by omega) (by omega) rfl (by omega)]
    have h1 : s[0]'hl = x := by subst hs0; rfl
    have h2 : s.drop 1 = r := by rw [hs0]; rfl
    simp only [Nat.sub_self, h1, h2, if_true, show ¬ ((0 : Int) > 0) by omega, if_false]
    rw [hs0]
    simp only [chain]
    by_cases c1 : x ≥ n
    · rw [if_pos c1, decide_eq_false (show ¬ (-1 < x ∧ x < n) by omega), Bool.false_and, Bool.false_and]
    rw [if_neg c1]
    by_cases c2 : x = 0
    · subst c2
      rw [if_pos rfl, decide_eq_true (show (-1 : Int) < 0 ∧ 0 < n by omega), Bool.true_and, decide_eq_true (show (0 :: r).head? = some 0 from rfl), Bool.and_true]
    · rw [if_neg c2, decide_eq_false (show ¬ (x :: r).head? = some 0 by simpa using c2), Bool.and_false]

/-- Where a line ends: at the next start, or behind all pieces. -/
def endOf (l : List S) : List Int → Int
  | [] => (l.length : Int)
  | y :: _ => y
/-- The demerits of lines from some start on: the first one for the width v, the others for v'; none if one is not legal. -/
def sumO (l : List S) (v' : Int) : Int → List Int → Option Int
  | _, [] => some 0
  | v, x :: r => if (lineS l x (endOf l r) v).2 = 0 then (sumO l v' v' r).map (fun t => (lineS l x (endOf l r) v).1 + t) else none
def pack (a : Int) : Option Int → Int × Int
  | some t => (a + t, 0)
  | none => (0, 6)

theorem lineS_bound (l : List S) (a b w : Int) : -10000 ≤ (lineS l a b w).1 ∧ (lineS l a b w).1 ≤ 700040000 := by
  unfold lineS
  by_cases h1 : vp l = true ∧ 1 ≤ w ∧ w ≤ 10000000
  · rw [if_pos h1]
    by_cases h2 : 0 ≤ a ∧ a < b ∧ b ≤ (l.length : Int)
    · rw [if_pos h2]
      by_cases h3 : legal l a.toNat b.toNat w = true
      · rw [if_pos h3]
        exact lineD_bound h1.1 (by omega) (by omega) h1.2.1 h1.2.2
      · rw [if_neg h3]; simp
    · rw [if_neg h2]; simp
  · rw [if_neg h1]; simp

theorem endOf_next (l : List S) (s : List Int) {i : Nat} (hi : i < s.length) : endOf l (s.drop (i + 1)) = if h : i + 1 < s.length then s[i + 1] else (l.length : Int) := by
  by_cases h : i + 1 < s.length
  · rw [dif_pos h, List.drop_eq_getElem_cons h]; rfl
  · rw [dif_neg h, List.drop_of_length_le (by omega)]; rfl

theorem demTotal_loop (l : List S) (hn : l.length ≤ 4611686018427387904) (hw : ∀ p ∈ l, WfP p) (s : List Int) (hs : s.length ≤ 1000) (w ind : Int) (hwi : 1 ≤ w ∧ w ≤ 10000000 ∧ 0 ≤ ind ∧ ind < w) (d : Nat) : ∀ (k i : Nat) (a : Int), i ≤ s.length → s.length - i = d → 2 * d + l.length + 10 < k →
    -10000 * (i : Int) ≤ a → a ≤ 700040000 * (i : Int) →
    demerit_Total.l0 k l s (if i = 0 then w else w - ind) ind a s (s.length : Int) (i : Int) = some (pack a (sumO l (w - ind) (if i = 0 then w else w - ind) (s.drop i))) := by
  induction d with
  | zero =>
    intro k i a hi hd hk h1 h2
    obtain ⟨k, rfl⟩ : ∃ m, k = m + 1 := ⟨k - 1, by omega⟩
    simp only [demerit_Total.l0]
    rw [if_neg (by omega), List.drop_of_length_le (by omega)]
    simp [sumO, pack]
  | succ d ih =>
    intro k i a hi hd hk h1 h2
    obtain ⟨k, rfl⟩ : ∃ m, k = m + 1 := ⟨k - 1, by omega⟩
    have hlt : i < s.length := by omega
    have step : ∀ e : Int, e = endOf l (s.drop (i + 1)) → demerit_Total.j2 k l s (if i = 0 then w else w - ind) ind a (i : Int) s[i] e s (s.length : Int) (i : Int) = some (pack a (sumO l (w - ind) (if i = 0 then w else w - ind) (s.drop i))) := by
      rintro e rfl
      obtain ⟨k, rfl⟩ : ∃ m, k = m + 1 := ⟨k - 1, by omega⟩
      simp only [demerit_Total.j2]
      rw [demLine l hn hw _ _ _ k (by omega), List.drop_eq_getElem_cons hlt]
      simp only [Option.bind_some, sumO]
      have hb := lineS_bound l s[i] (endOf l (s.drop (i + 1))) (if i = 0 then w else w - ind)
      by_cases hc : (lineS l s[i] (endOf l (s.drop (i + 1))) (if i = 0 then w else w - ind)).2 = 0
      · rw [if_pos hc, if_pos hc, wrap_id (x := a + _) (by omega) (by omega), len_succ hlt (by omega)]
        have ih' := ih k (i + 1) (a + (lineS l s[i] (endOf l (s.drop (i + 1))) (if i = 0 then w else w - ind)).1) (by omega) (by omega) (by omega) (by omega) (by omega)
        rw [if_neg (show ¬ i + 1 = 0 by omega)] at ih'
        have hsame : ∀ o : Option Int, pack (a + (lineS l s[i] (endOf l (s.drop (i + 1))) (if i = 0 then w else w - ind)).1) o = pack a (o.map (fun t => (lineS l s[i] (endOf l (s.drop (i + 1))) (if i = 0 then w else w - ind)).1 + t)) := by
          intro o
          cases o with
          | none => rfl
          | some t => simp only [pack, Option.map_some]; rw [Int.add_assoc]
        rw [← hsame]
        by_cases h0 : i = 0
        · subst h0
          rw [if_pos (by rfl)]
          simp only [if_true] at ih' ⊢
          rw [wrap_id (x := w - ind) (by omega) (by omega)]
          exact ih'
        · rw [if_neg (show ¬ (i : Int) = 0 by omega)]
          rw [if_neg h0] at ih' ⊢
          exact ih'
      · rw [if_neg hc, if_neg hc]
        rfl
    simp only [demerit_Total.l0]
    rw [if_pos (by omega), if_pos (by omega), if_pos (by omega), len_succ hlt (by omega), rd_int hlt]
    have he := endOf_next l s hlt
    by_cases h3 : i + 1 < s.length
    · rw [if_pos (by omega), if_pos (by omega), rd_int h3]
      rw [dif_pos h3] at he
      exact step _ he.symm
    · rw [if_neg (by omega)]
      rw [dif_neg h3] at he
      exact step _ he.symm

/-- What Total tells. -/
def totalS (l : List S) (s : List Int) (w ind : Int) : Int × Int :=
  if vp l = true ∧ 1 ≤ w ∧ w ≤ 10000000 ∧ 0 ≤ ind ∧ ind < w then if startsB (l.length : Int) s = true then pack 0 (sumO l (w - ind) w s) else (0, 4) else (0, 1)

theorem demTotal (l : List S) (hn : l.length ≤ 4611686018427387904) (hw : ∀ p ∈ l, WfP p) (s : List Int) (hs : s.length ≤ 1000) (w ind : Int) (k : Nat) (hk : 3 * s.length + l.length + 20 < k) : demerit_Total.f k l s w ind = some (totalS l s w ind) := by
  unfold demerit_Total.f totalS
  rw [demValid l hn hw k (by omega)]
  simp only [Option.bind_some]
  obtain ⟨k, rfl⟩ : ∃ m, k = m + 1 := ⟨k - 1, by omega⟩
  have hbad : demerit_Total.j0 (k + 1) l s w ind true = some (0, 1) := by simp only [demerit_Total.j0, if_true]
  have hdec : ∀ b : Bool, b = false → demerit_Total.j0 (k + 1) l s w ind b = (demerit_proper.f k (l.length : Int) s).bind fun t => (if t = true then (demerit_Total.l0 k l s w ind 0 s (s.length : Int) 0) else (some (0, 4))) := by
    intro b hb
    subst hb
    simp only [demerit_Total.j0]
    rw [if_neg (by simp)]
  by_cases h : vp l = true
  · rw [if_pos h]
    by_cases c1 : w < 1
    · rw [if_pos c1, if_neg (by omega), hbad]
    rw [if_neg c1]
    by_cases c2 : w > 10000000
    · rw [if_pos c2, if_neg (by omega), hbad]
    rw [if_neg c2]
    by_cases c3 : ind < 0
    · rw [if_pos c3, if_neg (by omega), hbad]
    rw [if_neg c3]
    by_cases c4 : ind ≥ w
    · rw [decide_eq_true c4, if_neg (by omega), hbad]
    rw [decide_eq_false c4, if_pos (show vp l = true ∧ 1 ≤ w ∧ w ≤ 10000000 ∧ 0 ≤ ind ∧ ind < w from ⟨h, by omega, by omega, by omega, by omega⟩), hdec false rfl, proper_f _ _ (by omega) k (by omega)]
    simp only [Option.bind_some]
    by_cases hst : startsB (l.length : Int) s = true
    · rw [if_pos hst, if_pos hst]
      have := demTotal_loop l hn hw s hs w ind ⟨by omega, by omega, by omega, by omega⟩ s.length k 0 0 (by omega) (by omega) (by omega) (by simp) (by simp)
      simpa using this
    · rw [if_neg hst, if_neg hst]
  · rw [if_neg h, if_neg (show ¬ (vp l = true ∧ 1 ≤ w ∧ w ≤ 10000000 ∧ 0 ≤ ind ∧ ind < w) from fun hh => h hh.1), hbad]

theorem fits_f (a b : Int) (ha : (Lit.int .i64 a).wf = true) : vinculumref44_Fits.f a b = some (decide (1 ≤ a ∧ a ≤ 10000000 ∧ 0 ≤ b ∧ b < a)) := by
  unfold vinculumref44_Fits.f
  rw [wf64] at ha
  rw [within_f]
  simp only [Option.bind_some]
  by_cases h : 1 ≤ a ∧ a ≤ 10000000
  · rw [decide_eq_true h, if_pos rfl, within_f, wrap_id (by omega) (by omega)]
    simp only [Option.bind_some, Option.some.injEq]
    rw [Bool.eq_iff_iff, decide_eq_true_eq, decide_eq_true_eq]
    omega
  · rw [decide_eq_false h, if_neg (by simp), decide_eq_false (by omega)]

theorem refTotal_loop (l : List S) (hn : l.length ≤ 4611686018427387904) (s : List Int) (hs : s.length ≤ 1000) (hsw : ∀ x ∈ s, (Lit.int .i64 x).wf = true) (w ind : Int) (hwi : 1 ≤ w ∧ w ≤ 10000000 ∧ 0 ≤ ind ∧ ind < w) (d : Nat) : ∀ (k i : Nat) (a : Int), i ≤ s.length → s.length - i = d → 2 * d + l.length + 10 < k →
    -10000 * (i : Int) ≤ a → a ≤ 700040000 * (i : Int) →
    vinculumref44_Total.l0 k l s w ind a (i : Int) = some (pack a (sumO l (w - ind) (if i = 0 then w else w - ind) (s.drop i))) := by
  induction d with
  | zero =>
    intro k i a hi hd hk h1 h2
    obtain ⟨k, rfl⟩ : ∃ m, k = m + 1 := ⟨k - 1, by omega⟩
    simp only [vinculumref44_Total.l0]
    rw [if_neg (by omega), List.drop_of_length_le (by omega)]
    simp [sumO, pack]
  | succ d ih =>
    intro k i a hi hd hk h1 h2
    obtain ⟨k, rfl⟩ : ∃ m, k = m + 1 := ⟨k - 1, by omega⟩
    have hlt : i < s.length := by omega
    have step : ∀ e : Int, e = endOf l (s.drop (i + 1)) → vinculumref44_Total.j2 k l s w ind a (i : Int) e w = some (pack a (sumO l (w - ind) (if i = 0 then w else w - ind) (s.drop i))) := by
      rintro e rfl
      obtain ⟨k, rfl⟩ : ∃ m, k = m + 1 := ⟨k - 1, by omega⟩
      have hsame : ∀ (v : Int) (o : Option Int), pack (a + (lineS l s[i] (endOf l (s.drop (i + 1))) v).1) o = pack a (o.map (fun t => (lineS l s[i] (endOf l (s.drop (i + 1))) v).1 + t)) := by
        intro v o
        cases o with
        | none => rfl
        | some t => simp only [pack, Option.map_some]; rw [Int.add_assoc]
      simp only [vinculumref44_Total.j2]
      rw [rd_int hlt, List.drop_eq_getElem_cons hlt]
      by_cases h0 : i = 0
      · subst h0
        rw [if_neg (by simp), if_pos (by simp), if_pos (by omega), refLine l hn _ _ _ (hsw _ (List.getElem_mem hlt)) k (by omega)]
        simp only [Option.bind_some, sumO, if_true]
        have hb := lineS_bound l s[0] (endOf l (s.drop (0 + 1))) w
        by_cases hc : (lineS l s[0] (endOf l (s.drop (0 + 1))) w).2 = 0
        · rw [if_pos hc, if_pos hc, wrap_id (x := a + _) (by omega) (by omega), len_succ hlt (by omega), ih k (0 + 1) _ (by omega) (by omega) (by omega) (by omega) (by omega), hsame]
          rfl
        · rw [if_neg hc, if_neg hc]
          rfl
      · rw [if_pos (by omega), if_pos (by omega), if_pos (by omega), wrap_id (x := w - ind) (by omega) (by omega), refLine l hn _ _ _ (hsw _ (List.getElem_mem hlt)) k (by omega), if_neg h0]
        simp only [Option.bind_some, sumO]
        have hb := lineS_bound l s[i] (endOf l (s.drop (i + 1))) (w - ind)
        by_cases hc : (lineS l s[i] (endOf l (s.drop (i + 1))) (w - ind)).2 = 0
        · rw [if_pos hc, if_pos hc, wrap_id (x := a + _) (by omega) (by omega), len_succ hlt (by omega), ih k (i + 1) _ (by omega) (by omega) (by omega) (by omega) (by omega), hsame]
          rfl
        · rw [if_neg hc, if_neg hc]
          rfl
    simp only [vinculumref44_Total.l0]
    rw [if_pos (by omega), len_succ hlt (by omega)]
    have he := endOf_next l s hlt
    by_cases h3 : i + 1 < s.length
    · rw [if_pos (by omega), if_pos (by omega), rd_int h3]
      rw [dif_pos h3] at he
      exact step _ he.symm
    · rw [if_neg (by omega)]
      rw [dif_neg h3] at he
      exact step _ he.symm

theorem refTotal (l : List S) (hn : l.length ≤ 4611686018427387904) (s : List Int) (hs : s.length ≤ 1000) (hsw : ∀ x ∈ s, (Lit.int .i64 x).wf = true) (w ind : Int) (hww : (Lit.int .i64 w).wf = true) (k : Nat) (hk : 3 * s.length + l.length + 20 < k) : vinculumref44_Total.f k l s w ind = some (totalS l s w ind) := by
  unfold vinculumref44_Total.f totalS
  rw [refValid l hn k (by omega)]
  simp only [Option.bind_some]
  obtain ⟨k, rfl⟩ : ∃ m, k = m + 1 := ⟨k - 1, by omega⟩
  have hbad : vinculumref44_Total.j0 (k + 1) l s w ind true = some (0, 1) := by simp only [vinculumref44_Total.j0, if_true]
  by_cases h : vp l = true
  · rw [if_pos h, fits_f _ _ hww]
    simp only [Option.bind_some]
    by_cases hc : 1 ≤ w ∧ w ≤ 10000000 ∧ 0 ≤ ind ∧ ind < w
    · rw [decide_eq_true hc, if_pos (show vp l = true ∧ 1 ≤ w ∧ w ≤ 10000000 ∧ 0 ≤ ind ∧ ind < w from ⟨h, hc⟩)]
      simp only [vinculumref44_Total.j0, Bool.not_true]
      rw [if_neg (by simp), starts_f _ (by omega) _ (by omega) k (by omega)]
      simp only [Option.bind_some]
      by_cases hst : startsB (l.length : Int) s = true
      · rw [if_pos hst, if_pos hst]
        have := refTotal_loop l hn s hs hsw w ind hc s.length k 0 0 (by omega) (by omega) (by omega) (by simp) (by simp)
        simpa using this
      · rw [if_neg hst, if_neg hst]
    · rw [decide_eq_false hc, if_neg (show ¬ (vp l = true ∧ 1 ≤ w ∧ w ≤ 10000000 ∧ 0 ≤ ind ∧ ind < w) from fun hh => hc hh.2), Bool.not_false, hbad]
  · rw [if_neg h, if_neg (show ¬ (vp l = true ∧ 1 ≤ w ∧ w ≤ 10000000 ∧ 0 ≤ ind ∧ ind < w) from fun hh => h hh.1), hbad]
end Go.Proofs.Ytbcilhnldnpehaa.D44
