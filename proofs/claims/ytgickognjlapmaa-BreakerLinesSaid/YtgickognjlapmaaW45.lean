/- Layer 45's reference: Total, before, and the sets of starts. Lemmas only. -/
import Derived.Test.YtgickognjlapmaaO45
import Derived.Test.YtgickognjlapmaaPRx7
namespace Go.Proofs.Ytgickognjlapmaa.M46
open Go.RowKit Go.Proofs.Ytgickognjlapmaa.PR Go.Proofs.Ytgickognjlapmaa.D44 Go.Proofs.YtgickognjlapmaaW.PrintWords Go.Proofs.YtgickognjlapmaaW.PrintLast Go.Proofs.YtgickognjlapmaaW.PrintMore
set_option linter.unusedVariables false
set_option linter.unusedSimpArgs false

theorem chain_iff {n : Int} : ∀ {s : List Int} {a : Int}, chain n a s = true ↔ (∀ x ∈ s, a < x ∧ x < n) ∧ s.Pairwise (· < ·)
  | [], a => by simp [chain]
  | x :: r, a => by
    simp only [chain, Bool.and_eq_true, decide_eq_true_eq, List.pairwise_cons, chain_iff (s := r), List.mem_cons, forall_eq_or_imp]
    constructor
    · rintro ⟨⟨h1, h2⟩, h3, h4⟩
      exact ⟨⟨⟨h1, h2⟩, fun y hy => ⟨by have := (h3 y hy).1; omega, (h3 y hy).2⟩⟩, fun y hy => (h3 y hy).1, h4⟩
    · rintro ⟨⟨h1, h2⟩, h3, h4⟩
      exact ⟨h1, fun y hy => ⟨h3 y hy, (h2 y hy).2⟩, h4⟩

theorem chain_length {n : Int} : ∀ {s : List Int} {a : Int}, chain n a s = true → (s.length : Int) ≤ max 0 (n - a - 1)
  | [], a, _ => by simp; omega
  | x :: r, a, h => by
    simp only [chain, Bool.and_eq_true, decide_eq_true_eq] at h
    have ih := chain_length h.2
    simp only [List.length_cons]
    omega

theorem startsB_iff {n : Int} {s : List Int} : startsB n s = true ↔ (∀ x ∈ s, 0 ≤ x ∧ x < n) ∧ s.Pairwise (· < ·) ∧ s.head? = some 0 := by
  simp only [startsB, Bool.and_eq_true, chain_iff, decide_eq_true_eq, and_assoc]
  constructor
  · rintro ⟨h1, h2, h3⟩
    exact ⟨fun x hx => ⟨by have := (h1 x hx).1; omega, (h1 x hx).2⟩, h2, h3⟩
  · rintro ⟨h1, h2, h3⟩
    exact ⟨fun x hx => ⟨by have := (h1 x hx).1; omega, (h1 x hx).2⟩, h2, h3⟩
theorem startsB_length {n : Int} {s : List Int} (h : startsB n s = true) (hn : 0 ≤ n) : (s.length : Int) ≤ n := by
  simp only [startsB, Bool.and_eq_true] at h
  have := chain_length h.1
  omega

theorem starts_loop (n : Int) (s : List Int) (hs : s.length ≤ 4611686018427387904) (d : Nat) : ∀ (k i : Nat) (h0 : 0 < i) (h1 : i ≤ s.length), s.length - i = d → d < k →
    vinculumref44_Starts.l0 k n s (i : Int) = some (chain n (s[i - 1]'(by omega)) (s.drop i)) := by
  induction d with
  | zero =>
    intro k i h0 hi hd hk
    obtain ⟨k, rfl⟩ : ∃ m, k = m + 1 := ⟨k - 1, by omega⟩
    simp only [vinculumref44_Starts.l0]
    rw [if_neg (by omega)]
    rw [List.drop_of_length_le (by omega), decide_eq_true (by omega)]
    rfl
  | succ d ih =>
    intro k i h0 hi hd hk
    obtain ⟨k, rfl⟩ : ∃ m, k = m + 1 := ⟨k - 1, by omega⟩
    have hlt : i < s.length := by omega
    simp only [vinculumref44_Starts.l0]
    have e1 : wrap64 ((i : Int) - 1) = ((i - 1 : Nat) : Int) := by unfold wrap64; omega
    rw [if_pos (show (i : Int) < (s.length : Int) by omega), if_pos (show (0 : Int) ≤ i by omega), e1, rd_int hlt, rd_int (show i - 1 < s.length by omega), len_succ hlt (by omega), ih k (i + 1) (by omega) (by omega) (by omega) (by omega), List.drop_eq_getElem_cons hlt]
    simp only [chain, Nat.add_sub_cancel]
    by_cases h2 : s[i] ≥ n
    · rw [if_pos h2, decide_eq_false (by omega), Bool.false_and]
    rw [if_neg h2, if_neg (show ¬ (i : Int) = 0 by omega), if_pos (show (i : Int) > 0 by omega), if_pos (show (0 : Int) ≤ ((i - 1 : Nat) : Int) by omega), if_pos (show ((i - 1 : Nat) : Int) < (s.length : Int) by omega)]
    by_cases h1 : s[i] ≤ s[i - 1]
    · rw [if_pos h1, decide_eq_false (by omega), Bool.false_and]
    rw [if_neg h1, decide_eq_true (show s[i - 1] < s[i] ∧ s[i] < n by omega), Bool.true_and]

theorem starts_f (n : Int) (hn : 0 ≤ n) (s : List Int) (hs : s.length ≤ 4611686018427387904) (k : Nat) (hk : s.length + 1 < k) : vinculumref44_Starts.f k n s = some (startsB n s) := by
  obtain ⟨k, rfl⟩ : ∃ m, k = m + 1 := ⟨k - 1, by omega⟩
  simp only [vinculumref44_Starts.f, vinculumref44_Starts.l0, startsB]
  cases hs0 : s with
  | nil => simp [chain]
  | cons x r =>
    rw [← hs0]
    have hl : 0 < s.length := by rw [hs0]; simp
    have h0 : rd s 0 = x := by rw [hs0]; rfl
    rw [if_pos (by omega), if_pos (by omega), h0, show wrap64 (0 + 1) = ((1 : Nat) : Int) from by unfold wrap64; omega, starts_loop n s hs (s.length - 1) k 1 (by omega) (by omega) rfl (by omega)]
    have h1 : s[0]'hl = x := by subst hs0; rfl
    have h2 : s.drop 1 = r := by rw [hs0]; rfl
    simp only [Nat.sub_self, h1, h2, if_true, show ¬ ((0 : Int) > 0) by omega, if_false]
    rw [hs0]
    simp only [chain]
    by_cases c1 : x ≥ n
    · rw [if_pos c1, decide_eq_false (show ¬ (-1 < x ∧ x < n) by omega), Bool.false_and, Bool.false_and]
    rw [if_neg c1]
    by_cases c2 : x = 0
    · subst c2
      rw [if_pos rfl, decide_eq_true (show (-1 : Int) < 0 ∧ 0 < n by omega), Bool.true_and, decide_eq_true (show (0 :: r).head? = some 0 from rfl), Bool.and_true]
    · rw [if_neg c2, decide_eq_false (show ¬ (x :: r).head? = some 0 by simpa using c2), Bool.and_false]

theorem refTotal_loop (l : List S) (hn : l.length ≤ 4611686018427387904) (s : List Int) (hs : s.length ≤ 1000) (hsw : ∀ x ∈ s, (Lit.int .i64 x).wf = true) (w ind : Int) (hwi : 1 ≤ w ∧ w ≤ 10000000 ∧ 0 ≤ ind ∧ ind < w) (d : Nat) : ∀ (k i : Nat) (a : Int), i ≤ s.length → s.length - i = d → 2 * d + l.length + 10 < k →
    -10000 * (i : Int) ≤ a → a ≤ 700040000 * (i : Int) →
    vinculumref44_Total.l0 k l s w ind a (i : Int) = some (pack a (sumO l (w - ind) (if i = 0 then w else w - ind) (s.drop i))) := by
  induction d with
  | zero =>
    intro k i a hi hd hk h1 h2
    obtain ⟨k, rfl⟩ : ∃ m, k = m + 1 := ⟨k - 1, by omega⟩
    simp only [vinculumref44_Total.l0]
    rw [if_neg (by omega), List.drop_of_length_le (by omega)]
    simp [sumO, pack]
  | succ d ih =>
    intro k i a hi hd hk h1 h2
    obtain ⟨k, rfl⟩ : ∃ m, k = m + 1 := ⟨k - 1, by omega⟩
    have hlt : i < s.length := by omega
    have step : ∀ e : Int, e = endOf l (s.drop (i + 1)) → vinculumref44_Total.j2 k l s w ind a (i : Int) e w = some (pack a (sumO l (w - ind) (if i = 0 then w else w - ind) (s.drop i))) := by
      rintro e rfl
      obtain ⟨k, rfl⟩ : ∃ m, k = m + 1 := ⟨k - 1, by omega⟩
      have hsame : ∀ (v : Int) (o : Option Int), pack (a + (lineS l s[i] (endOf l (s.drop (i + 1))) v).1) o = pack a (o.map (fun t => (lineS l s[i] (endOf l (s.drop (i + 1))) v).1 + t)) := by
        intro v o
        cases o with
        | none => rfl
        | some t => simp only [pack, Option.map_some]; rw [Int.add_assoc]
      simp only [vinculumref44_Total.j2]
      rw [rd_int hlt, List.drop_eq_getElem_cons hlt]
      by_cases h0 : i = 0
      · subst h0
        rw [if_neg (by simp), if_pos (by simp), if_pos (by omega), refLine l hn _ _ _ (hsw _ (List.getElem_mem hlt)) k (by omega)]
        simp only [Option.bind_some, sumO, if_true]
        have hb := lineS_bound l s[0] (endOf l (s.drop (0 + 1))) w
        by_cases hc : (lineS l s[0] (endOf l (s.drop (0 + 1))) w).2 = 0
        · rw [if_pos hc, if_pos hc, wrap_id (x := a + _) (by omega) (by omega), len_succ hlt (by omega), ih k (0 + 1) _ (by omega) (by omega) (by omega) (by omega) (by omega), hsame]
          rfl
        · rw [if_neg hc, if_neg hc]
          rfl
      · rw [if_pos (by omega), if_pos (by omega), if_pos (by omega), wrap_id (x := w - ind) (by omega) (by omega), refLine l hn _ _ _ (hsw _ (List.getElem_mem hlt)) k (by omega), if_neg h0]
        simp only [Option.bind_some, sumO]
        have hb := lineS_bound l s[i] (endOf l (s.drop (i + 1))) (w - ind)
        by_cases hc : (lineS l s[i] (endOf l (s.drop (i + 1))) (w - ind)).2 = 0
        · rw [if_pos hc, if_pos hc, wrap_id (x := a + _) (by omega) (by omega), len_succ hlt (by omega), ih k (i + 1) _ (by omega) (by omega) (by omega) (by omega) (by omega), hsame]
          rfl
        · rw [if_neg hc, if_neg hc]
          rfl
    simp only [vinculumref44_Total.l0]
    rw [if_pos (by omega), len_succ hlt (by omega)]
    have he := endOf_next l s hlt
    by_cases h3 : i + 1 < s.length
    · rw [if_pos (by omega), if_pos (by omega), rd_int h3]
      rw [dif_pos h3] at he
      exact step _ he.symm
    · rw [if_neg (by omega)]
      rw [dif_neg h3] at he
      exact step _ he.symm

theorem refTotal (l : List S) (hn : l.length ≤ 4611686018427387904) (s : List Int) (hs : s.length ≤ 1000) (hsw : ∀ x ∈ s, (Lit.int .i64 x).wf = true) (w ind : Int) (hww : (Lit.int .i64 w).wf = true) (k : Nat) (hk : 3 * s.length + l.length + 20 < k) : vinculumref44_Total.f k l s w ind = some (totalS l s w ind) := by
  unfold vinculumref44_Total.f totalS
  rw [refValid l hn k (by omega)]
  simp only [Option.bind_some]
  obtain ⟨k, rfl⟩ : ∃ m, k = m + 1 := ⟨k - 1, by omega⟩
  have hbad : vinculumref44_Total.j0 (k + 1) l s w ind true = some (0, 1) := by simp only [vinculumref44_Total.j0, if_true]
  by_cases h : vp l = true
  · rw [if_pos h, fits_f _ _ hww]
    simp only [Option.bind_some]
    by_cases hc : 1 ≤ w ∧ w ≤ 10000000 ∧ 0 ≤ ind ∧ ind < w
    · rw [decide_eq_true hc, if_pos (show vp l = true ∧ 1 ≤ w ∧ w ≤ 10000000 ∧ 0 ≤ ind ∧ ind < w from ⟨h, hc⟩)]
      simp only [vinculumref44_Total.j0, Bool.not_true]
      rw [if_neg (by simp), starts_f _ (by omega) _ (by omega) k (by omega)]
      simp only [Option.bind_some]
      by_cases hst : startsB (l.length : Int) s = true
      · rw [if_pos hst, if_pos hst]
        have := refTotal_loop l hn s hs hsw w ind hc s.length k 0 0 (by omega) (by omega) (by omega) (by simp) (by simp)
        simpa using this
      · rw [if_neg hst, if_neg hst]
    · rw [decide_eq_false hc, if_neg (show ¬ (vp l = true ∧ 1 ≤ w ∧ w ≤ 10000000 ∧ 0 ≤ ind ∧ ind < w) from fun hh => hc hh.2), Bool.not_false, hbad]
  · rw [if_neg h, if_neg (show ¬ (vp l = true ∧ 1 ≤ w ∧ w ≤ 10000000 ∧ 0 ≤ ind ∧ ind < w) from fun hh => h hh.1), hbad]

theorem before_loop (a b : List Int) (ha : a.length ≤ 4611686018427387904) (d : Nat) : ∀ (k i : Nat), i ≤ a.length → i ≤ b.length → a.length - i = d → 2 * d + 2 ≤ k →
    vinculumref45_before.l0 k a b (i : Int) = some (bef (a.drop i) (b.drop i)) := by
  induction d with
  | zero =>
    intro k i hi hi2 hd hk
    obtain ⟨k, rfl⟩ : ∃ q, k = q + 2 := ⟨k - 2, by omega⟩
    simp only [vinculumref45_before.l0]
    rw [if_neg (by omega)]
    simp only [vinculumref45_before.j1]
    rw [if_neg (by decide), List.drop_of_length_le (by omega)]
    by_cases h : i < b.length
    · rw [List.drop_eq_getElem_cons h, decide_eq_true (by omega)]
      rfl
    · rw [List.drop_of_length_le (show b.length ≤ i by omega), decide_eq_false (by omega)]
      rfl
  | succ d ih =>
    intro k i hi hi2 hd hk
    obtain ⟨k, rfl⟩ : ∃ q, k = q + 2 := ⟨k - 2, by omega⟩
    have hlt : i < a.length := by omega
    simp only [vinculumref45_before.l0]
    rw [if_pos (by omega)]
    simp only [vinculumref45_before.j1]
    rw [List.drop_eq_getElem_cons hlt]
    by_cases h : i < b.length
    · rw [decide_eq_true (by omega), if_pos rfl, if_pos (by omega), if_pos (by omega), if_pos (by omega), rd_int hlt, rd_int h, List.drop_eq_getElem_cons h, bef]
      by_cases e : a[i] = b[i]
      · rw [if_pos e, if_pos e, len_succ hlt (by omega)]
        exact ih k (i + 1) (by omega) (by omega) (by omega) (by omega)
      · rw [if_neg e, if_neg e]
    · rw [decide_eq_false (by omega), if_neg (by decide), decide_eq_false (by omega), List.drop_of_length_le (show b.length ≤ i by omega)]
      rfl
theorem before_f (a b : List Int) (ha : a.length ≤ 1000) {k : Nat} (hk : 2 * a.length + 2 ≤ k) : vinculumref45_before.f k a b = some (bef a b) := by
  have := before_loop a b (by omega) a.length k 0 (by omega) (by omega) (by omega) hk
  simpa [vinculumref45_before.f] using this
theorem bef_total : ∀ s t : List Int, s ≠ t → bef s t = true ∨ bef t s = true
  | [], [], h => absurd rfl h
  | [], _ :: _, _ => Or.inl rfl
  | _ :: _, [], _ => Or.inr rfl
  | a :: x, b :: y, h => by
    rw [bef, bef]
    by_cases e : a = b
    · subst e
      rw [if_pos rfl, if_pos rfl]
      exact bef_total x y (fun e => h (by rw [e]))
    · rw [if_neg e, if_neg (Ne.symm e), decide_eq_true_eq, decide_eq_true_eq]
      omega
theorem bef_trans : ∀ s t u : List Int, bef s t = true → bef t u = true → bef s u = true
  | [], [], _, h, _ => by cases h
  | _ :: _, [], _, h, _ => by cases h
  | _, _ :: _, [], _, h => by cases h
  | [], _ :: _, _ :: _, _, _ => rfl
  | a :: x, b :: y, c :: z, h1, h2 => by
    rw [bef] at h1 h2 ⊢
    by_cases e : a = b
    · subst e
      rw [if_pos rfl] at h1
      by_cases e2 : a = c
      · subst e2
        rw [if_pos rfl] at h2 ⊢
        exact bef_trans x y z h1 h2
      · rw [if_neg e2] at h2 ⊢
        exact h2
    · rw [if_neg e, decide_eq_true_eq] at h1
      by_cases e2 : b = c
      · subst e2
        rw [if_neg e, decide_eq_true_eq]
        exact h1
      · rw [if_neg e2, decide_eq_true_eq] at h2
        rw [if_neg (by omega), decide_eq_true_eq]
        omega
/-- The starts that a set picks. -/
def sOf (n set : Nat) : List Int := vinculumref45_All.s set (n - 1) 1 [0]
theorem chain_snoc {n : Int} {i : Int} (hi : i < n) : ∀ {s : List Int} {a : Int}, a < i → (∀ x ∈ s, x < i) → chain n a s = true → chain n a (s ++ [i]) = true
  | [], a, ha, _, _ => by
    rw [List.nil_append, chain, Bool.and_eq_true, decide_eq_true_eq]
    exact ⟨⟨ha, hi⟩, rfl⟩
  | x :: r, a, ha, hx, h => by
    rw [chain, Bool.and_eq_true] at h
    rw [List.cons_append, chain, Bool.and_eq_true]
    exact ⟨h.1, chain_snoc hi (hx x List.mem_cons_self) (fun y hy => hx y (List.mem_cons_of_mem _ hy)) h.2⟩
theorem starts_snoc {n : Int} {i : Int} (hi : 0 ≤ i) (hi2 : i < n) {s : List Int} (hx : ∀ x ∈ s, x < i) (h : startsB n s = true) : startsB n (s ++ [i]) = true := by
  obtain ⟨h1, h2⟩ := starts_chain h
  unfold startsB
  rw [Bool.and_eq_true, decide_eq_true_eq]
  refine ⟨chain_snoc hi2 (by omega) hx h1, ?_⟩
  cases s with
  | nil => simp at h2
  | cons x r => simpa using h2
theorem all_s_starts (n set : Nat) : ∀ m i acc, i + m = n → 1 ≤ i → startsB (n : Int) acc = true → (∀ x ∈ acc, x < (i : Int)) → startsB (n : Int) (vinculumref45_All.s set m i acc) = true
  | 0, _, _, _, _, h, _ => h
  | m + 1, i, acc, hi, h1, h, hx => by
    rw [vinculumref45_All.s]
    by_cases c : set / 2 ^ (i - 1) % 2 = 1
    · rw [if_pos c]
      refine all_s_starts n set m (i + 1) _ (by omega) (by omega) (starts_snoc (by omega) (by omega) hx h) (fun x hx' => ?_)
      rcases List.mem_append.1 hx' with h | h
      · have := hx x h; omega
      · rw [List.mem_singleton.1 h]; omega
    · rw [if_neg c]
      exact all_s_starts n set m (i + 1) _ (by omega) (by omega) h (fun x hx' => by have := hx x hx'; omega)
theorem sOf_starts {n : Nat} (hn : 1 ≤ n) (set : Nat) : startsB (n : Int) (sOf n set) = true := by
  refine all_s_starts n set (n - 1) 1 [0] (by omega) (Nat.le_refl _) ?_ (by simp)
  unfold startsB
  rw [chain, Bool.and_eq_true, Bool.and_eq_true, decide_eq_true_eq, decide_eq_true_eq]
  exact ⟨⟨by omega, rfl⟩, rfl⟩
theorem sets_onto (n : Nat) : ∀ m i, i + m = n → 1 ≤ i → ∀ r, chain (n : Int) ((i : Int) - 1) r = true → ∃ v, v < 2 ^ m ∧ ∀ set acc, set / 2 ^ (i - 1) = v → vinculumref45_All.s set m i acc = acc ++ r
  | 0, i, hi, h1, r, hr => by
    cases r with
    | nil => exact ⟨0, by simp, fun set acc hs => by rw [vinculumref45_All.s, List.append_nil]⟩ 
    | cons x q =>
      rw [chain, Bool.and_eq_true, decide_eq_true_eq] at hr
      omega
  | m + 1, i, hi, h1, r, hr => by
    have hpow : ∀ set, set / 2 ^ (i + 1 - 1) = set / 2 ^ (i - 1) / 2 := fun set => by
      rw [Nat.div_div_eq_div_mul, ← Nat.pow_succ, show (i - 1).succ = i + 1 - 1 by omega]
    by_cases h : ∃ q, r = (i : Int) :: q
    · obtain ⟨q, rfl⟩ := h
      rw [chain, Bool.and_eq_true, decide_eq_true_eq] at hr
      obtain ⟨v, h2, h3⟩ := sets_onto n m (i + 1) (by omega) (by omega) q (by rw [show ((i + 1 : Nat) : Int) - 1 = (i : Int) by omega]; exact hr.2)
      refine ⟨2 * v + 1, by rw [Nat.pow_succ]; omega, fun set acc hs => ?_⟩
      rw [vinculumref45_All.s, if_pos (by rw [hs]; omega), h3 set _ (by rw [hpow, hs]; omega), List.append_assoc]
      rfl
    · obtain ⟨v, h2, h3⟩ := sets_onto n m (i + 1) (by omega) (by omega) r (chain_lower hr (fun x hx => by
        cases r with
        | nil => cases hx
        | cons y q =>
          simp only [List.head?_cons, Option.mem_def, Option.some.injEq] at hx
          subst hx
          rw [chain, Bool.and_eq_true, decide_eq_true_eq] at hr
          have : y ≠ (i : Int) := fun e => h ⟨q, by rw [e]⟩
          omega))
      refine ⟨2 * v, by rw [Nat.pow_succ]; omega, fun set acc hs => ?_⟩
      rw [vinculumref45_All.s, if_neg (by rw [hs]; omega), h3 set _ (by rw [hpow, hs]; omega)]
theorem sOf_onto {l : List S} (hn : 1 ≤ l.length) {s : List Int} (hs : Fr l 0 s) : ∃ set, set < 2 ^ (l.length - 1) ∧ s = sOf l.length set := by
  rcases fr_inv hs (Nat.zero_le _) with ⟨h, _⟩ | ⟨_, j, r, rfl, h1, h2, h3⟩
  · omega
  · obtain ⟨v, k1, k2⟩ := sets_onto l.length (l.length - 1) 1 (by omega) (Nat.le_refl _) r (by rw [show (((1 : Nat) : Int)) - 1 = 0 by omega]; exact h3.1 0 (by omega))
    refine ⟨v, k1, ?_⟩
    unfold sOf
    rw [k2 v [0] (by simp)]
    rfl
theorem sOf_len (n set : Nat) (hn : 1 ≤ n) : 1 ≤ (sOf n set).length ∧ (sOf n set).length ≤ n := by
  have h := sOf_starts hn set
  have := startsB_length h (by omega)
  refine ⟨?_, by omega⟩
  have h2 := (starts_chain h).2
  cases hs : sOf n set with
  | nil => rw [hs] at h2; cases h2
  | cons x r => simp
end Go.Proofs.Ytgickognjlapmaa.M46
