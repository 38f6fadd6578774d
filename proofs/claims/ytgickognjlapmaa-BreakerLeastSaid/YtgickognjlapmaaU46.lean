/- Layer 46: Total, and what it has to do with potentials. Lemmas only. -/
import Derived.Test.YtgickognjlapmaaG46
import Derived.Test.YtgickognjlapmaaPWx5
namespace Go.Proofs.Ytgickognjlapmaa.M46
open Go.RowKit Go.Proofs.Ytgickognjlapmaa.PW Go.Proofs.Ytgickognjlapmaa.D44 Go.Proofs.YtgickognjlapmaaW.PrintWords Go.Proofs.YtgickognjlapmaaW.PrintLast Go.Proofs.YtgickognjlapmaaW.PrintMore
set_option linter.unusedVariables false
set_option linter.unusedSimpArgs false

theorem proper_loop (n : Int) (s : List Int) (hs : s.length ≤ 4611686018427387904) (d : Nat) : ∀ (k i : Nat) (a : Int), i ≤ s.length → s.length - i = d → d < k →
    demerit_proper.l0 k n s a s (s.length : Int) (i : Int) = some (chain n a (s.drop i) && decide (s.head? = some 0)) := by
  induction d with
  | zero =>
    intro k i a hi hd hk
    obtain ⟨k, rfl⟩ : ∃ m, k = m + 1 := ⟨k - 1, by omega⟩
    simp only [demerit_proper.l0]
    rw [if_neg (by omega), List.drop_of_length_le (by omega)]
    simp only [chain, Bool.true_and]
    cases s with
    | nil => rfl
    | cons x r =>
      have h0 : (0 : Int) < ((x :: r).length : Int) := by rw [List.length_cons]; omega
      rw [if_pos h0, if_pos h0]
      simp [rd]
      rfl
  | succ d ih =>
    intro k i a hi hd hk
    obtain ⟨k, rfl⟩ : ∃ m, k = m + 1 := ⟨k - 1, by omega⟩
    have hlt : i < s.length := by omega
    simp only [demerit_proper.l0]
    rw [if_pos (by omega), if_pos (by omega), if_pos (by omega), rd_int hlt, len_succ hlt (by omega), ih k (i + 1) _ (by omega) (by omega) (by omega), List.drop_eq_getElem_cons hlt]
    simp only [chain]
    by_cases h1 : s[i] ≤ a
    · rw [if_pos h1, decide_eq_false (by omega), Bool.false_and, Bool.false_and]
    rw [if_neg h1]
    by_cases h2 : s[i] ≥ n
    · rw [if_pos h2, decide_eq_false (by omega), Bool.false_and, Bool.false_and]
    rw [if_neg h2, decide_eq_true (show a < s[i] ∧ s[i] < n by omega), Bool.true_and]

theorem proper_f (n : Int) (s : List Int) (hs : s.length ≤ 4611686018427387904) (k : Nat) (hk : s.length < k) : demerit_proper.f k n s = some (startsB n s) := by
  have := proper_loop n s hs s.length k 0 (-1) (by omega) (by omega) hk
  simpa [demerit_proper.f, startsB] using this

/-- The demerits of lines from some start on: the first one for the width v, the others for v'; none if one is not legal. -/
def sumO (l : List S) (v' : Int) : Int → List Int → Option Int
  | _, [] => some 0
  | v, x :: r => if (lineS l x (endOf l r) v).2 = 0 then (sumO l v' v' r).map (fun t => (lineS l x (endOf l r) v).1 + t) else none
def pack (a : Int) : Option Int → Int × Int
  | some t => (a + t, 0)
  | none => (0, 6)

theorem lineS_bound (l : List S) (a b w : Int) : -10000 ≤ (lineS l a b w).1 ∧ (lineS l a b w).1 ≤ 700040000 := by
  unfold lineS
  by_cases h1 : vp l = true ∧ 1 ≤ w ∧ w ≤ 10000000
  · rw [if_pos h1]
    by_cases h2 : 0 ≤ a ∧ a < b ∧ b ≤ (l.length : Int)
    · rw [if_pos h2]
      by_cases h3 : legal l a.toNat b.toNat w = true
      · rw [if_pos h3]
        exact lineD_bound h1.1 (by omega) (by omega) h1.2.1 h1.2.2
      · rw [if_neg h3]; simp
    · rw [if_neg h2]; simp
  · rw [if_neg h1]; simp

theorem demTotal_loop (l : List S) (hn : l.length ≤ 4611686018427387904) (hw : ∀ p ∈ l, WfP p) (s : List Int) (hs : s.length ≤ 1000) (w ind : Int) (hwi : 1 ≤ w ∧ w ≤ 10000000 ∧ 0 ≤ ind ∧ ind < w) (d : Nat) : ∀ (k i : Nat) (a : Int), i ≤ s.length → s.length - i = d → 2 * d + l.length + 10 < k →
    -10000 * (i : Int) ≤ a → a ≤ 700040000 * (i : Int) →
    demerit_Total.l0 k l s (if i = 0 then w else w - ind) ind a s (s.length : Int) (i : Int) = some (pack a (sumO l (w - ind) (if i = 0 then w else w - ind) (s.drop i))) := by
  induction d with
  | zero =>
    intro k i a hi hd hk h1 h2
    obtain ⟨k, rfl⟩ : ∃ m, k = m + 1 := ⟨k - 1, by omega⟩
    simp only [demerit_Total.l0]
    rw [if_neg (by omega), List.drop_of_length_le (by omega)]
    simp [sumO, pack]
  | succ d ih =>
    intro k i a hi hd hk h1 h2
    obtain ⟨k, rfl⟩ : ∃ m, k = m + 1 := ⟨k - 1, by omega⟩
    have hlt : i < s.length := by omega
    have step : ∀ e : Int, e = endOf l (s.drop (i + 1)) → demerit_Total.j2 k l s (if i = 0 then w else w - ind) ind a (i : Int) s[i] e s (s.length : Int) (i : Int) = some (pack a (sumO l (w - ind) (if i = 0 then w else w - ind) (s.drop i))) := by
      rintro e rfl
      obtain ⟨k, rfl⟩ : ∃ m, k = m + 1 := ⟨k - 1, by omega⟩
      simp only [demerit_Total.j2]
      rw [demLine l hn hw _ _ _ k (by omega), List.drop_eq_getElem_cons hlt]
      simp only [Option.bind_some, sumO]
      have hb := lineS_bound l s[i] (endOf l (s.drop (i + 1))) (if i = 0 then w else w - ind)
      by_cases hc : (lineS l s[i] (endOf l (s.drop (i + 1))) (if i = 0 then w else w - ind)).2 = 0
      · rw [if_pos hc, if_pos hc, wrap_id (x := a + _) (by omega) (by omega), len_succ hlt (by omega)]
        have ih' := ih k (i + 1) (a + (lineS l s[i] (endOf l (s.drop (i + 1))) (if i = 0 then w else w - ind)).1) (by omega) (by omega) (by omega) (by omega) (by omega)
        rw [if_neg (show ¬ i + 1 = 0 by omega)] at ih'
        have hsame : ∀ o : Option Int, pack (a + (lineS l s[i] (endOf l (s.drop (i + 1))) (if i = 0 then w else w - ind)).1) o = pack a (o.map (fun t => (lineS l s[i] (endOf l (s.drop (i + 1))) (if i = 0 then w else w - ind)).1 + t)) := by
          intro o
          cases o with
          | none => rfl
          | some t => simp only [pack, Option.map_some]; rw [Int.add_assoc]
        rw [← hsame]
        by_cases h0 : i = 0
        · subst h0
          rw [if_pos (by rfl)]
          simp only [if_true] at ih' ⊢
          rw [wrap_id (x := w - ind) (by omega) (by omega)]
          exact ih'
        · rw [if_neg (show ¬ (i : Int) = 0 by omega)]
          rw [if_neg h0] at ih' ⊢
          exact ih'
      · rw [if_neg hc, if_neg hc]
        rfl
    simp only [demerit_Total.l0]
    rw [if_pos (by omega), if_pos (by omega), if_pos (by omega), len_succ hlt (by omega), rd_int hlt]
    have he := endOf_next l s hlt
    by_cases h3 : i + 1 < s.length
    · rw [if_pos (by omega), if_pos (by omega), rd_int h3]
      rw [dif_pos h3] at he
      exact step _ he.symm
    · rw [if_neg (by omega)]
      rw [dif_neg h3] at he
      exact step _ he.symm

/-- What Total tells. -/
def totalS (l : List S) (s : List Int) (w ind : Int) : Int × Int :=
  if vp l = true ∧ 1 ≤ w ∧ w ≤ 10000000 ∧ 0 ≤ ind ∧ ind < w then if startsB (l.length : Int) s = true then pack 0 (sumO l (w - ind) w s) else (0, 4) else (0, 1)

theorem demTotal (l : List S) (hn : l.length ≤ 4611686018427387904) (hw : ∀ p ∈ l, WfP p) (s : List Int) (hs : s.length ≤ 1000) (w ind : Int) (k : Nat) (hk : 3 * s.length + l.length + 20 < k) : demerit_Total.f k l s w ind = some (totalS l s w ind) := by
  unfold demerit_Total.f totalS
  rw [demValid l hn hw k (by omega)]
  simp only [Option.bind_some]
  obtain ⟨k, rfl⟩ : ∃ m, k = m + 1 := ⟨k - 1, by omega⟩
  have hbad : demerit_Total.j0 (k + 1) l s w ind true = some (0, 1) := by simp only [demerit_Total.j0, if_true]
  have hdec : ∀ b : Bool, b = false → demerit_Total.j0 (k + 1) l s w ind b = (demerit_proper.f k (l.length : Int) s).bind fun t => (if t = true then (demerit_Total.l0 k l s w ind 0 s (s.length : Int) 0) else (some (0, 4))) := by
    intro b hb
    subst hb
    simp only [demerit_Total.j0]
    rw [if_neg (by simp)]
  by_cases h : vp l = true
  · rw [if_pos h]
    by_cases c1 : w < 1
    · rw [if_pos c1, if_neg (by omega), hbad]
    rw [if_neg c1]
    by_cases c2 : w > 10000000
    · rw [if_pos c2, if_neg (by omega), hbad]
    rw [if_neg c2]
    by_cases c3 : ind < 0
    · rw [if_pos c3, if_neg (by omega), hbad]
    rw [if_neg c3]
    by_cases c4 : ind ≥ w
    · rw [decide_eq_true c4, if_neg (by omega), hbad]
    rw [decide_eq_false c4, if_pos (show vp l = true ∧ 1 ≤ w ∧ w ≤ 10000000 ∧ 0 ≤ ind ∧ ind < w from ⟨h, by omega, by omega, by omega, by omega⟩), hdec false rfl, proper_f _ _ (by omega) k (by omega)]
    simp only [Option.bind_some]
    by_cases hst : startsB (l.length : Int) s = true
    · rw [if_pos hst, if_pos hst]
      have := demTotal_loop l hn hw s hs w ind ⟨by omega, by omega, by omega, by omega⟩ s.length k 0 0 (by omega) (by omega) (by omega) (by simp) (by simp)
      simpa using this
    · rw [if_neg hst, if_neg hst]
  · rw [if_neg h, if_neg (show ¬ (vp l = true ∧ 1 ≤ w ∧ w ≤ 10000000 ∧ 0 ≤ ind ∧ ind < w) from fun hh => h hh.1), hbad]


/-- The demerits of lines from some start on, by the problem's lines. -/
def tS (l : List S) (w ind : Int) : List Int → Option Int
  | [] => some 0
  | x :: r => if (lin l w ind x.toNat (endOf l r).toNat).2 = true then (tS l w ind r).map (fun t => (lin l w ind x.toNat (endOf l r).toNat).1 + t) else none
theorem chain_end {l : List S} {x : Int} (hx : x < (l.length : Int)) : ∀ {r : List Int}, chain (l.length : Int) x r = true → x < endOf l r ∧ endOf l r ≤ (l.length : Int)
  | [], _ => ⟨hx, Int.le_refl _⟩
  | y :: r, h => by
    rw [chain, Bool.and_eq_true, decide_eq_true_eq] at h
    exact ⟨h.1.1, Int.le_of_lt h.1.2⟩
theorem lin_eq {l : List S} {w ind : Int} (hf : fits l w ind = true) {x e : Int} (hx : 0 ≤ x) (he : 0 ≤ e) : lin l w ind x.toNat e.toNat = ((lineS l x e (if 0 < x then w - ind else w)).1, ((lineS l x e (if 0 < x then w - ind else w)).2 == 0)) := by
  obtain ⟨hv, h1, h2, h3, h4⟩ := fits_iff.1 hf
  unfold lin
  rw [Int.toNat_of_nonneg hx, Int.toNat_of_nonneg he, wrap_id (x := w - ind) (by omega) (by omega)]
  by_cases c : 0 < x
  · rw [if_pos c, if_pos (by omega)]
  · rw [if_neg c, if_neg (by omega)]
theorem sum_step {l : List S} {w ind v : Int} (hf : fits l w ind = true) {x : Int} {r : List Int} (hx : 0 ≤ x) (hx2 : x < (l.length : Int)) (hc : chain (l.length : Int) x r = true) (hv : v = if 0 < x then w - ind else w) (hr : sumO l (w - ind) (w - ind) r = tS l w ind r) : sumO l (w - ind) v (x :: r) = tS l w ind (x :: r) := by
  have he := chain_end hx2 hc
  simp only [sumO, tS]
  rw [hr, lin_eq hf hx (by omega), ← hv]
  simp only [beq_iff_eq]
theorem sum_rest {l : List S} {w ind : Int} (hf : fits l w ind = true) : ∀ {r : List Int} {a : Int}, 0 ≤ a → chain (l.length : Int) a r = true → sumO l (w - ind) (w - ind) r = tS l w ind r
  | [], _, _, _ => rfl
  | x :: r, a, ha, h => by
    rw [chain, Bool.and_eq_true, decide_eq_true_eq] at h
    exact sum_step hf (by omega) h.1.2 h.2 (by rw [if_pos (by omega)]) (sum_rest hf (by omega) h.2)
theorem sum_all {l : List S} {w ind : Int} (hf : fits l w ind = true) {s : List Int} (h : startsB (l.length : Int) s = true) : sumO l (w - ind) w s = tS l w ind s := by
  unfold startsB at h
  rw [Bool.and_eq_true, decide_eq_true_eq] at h
  cases s with
  | nil => rfl
  | cons x r =>
    obtain ⟨h1, h2⟩ := h
    obtain rfl : x = 0 := by simpa using h2
    rw [chain, Bool.and_eq_true, decide_eq_true_eq] at h1
    exact sum_step hf (by omega) h1.1.2 h1.2 (by rw [if_neg (by omega)]) (sum_rest hf (by omega) h1.2)
theorem total_eq {l : List S} {w ind : Int} (hf : fits l w ind = true) {s : List Int} (h : startsB (l.length : Int) s = true) : totalS l s w ind = pack 0 (tS l w ind s) := by
  unfold totalS
  rw [if_pos (fits_iff.1 hf), if_pos h, sum_all hf h]
theorem total_not {l : List S} {w ind : Int} (hf : fits l w ind = true) {s : List Int} (h : ¬ startsB (l.length : Int) s = true) : totalS l s w ind = (0, 4) := by
  unfold totalS
  rw [if_pos (fits_iff.1 hf), if_neg h]
/-- Sound potentials bound what lines cost. -/
theorem bound_le {l : List S} {w ind : Int} {ps : List Int} (hs : soundS l w ind ps = true) : ∀ {s : List Int} {a t : Int}, -1 ≤ a → chain (l.length : Int) a s = true → tS l w ind s = some t → rd ps (endOf l s) ≤ t
  | [], a, t, _, _, ht => by
    obtain rfl := Option.some.inj ht
    have := (sound_facts hs).2.2.1
    exact Int.le_of_eq this
  | x :: r, a, t, ha, hc, ht => by
    obtain ⟨_, _, _, _, h5⟩ := sound_facts hs
    rw [chain, Bool.and_eq_true, decide_eq_true_eq] at hc
    have he := chain_end hc.1.2 hc.2
    simp only [tS] at ht
    by_cases c : (lin l w ind x.toNat (endOf l r).toNat).2 = true
    · rw [if_pos c] at ht
      obtain ⟨t', ht', rfl⟩ := Option.map_eq_some_iff.1 ht
      have ih := bound_le hs (by omega) hc.2 ht'
      have := h5 x.toNat (endOf l r).toNat (by omega) (by omega) c
      rw [Int.toNat_of_nonneg (by omega), Int.toNat_of_nonneg (by omega)] at this
      show rd ps x ≤ _
      omega
    · rw [if_neg c] at ht
      exact absurd ht (by simp)
theorem tight_wrap {l : List S} {w ind : Int} {ps : List Int} (hs : soundS l w ind ps = true) {x e : Int} (hx : 0 ≤ x) (he : 0 ≤ e) (he2 : e ≤ (l.length : Int)) : wrap64 ((lin l w ind x.toNat e.toNat).1 + rd ps e) = (lin l w ind x.toNat e.toNat).1 + rd ps e := by
  have hb := lin_bd l w ind x.toNat e.toNat
  have hc := (sound_facts hs).2.2.2.1 e.toNat (by omega)
  rw [Int.toNat_of_nonneg he] at hc
  exact wrap_id (by omega) (by omega)
theorem tight_total {l : List S} {w ind : Int} {ps : List Int} (hs : soundS l w ind ps = true) : ∀ {s : List Int} {a : Int}, -1 ≤ a → chain (l.length : Int) a s = true → tight l w ind ps s = true → tS l w ind s = some (rd ps (endOf l s))
  | [], a, _, _, _ => by
    show some (0 : Int) = some (rd ps (l.length : Int))
    rw [(sound_facts hs).2.2.1]
  | x :: r, a, ha, hc, ht => by
    rw [chain, Bool.and_eq_true, decide_eq_true_eq] at hc
    have he := chain_end hc.1.2 hc.2
    rw [tight, Bool.and_eq_true, Bool.and_eq_true, decide_eq_true_eq] at ht
    have ih := tight_total hs (by omega) hc.2 ht.2
    simp only [tS]
    rw [if_pos ht.1.1, ih, Option.map_some]
    have h2 := ht.1.2
    rw [tight_wrap hs (by omega) (by omega) he.2] at h2
    show some _ = some (rd ps x)
    rw [h2]
theorem total_tight {l : List S} {w ind : Int} {ps : List Int} (hs : soundS l w ind ps = true) : ∀ {s : List Int} {a : Int}, -1 ≤ a → chain (l.length : Int) a s = true → tS l w ind s = some (rd ps (endOf l s)) → tight l w ind ps s = true
  | [], a, _, _, _ => rfl
  | x :: r, a, ha, hc, ht => by
    obtain ⟨_, _, _, _, h5⟩ := sound_facts hs
    rw [chain, Bool.and_eq_true, decide_eq_true_eq] at hc
    have he := chain_end hc.1.2 hc.2
    simp only [tS] at ht
    by_cases c : (lin l w ind x.toNat (endOf l r).toNat).2 = true
    · rw [if_pos c] at ht
      obtain ⟨t', ht', e⟩ := Option.map_eq_some_iff.1 ht
      have hb := bound_le hs (by omega) hc.2 ht'
      have := h5 x.toNat (endOf l r).toNat (by omega) (by omega) c
      rw [Int.toNat_of_nonneg (by omega), Int.toNat_of_nonneg (by omega)] at this
      have e : (lin l w ind x.toNat (endOf l r).toNat).1 + t' = rd ps x := e
      have e1 : t' = rd ps (endOf l r) := by omega
      rw [e1] at ht'
      rw [tight, Bool.and_eq_true, Bool.and_eq_true, decide_eq_true_eq, tight_wrap hs (by omega) (by omega) he.2]
      exact ⟨⟨c, by omega⟩, total_tight hs (by omega) hc.2 ht'⟩
    · rw [if_neg c] at ht
      exact absurd ht (by simp)
theorem starts_chain {n : Int} {s : List Int} (h : startsB n s = true) : chain n (-1) s = true ∧ s.head? = some 0 := by
  unfold startsB at h
  rwa [Bool.and_eq_true, decide_eq_true_eq] at h
theorem starts_end {l : List S} {s : List Int} (h : startsB (l.length : Int) s = true) : endOf l s = 0 := by
  have h2 := (starts_chain h).2
  cases s with
  | nil => simp at h2
  | cons x r => simpa [endOf] using h2
end Go.Proofs.Ytgickognjlapmaa.M46
