/- Layer 46: Total, and what it has to do with potentials. Lemmas only. -/
import Derived.Test.YtgickognjlapmaaG46
import Derived.Test.YtgickognjlapmaaPRx5
namespace Go.Proofs.Ytgickognjlapmaa.M46
open Go.RowKit Go.Proofs.Ytgickognjlapmaa.PR Go.Proofs.Ytgickognjlapmaa.D44 Go.Proofs.YtgickognjlapmaaW.PrintWords Go.Proofs.YtgickognjlapmaaW.PrintLast Go.Proofs.YtgickognjlapmaaW.PrintMore
set_option linter.unusedVariables false
set_option linter.unusedSimpArgs false

/-- The demerits of lines from some start on: the first one for the width v, the others for v'; none if one is not legal. -/
def sumO (l : List S) (v' : Int) : Int → List Int → Option Int
  | _, [] => some 0
  | v, x :: r => if (lineS l x (endOf l r) v).2 = 0 then (sumO l v' v' r).map (fun t => (lineS l x (endOf l r) v).1 + t) else none
def pack (a : Int) : Option Int → Int × Int
  | some t => (a + t, 0)
  | none => (0, 6)

theorem lineS_bound (l : List S) (a b w : Int) : -10000 ≤ (lineS l a b w).1 ∧ (lineS l a b w).1 ≤ 700040000 := by
  unfold lineS
  by_cases h1 : vp l = true ∧ 1 ≤ w ∧ w ≤ 10000000
  · rw [if_pos h1]
    by_cases h2 : 0 ≤ a ∧ a < b ∧ b ≤ (l.length : Int)
    · rw [if_pos h2]
      by_cases h3 : legal l a.toNat b.toNat w = true
      · rw [if_pos h3]
        exact lineD_bound h1.1 (by omega) (by omega) h1.2.1 h1.2.2
      · rw [if_neg h3]; simp
    · rw [if_neg h2]; simp
  · rw [if_neg h1]; simp

/-- What Total tells. -/
def totalS (l : List S) (s : List Int) (w ind : Int) : Int × Int :=
  if vp l = true ∧ 1 ≤ w ∧ w ≤ 10000000 ∧ 0 ≤ ind ∧ ind < w then if startsB (l.length : Int) s = true then pack 0 (sumO l (w - ind) w s) else (0, 4) else (0, 1)

/-- The demerits of lines from some start on, by the problem's lines. -/
def tS (l : List S) (w ind : Int) : List Int → Option Int
  | [] => some 0
  | x :: r => if (lin l w ind x.toNat (endOf l r).toNat).2 = true then (tS l w ind r).map (fun t => (lin l w ind x.toNat (endOf l r).toNat).1 + t) else none
theorem chain_end {l : List S} {x : Int} (hx : x < (l.length : Int)) : ∀ {r : List Int}, chain (l.length : Int) x r = true → x < endOf l r ∧ endOf l r ≤ (l.length : Int)
  | [], _ => ⟨hx, Int.le_refl _⟩
  | y :: r, h => by
    rw [chain, Bool.and_eq_true, decide_eq_true_eq] at h
    exact ⟨h.1.1, Int.le_of_lt h.1.2⟩
theorem lin_eq {l : List S} {w ind : Int} (hf : fits l w ind = true) {x e : Int} (hx : 0 ≤ x) (he : 0 ≤ e) : lin l w ind x.toNat e.toNat = ((lineS l x e (if 0 < x then w - ind else w)).1, ((lineS l x e (if 0 < x then w - ind else w)).2 == 0)) := by
  obtain ⟨hv, h1, h2, h3, h4⟩ := fits_iff.1 hf
  unfold lin
  rw [Int.toNat_of_nonneg hx, Int.toNat_of_nonneg he, wrap_id (x := w - ind) (by omega) (by omega)]
  by_cases c : 0 < x
  · rw [if_pos c, if_pos (by omega)]
  · rw [if_neg c, if_neg (by omega)]
theorem sum_step {l : List S} {w ind v : Int} (hf : fits l w ind = true) {x : Int} {r : List Int} (hx : 0 ≤ x) (hx2 : x < (l.length : Int)) (hc : chain (l.length : Int) x r = true) (hv : v = if 0 < x then w - ind else w) (hr : sumO l (w - ind) (w - ind) r = tS l w ind r) : sumO l (w - ind) v (x :: r) = tS l w ind (x :: r) := by
  have he := chain_end hx2 hc
  simp only [sumO, tS]
  rw [hr, lin_eq hf hx (by omega), ← hv]
  simp only [beq_iff_eq]
theorem sum_rest {l : List S} {w ind : Int} (hf : fits l w ind = true) : ∀ {r : List Int} {a : Int}, 0 ≤ a → chain (l.length : Int) a r = true → sumO l (w - ind) (w - ind) r = tS l w ind r
  | [], _, _, _ => rfl
  | x :: r, a, ha, h => by
    rw [chain, Bool.and_eq_true, decide_eq_true_eq] at h
    exact sum_step hf (by omega) h.1.2 h.2 (by rw [if_pos (by omega)]) (sum_rest hf (by omega) h.2)
theorem sum_all {l : List S} {w ind : Int} (hf : fits l w ind = true) {s : List Int} (h : startsB (l.length : Int) s = true) : sumO l (w - ind) w s = tS l w ind s := by
  unfold startsB at h
  rw [Bool.and_eq_true, decide_eq_true_eq] at h
  cases s with
  | nil => rfl
  | cons x r =>
    obtain ⟨h1, h2⟩ := h
    obtain rfl : x = 0 := by simpa using h2
    rw [chain, Bool.and_eq_true, decide_eq_true_eq] at h1
    exact sum_step hf (by omega) h1.1.2 h1.2 (by rw [if_neg (by omega)]) (sum_rest hf (by omega) h1.2)
theorem total_eq {l : List S} {w ind : Int} (hf : fits l w ind = true) {s : List Int} (h : startsB (l.length : Int) s = true) : totalS l s w ind = pack 0 (tS l w ind s) := by
  unfold totalS
  rw [if_pos (fits_iff.1 hf), if_pos h, sum_all hf h]
theorem total_not {l : List S} {w ind : Int} (hf : fits l w ind = true) {s : List Int} (h : ¬ startsB (l.length : Int) s = true) : totalS l s w ind = (0, 4) := by
  unfold totalS
  rw [if_pos (fits_iff.1 hf), if_neg h]
/-- Sound potentials bound what lines cost. -/
theorem bound_le {l : List S} {w ind : Int} {ps : List Int} (hs : soundS l w ind ps = true) : ∀ {s : List Int} {a t : Int}, -1 ≤ a → chain (l.length : Int) a s = true → tS l w ind s = some t → rd ps (endOf l s) ≤ t
  | [], a, t, _, _, ht => by
    obtain rfl := Option.some.inj ht
    have := (sound_facts hs).2.2.1
    exact Int.le_of_eq this
  | x :: r, a, t, ha, hc, ht => by
    obtain ⟨_, _, _, _, h5⟩ := sound_facts hs
    rw [chain, Bool.and_eq_true, decide_eq_true_eq] at hc
    have he := chain_end hc.1.2 hc.2
    simp only [tS] at ht
    by_cases c : (lin l w ind x.toNat (endOf l r).toNat).2 = true
    · rw [if_pos c] at ht
      obtain ⟨t', ht', rfl⟩ := Option.map_eq_some_iff.1 ht
      have ih := bound_le hs (by omega) hc.2 ht'
      have := h5 x.toNat (endOf l r).toNat (by omega) (by omega) c
      rw [Int.toNat_of_nonneg (by omega), Int.toNat_of_nonneg (by omega)] at this
      show rd ps x ≤ _
      omega
    · rw [if_neg c] at ht
      exact absurd ht (by simp)
theorem tight_wrap {l : List S} {w ind : Int} {ps : List Int} (hs : soundS l w ind ps = true) {x e : Int} (hx : 0 ≤ x) (he : 0 ≤ e) (he2 : e ≤ (l.length : Int)) : wrap64 ((lin l w ind x.toNat e.toNat).1 + rd ps e) = (lin l w ind x.toNat e.toNat).1 + rd ps e := by
  have hb := lin_bd l w ind x.toNat e.toNat
  have hc := (sound_facts hs).2.2.2.1 e.toNat (by omega)
  rw [Int.toNat_of_nonneg he] at hc
  exact wrap_id (by omega) (by omega)
theorem tight_total {l : List S} {w ind : Int} {ps : List Int} (hs : soundS l w ind ps = true) : ∀ {s : List Int} {a : Int}, -1 ≤ a → chain (l.length : Int) a s = true → tight l w ind ps s = true → tS l w ind s = some (rd ps (endOf l s))
  | [], a, _, _, _ => by
    show some (0 : Int) = some (rd ps (l.length : Int))
    rw [(sound_facts hs).2.2.1]
  | x :: r, a, ha, hc, ht => by
    rw [chain, Bool.and_eq_true, decide_eq_true_eq] at hc
    have he := chain_end hc.1.2 hc.2
    rw [tight, Bool.and_eq_true, Bool.and_eq_true, decide_eq_true_eq] at ht
    have ih := tight_total hs (by omega) hc.2 ht.2
    simp only [tS]
    rw [if_pos ht.1.1, ih, Option.map_some]
    have h2 := ht.1.2
    rw [tight_wrap hs (by omega) (by omega) he.2] at h2
    show some _ = some (rd ps x)
    rw [h2]
theorem total_tight {l : List S} {w ind : Int} {ps : List Int} (hs : soundS l w ind ps = true) : ∀ {s : List Int} {a : Int}, -1 ≤ a → chain (l.length : Int) a s = true → tS l w ind s = some (rd ps (endOf l s)) → tight l w ind ps s = true
  | [], a, _, _, _ => rfl
  | x :: r, a, ha, hc, ht => by
    obtain ⟨_, _, _, _, h5⟩ := sound_facts hs
    rw [chain, Bool.and_eq_true, decide_eq_true_eq] at hc
    have he := chain_end hc.1.2 hc.2
    simp only [tS] at ht
    by_cases c : (lin l w ind x.toNat (endOf l r).toNat).2 = true
    · rw [if_pos c] at ht
      obtain ⟨t', ht', e⟩ := Option.map_eq_some_iff.1 ht
      have hb := bound_le hs (by omega) hc.2 ht'
      have := h5 x.toNat (endOf l r).toNat (by omega) (by omega) c
      rw [Int.toNat_of_nonneg (by omega), Int.toNat_of_nonneg (by omega)] at this
      have e : (lin l w ind x.toNat (endOf l r).toNat).1 + t' = rd ps x := e
      have e1 : t' = rd ps (endOf l r) := by omega
      rw [e1] at ht'
      rw [tight, Bool.and_eq_true, Bool.and_eq_true, decide_eq_true_eq, tight_wrap hs (by omega) (by omega) he.2]
      exact ⟨⟨c, by omega⟩, total_tight hs (by omega) hc.2 ht'⟩
    · rw [if_neg c] at ht
      exact absurd ht (by simp)
theorem starts_chain {n : Int} {s : List Int} (h : startsB n s = true) : chain n (-1) s = true ∧ s.head? = some 0 := by
  unfold startsB at h
  rwa [Bool.and_eq_true, decide_eq_true_eq] at h
theorem starts_end {l : List S} {s : List Int} (h : startsB (l.length : Int) s = true) : endOf l s = 0 := by
  have h2 := (starts_chain h).2
  cases s with
  | nil => simp at h2
  | cons x r => simpa [endOf] using h2
end Go.Proofs.Ytgickognjlapmaa.M46
