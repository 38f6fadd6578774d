/- Layer 46: what Bound and Check come to. Lemmas only. -/
import Derived.Test.YtliegocbkgdhcaaM46
namespace Go.Proofs.Ytliegocbkgdhcaa.M46
open Go.RowKit Go.Proofs.Ytliegocbkgdhcaa.PB Go.Proofs.Ytliegocbkgdhcaa.D44 Go.Proofs.YtliegocbkgdhcaaW.PrintWords Go.Proofs.YtliegocbkgdhcaaW.PrintLast Go.Proofs.YtliegocbkgdhcaaW.PrintMore
set_option linter.unusedVariables false
set_option linter.unusedSimpArgs false

/-- Potentials are sound. -/
def soundS (l : List S) (w ind : Int) (ps : List Int) : Bool := fits l w ind && (decide (ps.length = l.length + 1) && (decide (rd ps (l.length : Int) = 0) && (ps.all certificate_Bound.r && (List.range' 0 l.length).all (fun i => !(row l w ind i (i + 1) (l.length - i)).any (certificate_Bound.v ps (i : Int))))))
theorem bound_l {l : List S} (hn : l.length ≤ 1000) (hw : ∀ p ∈ l, WfP p) (w ind : Int) (ps : List Int) {k : Nat} (hk : l.length + 2 < k) : ∀ e, e ≤ l.length → certificate_Bound.l k l w ind ps e = some ((List.range' (l.length - e) e).all (fun i => !(row l w ind i (i + 1) (l.length - i)).any (certificate_Bound.v ps (i : Int))))
  | 0, _ => rfl
  | e + 1, he => by
    simp only [certificate_Bound.l]
    rw [from_f hn hw w ind _ hk, Option.bind_some, bound_l hn hw w ind ps hk e (by omega), List.range'_succ, List.all_cons, show l.length - (e + 1) + 1 = l.length - e by omega]
    cases (row l w ind (l.length - (e + 1)) (l.length - e) (l.length - (l.length - (e + 1)))).any (certificate_Bound.v ps ((l.length - (e + 1) : Nat) : Int)) with
    | true => rfl
    | false => rfl
theorem bound_f {l : List S} (hn : l.length ≤ 1000) (hw : ∀ p ∈ l, WfP p) (w ind : Int) (ps : List Int) {k : Nat} (hk : l.length + 2 < k) : certificate_Bound.f k l w ind ps = some (if soundS l w ind ps = true then (rd ps 0, true) else (0, false)) := by
  unfold certificate_Bound.f soundS
  rw [if_pos hn, valid_f hn hw w ind hk, Option.bind_some]
  by_cases h : fits l w ind = true
  · rw [if_pos h, h, Bool.true_and]
    by_cases c1 : ps.length = l.length + 1
    · rw [if_pos c1, decide_eq_true c1, Bool.true_and]
      by_cases c2 : rd ps (l.length : Int) = 0
      · rw [if_pos c2, decide_eq_true c2, Bool.true_and]
        by_cases c3 : ps.all certificate_Bound.r = true
        · rw [if_pos c3, c3, Bool.true_and, bound_l hn hw w ind ps hk _ (Nat.le_refl _), Option.bind_some, Nat.sub_self]
          split
          · rfl
          · rfl
        · rw [if_neg c3, Bool.not_eq_true _ |>.mp c3, Bool.false_and]
          rfl
      · rw [if_neg c2, decide_eq_false c2, Bool.false_and]
        rfl
    · rw [if_neg c1, decide_eq_false c1, Bool.false_and]
      rfl
  · rw [if_neg h, Bool.not_eq_true _ |>.mp h, Bool.false_and]
    rfl

/-! ### Starts -/
def chain (n : Int) : Int → List Int → Bool
  | _, [] => true
  | a, x :: r => decide (a < x ∧ x < n) && chain n x r
/-- A list consists of starts of n pieces. -/
def startsB (n : Int) (s : List Int) : Bool := chain n (-1) s && decide (s.head? = some 0)
/-- Where a line ends: at the next start, or behind all pieces. -/
def endOf (l : List S) : List Int → Int
  | [] => (l.length : Int)
  | y :: _ => y
/-- Every line is legal, and the potential at its start is its demerits with the potential at its end. -/
def tight (l : List S) (w ind : Int) (ps : List Int) : List Int → Bool
  | [] => true
  | x :: r => ((lin l w ind x.toNat (endOf l r).toNat).2 && decide (rd ps x = wrap64 ((lin l w ind x.toNat (endOf l r).toNat).1 + rd ps (endOf l r)))) && tight l w ind ps r
/-- The same, with the program's look at the ends. -/
def pk (l : List S) (w ind : Int) (ps : List Int) : List Int → Bool
  | [] => true
  | x :: r => decide (x < endOf l r ∧ endOf l r ≤ (l.length : Int)) && (((lin l w ind x.toNat (endOf l r).toNat).2 && decide (rd ps x = wrap64 ((lin l w ind x.toNat (endOf l r).toNat).1 + rd ps (endOf l r)))) && pk l w ind ps r)
theorem pk_iff {l : List S} {w ind : Int} {ps : List Int} : ∀ {r : List Int} {x : Int}, pk l w ind ps (x :: r) = true ↔ x < (l.length : Int) ∧ chain (l.length : Int) x r = true ∧ tight l w ind ps (x :: r) = true
  | [], x => by
    simp only [pk, chain, tight, endOf, Bool.and_eq_true, decide_eq_true_eq, Bool.and_true, and_true, true_and, Int.le_refl]
  | y :: r, x => by
    have ih := pk_iff (l := l) (w := w) (ind := ind) (ps := ps) (r := r) (x := y)
    rw [show pk l w ind ps (x :: y :: r) = (decide (x < y ∧ y ≤ (l.length : Int)) && (((lin l w ind x.toNat y.toNat).2 && decide (rd ps x = wrap64 ((lin l w ind x.toNat y.toNat).1 + rd ps y))) && pk l w ind ps (y :: r))) from rfl,
      show tight l w ind ps (x :: y :: r) = (((lin l w ind x.toNat y.toNat).2 && decide (rd ps x = wrap64 ((lin l w ind x.toNat y.toNat).1 + rd ps y))) && tight l w ind ps (y :: r)) from rfl,
      show chain (l.length : Int) x (y :: r) = (decide (x < y ∧ y < (l.length : Int)) && chain (l.length : Int) y r) from rfl]
    rw [Bool.and_eq_true (decide (x < y ∧ y ≤ (l.length : Int))), Bool.and_eq_true _ (pk l w ind ps (y :: r)), ih, Bool.and_eq_true _ (chain (l.length : Int) y r), Bool.and_eq_true _ (tight l w ind ps (y :: r)), decide_eq_true_eq, decide_eq_true_eq]
    constructor
    · rintro ⟨⟨h1, h2⟩, h3, h4, h5, h6⟩
      exact ⟨by omega, ⟨⟨h1, h4⟩, h5⟩, h3, h6⟩
    · rintro ⟨h1, ⟨⟨h2, h3⟩, h4⟩, h5, h6⟩
      exact ⟨⟨h2, by omega⟩, h5, h3, h4, h6⟩
theorem endOf_next (l : List S) (s : List Int) {i : Nat} (hi : i < s.length) : endOf l (s.drop (i + 1)) = if h : i + 1 < s.length then s[i + 1] else (l.length : Int) := by
  by_cases h : i + 1 < s.length
  · rw [dif_pos h, List.drop_eq_getElem_cons h]; rfl
  · rw [dif_neg h, List.drop_of_length_le (by omega)]; rfl
/-- What Check tells. -/
def checkS (l : List S) (w ind : Int) (s ps : List Int) : Bool := soundS l w ind ps && (startsB (l.length : Int) s && tight l w ind ps s)
theorem sound_len {l : List S} {w ind : Int} {ps : List Int} (h : soundS l w ind ps = true) : ps.length = l.length + 1 := by
  unfold soundS at h
  simp only [Bool.and_eq_true, decide_eq_true_eq] at h
  exact h.2.1
theorem lineP' {l : List S} (hn : l.length ≤ 1000) (hw : ∀ p ∈ l, WfP p) (w ind : Int) {i j : Int} (hi : 0 ≤ i) (hj : 0 ≤ j) {k : Nat} (hk : l.length + 2 < k) : certificate_problem_line.f k l w ind i j = some (lin l w ind i.toNat j.toNat) := by
  rw [← lineP hn hw w ind _ _ hk, Int.toNat_of_nonneg hi, Int.toNat_of_nonneg hj]
theorem check_loop {l : List S} (hn : l.length ≤ 1000) (hw : ∀ p ∈ l, WfP p) (w ind : Int) (s ps : List Int) (hps : ps.length = l.length + 1) (hs : s.length ≤ 4611686018427387904) (d : Nat) : ∀ (k i : Nat), i ≤ s.length → s.length - i = d → (∀ h : i < s.length, 0 ≤ s[i]) → l.length + 10 + 3 * d ≤ k →
    certificate_Check.l0 k l s ps s (s.length : Int) (i : Int) l w ind = some (pk l w ind ps (s.drop i)) := by
  induction d with
  | zero =>
    intro k i hi hd h0 hk
    obtain ⟨k, rfl⟩ : ∃ m, k = m + 1 := ⟨k - 1, by omega⟩
    simp only [certificate_Check.l0]
    rw [if_neg (by omega), List.drop_of_length_le (by omega)]
    rfl
  | succ d ih =>
    intro k i hi hd h0 hk
    obtain ⟨k, rfl⟩ : ∃ m, k = m + 1 := ⟨k - 1, by omega⟩
    have hlt : i < s.length := by omega
    have h0' := h0 hlt
    have step : ∀ e : Int, e = endOf l (s.drop (i + 1)) → certificate_Check.j2 k l s ps s[i] e s (s.length : Int) (i : Int) l w ind = some (pk l w ind ps (s.drop i)) := by
      rintro e he
      obtain ⟨k, rfl⟩ : ∃ m, k = m + 2 := ⟨k - 2, by omega⟩
      rw [List.drop_eq_getElem_cons hlt]
      simp only [pk, ← he]
      simp only [certificate_Check.j2]
      by_cases c1 : e ≤ s[i]
      · rw [if_pos c1, decide_eq_false (by omega), Bool.false_and]
        simp only [certificate_Check.j3, if_true]
      · rw [if_neg c1]
        by_cases c2 : e > (l.length : Int)
        · rw [decide_eq_true c2, decide_eq_false (by omega), Bool.false_and]
          simp only [certificate_Check.j3, if_true]
        · rw [decide_eq_false c2, decide_eq_true (show s[i] < e ∧ e ≤ (l.length : Int) by omega), Bool.true_and]
          simp only [certificate_Check.j3]
          rw [if_neg (by simp), lineP' hn hw w ind h0' (by omega) (by omega), Option.bind_some]
          by_cases c3 : (lin l w ind s[i].toNat e.toNat).2 = true
          · rw [if_pos c3, if_pos h0', if_pos (show s[i] < (ps.length : Int) by omega), if_pos (show (0 : Int) ≤ e by omega), if_pos (show e < (ps.length : Int) by omega), c3, Bool.true_and]
            by_cases c4 : rd ps s[i] = wrap64 ((lin l w ind s[i].toNat e.toNat).1 + rd ps e)
            · rw [if_pos c4, decide_eq_true c4, Bool.true_and, len_succ hlt (by omega)]
              refine ih k (i + 1) (by omega) (by omega) (fun h => ?_) (by omega)
              have := endOf_next l s hlt
              rw [dif_pos h] at this
              omega
            · rw [if_neg c4, decide_eq_false c4, Bool.false_and]
          · rw [if_neg c3, Bool.not_eq_true _ |>.mp c3, Bool.false_and, Bool.false_and]
    simp only [certificate_Check.l0]
    rw [if_pos (by omega), if_pos (by omega), if_pos (by omega), len_succ hlt (by omega), rd_int hlt]
    have he := endOf_next l s hlt
    by_cases h3 : i + 1 < s.length
    · rw [if_pos (by omega), if_pos (by omega), rd_int h3]
      rw [dif_pos h3] at he
      exact step _ he.symm
    · rw [if_neg (by omega)]
      rw [dif_neg h3] at he
      exact step _ he.symm
theorem check_f {l : List S} (hn : l.length ≤ 1000) (hw : ∀ p ∈ l, WfP p) (w ind : Int) (s ps : List Int) (hs : s.length ≤ 1000) {k : Nat} (hk : l.length + 20 + 3 * s.length ≤ k) : certificate_Check.f k l w ind s ps = some (checkS l w ind s ps) := by
  unfold certificate_Check.f checkS
  obtain ⟨k, rfl⟩ : ∃ m, k = m + 1 := ⟨k - 1, by omega⟩
  rw [bound_f hn hw w ind ps (by omega), Option.bind_some]
  by_cases h : soundS l w ind ps = true
  · rw [if_pos h, if_pos (by rfl), h, Bool.true_and]
    cases s with
    | nil =>
      rw [if_pos (by rfl)]
      simp only [certificate_Check.j0, if_true]
      rfl
    | cons x r =>
      rw [if_neg (by simp only [List.length_cons]; omega), if_pos (by simp only [List.length_cons]; omega), show rd (x :: r) 0 = x from rfl]
      simp only [certificate_Check.j0]
      by_cases c : x = 0
      · subst c
        rw [show ((0 : Int) != 0) = false from rfl, if_neg (by simp)]
        have := check_loop hn hw w ind (0 :: r) ps (sound_len h) (by omega) (0 :: r).length k 0 (by omega) (by omega) (fun _ => by simp) (by omega)
        rw [show ((0 : Nat) : Int) = 0 from rfl] at this
        rw [this, List.drop_zero]
        congr 1
        have hl : 1 ≤ l.length := by
          unfold soundS at h
          simp only [Bool.and_eq_true, decide_eq_true_eq] at h
          exact (vp_len (fits_iff.1 h.1).1).1
        rw [Bool.eq_iff_iff, pk_iff, Bool.and_eq_true]
        unfold startsB
        rw [Bool.and_eq_true, chain, Bool.and_eq_true, decide_eq_true_eq, decide_eq_true_eq]
        constructor
        · rintro ⟨h1, h2, h3⟩
          exact ⟨⟨⟨⟨by omega, h1⟩, h2⟩, rfl⟩, h3⟩
        · rintro ⟨⟨⟨⟨_, h1⟩, h2⟩, _⟩, h3⟩
          exact ⟨h1, h2, h3⟩
      · rw [show (x != 0) = true from bne_iff_ne.2 c, if_pos rfl]
        have : startsB (l.length : Int) (x :: r) = false := by
          unfold startsB
          rw [decide_eq_false (show ¬ (x :: r).head? = some 0 by simpa using c), Bool.and_false]
        rw [this, Bool.false_and]
  · rw [if_neg h, if_neg (by simp), Bool.not_eq_true _ |>.mp h, Bool.false_and]
    simp only [certificate_Check.j0, if_true]
end Go.Proofs.Ytliegocbkgdhcaa.M46
