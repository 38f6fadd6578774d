/- Layer 46: what Bound and Check come to. Lemmas only. -/
import Derived.Test.YtgickognjlapmaaM46
namespace Go.Proofs.Ytgickognjlapmaa.M46
open Go.RowKit Go.Proofs.Ytgickognjlapmaa.PR Go.Proofs.Ytgickognjlapmaa.D44 Go.Proofs.YtgickognjlapmaaW.PrintWords Go.Proofs.YtgickognjlapmaaW.PrintLast Go.Proofs.YtgickognjlapmaaW.PrintMore
set_option linter.unusedVariables false
set_option linter.unusedSimpArgs false

/-- Potentials are sound. -/
def soundS (l : List S) (w ind : Int) (ps : List Int) : Bool := fits l w ind && (decide (ps.length = l.length + 1) && (decide (rd ps (l.length : Int) = 0) && (ps.all certificate_Bound.r && (List.range' 0 l.length).all (fun i => !(row l w ind i (i + 1) (l.length - i)).any (certificate_Bound.v ps (i : Int))))))
/-! ### Starts -/
def chain (n : Int) : Int → List Int → Bool
  | _, [] => true
  | a, x :: r => decide (a < x ∧ x < n) && chain n x r
/-- A list consists of starts of n pieces. -/
def startsB (n : Int) (s : List Int) : Bool := chain n (-1) s && decide (s.head? = some 0)
/-- Where a line ends: at the next start, or behind all pieces. -/
def endOf (l : List S) : List Int → Int
  | [] => (l.length : Int)
  | y :: _ => y
/-- Every line is legal, and the potential at its start is its demerits with the potential at its end. -/
def tight (l : List S) (w ind : Int) (ps : List Int) : List Int → Bool
  | [] => true
  | x :: r => ((lin l w ind x.toNat (endOf l r).toNat).2 && decide (rd ps x = wrap64 ((lin l w ind x.toNat (endOf l r).toNat).1 + rd ps (endOf l r)))) && tight l w ind ps r
/-- The same, with the program's look at the ends. -/
def pk (l : List S) (w ind : Int) (ps : List Int) : List Int → Bool
  | [] => true
  | x :: r => decide (x < endOf l r ∧ endOf l r ≤ (l.length : Int)) && (((lin l w ind x.toNat (endOf l r).toNat).2 && decide (rd ps x = wrap64 ((lin l w ind x.toNat (endOf l r).toNat).1 + rd ps (endOf l r)))) && pk l w ind ps r)
theorem pk_iff {l : List S} {w ind : Int} {ps : List Int} : ∀ {r : List Int} {x : Int}, pk l w ind ps (x :: r) = true ↔ x < (l.length : Int) ∧ chain (l.length : Int) x r = true ∧ tight l w ind ps (x :: r) = true
  | [], x => by
    simp only [pk, chain, tight, endOf, Bool.and_eq_true, decide_eq_true_eq, Bool.and_true, and_true, true_and, Int.le_refl]
  | y :: r, x => by
    have ih := pk_iff (l := l) (w := w) (ind := ind) (ps := ps) (r := r) (x := y)
    rw [show pk l w ind ps (x :: y :: r) = (decide (x < y ∧ y ≤ (l.length : Int)) && (((lin l w ind x.toNat y.toNat).2 && decide (rd ps x = wrap64 ((lin l w ind x.toNat y.toNat).1 + rd ps y))) && pk l w ind ps (y :: r))) from rfl,
      show tight l w ind ps (x :: y :: r) = (((lin l w ind x.toNat y.toNat).2 && decide (rd ps x = wrap64 ((lin l w ind x.toNat y.toNat).1 + rd ps y))) && tight l w ind ps (y :: r)) from rfl,
      show chain (l.length : Int) x (y :: r) = (decide (x < y ∧ y < (l.length : Int)) && chain (l.length : Int) y r) from rfl]
    rw [Bool.and_eq_true (decide (x < y ∧ y ≤ (l.length : Int))), Bool.and_eq_true _ (pk l w ind ps (y :: r)), ih, Bool.and_eq_true _ (chain (l.length : Int) y r), Bool.and_eq_true _ (tight l w ind ps (y :: r)), decide_eq_true_eq, decide_eq_true_eq]
    constructor
    · rintro ⟨⟨h1, h2⟩, h3, h4, h5, h6⟩
      exact ⟨by omega, ⟨⟨h1, h4⟩, h5⟩, h3, h6⟩
    · rintro ⟨h1, ⟨⟨h2, h3⟩, h4⟩, h5, h6⟩
      exact ⟨⟨h2, by omega⟩, h5, h3, h4, h6⟩
theorem endOf_next (l : List S) (s : List Int) {i : Nat} (hi : i < s.length) : endOf l (s.drop (i + 1)) = if h : i + 1 < s.length then s[i + 1] else (l.length : Int) := by
  by_cases h : i + 1 < s.length
  · rw [dif_pos h, List.drop_eq_getElem_cons h]; rfl
  · rw [dif_neg h, List.drop_of_length_le (by omega)]; rfl
/-- What Check tells. -/
def checkS (l : List S) (w ind : Int) (s ps : List Int) : Bool := soundS l w ind ps && (startsB (l.length : Int) s && tight l w ind ps s)
theorem sound_len {l : List S} {w ind : Int} {ps : List Int} (h : soundS l w ind ps = true) : ps.length = l.length + 1 := by
  unfold soundS at h
  simp only [Bool.and_eq_true, decide_eq_true_eq] at h
  exact h.2.1
end Go.Proofs.Ytgickognjlapmaa.M46
