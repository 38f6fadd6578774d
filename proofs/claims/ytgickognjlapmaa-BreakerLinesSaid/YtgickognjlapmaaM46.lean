/- Layer 46: what a line, from, Make and the reference's Make come to. Lemmas only. -/
import Derived.Test.YtgickognjlapmaaD44
namespace Go.Proofs.Ytgickognjlapmaa.M46
open Go.RowKit Go.Proofs.Ytgickognjlapmaa.PR Go.Proofs.Ytgickognjlapmaa.D44 Go.Proofs.YtgickognjlapmaaW.PrintWords Go.Proofs.YtgickognjlapmaaW.PrintLast Go.Proofs.YtgickognjlapmaaW.PrintMore
set_option linter.unusedVariables false
set_option linter.unusedSimpArgs false

def certificate_Make.s (i : Int) (s : List Int × Bool) (x : Int × Int) : List Int × Bool := if s.2 = false ∨ wrap64 (x.2 + rd s.1 x.1) < rd s.1 i then (s.1.set i.toNat (wrap64 (x.2 + rd s.1 x.1)), true) else s
def certificate_Bound.v (ps : List Int) (i : Int) (x : Int × Int) : Bool := decide (rd ps i > wrap64 (x.2 + rd ps x.1))
def certificate_Bound.r (x : Int) : Bool := decide (-1099511627776 ≤ x ∧ x ≤ 1099511627776)
theorem bound_r_true {z : Int} (h : certificate_Bound.r z = true) : -1099511627776 ≤ z ∧ z ≤ 1099511627776 := of_decide_eq_true h
/-- A line of a problem: its demerits, and is it legal. -/
def lin (l : List S) (w ind : Int) (i j : Nat) : Int × Bool := ((lineS l i j (if 0 < i then wrap64 (w - ind) else w)).1, ((lineS l i j (if 0 < i then wrap64 (w - ind) else w)).2 == 0))
def g (l : List S) (w ind : Int) (i j : Nat) : Option (Int × Int) := if (lin l w ind i j).2 = true then some ((j : Int), (lin l w ind i j).1) else none
/-- The legal ones of the d lines from i that end at j or behind it. -/
def row (l : List S) (w ind : Int) (i j d : Nat) : List (Int × Int) := (List.range' j d).filterMap (g l w ind i)
theorem row_zero (l : List S) (w ind : Int) (i j : Nat) : row l w ind i j 0 = [] := rfl
theorem row_yes {l : List S} {w ind : Int} {i j : Nat} (d : Nat) (h : (lin l w ind i j).2 = true) : row l w ind i j (d + 1) = ((j : Int), (lin l w ind i j).1) :: row l w ind i (j + 1) d := by
  unfold row
  rw [List.range'_succ, List.filterMap_cons_some (b := ((j : Int), (lin l w ind i j).1)) (by unfold g; rw [if_pos h])]
theorem row_no {l : List S} {w ind : Int} {i j : Nat} (d : Nat) (h : ¬ (lin l w ind i j).2 = true) : row l w ind i j (d + 1) = row l w ind i (j + 1) d := by
  unfold row
  rw [List.range'_succ, List.filterMap_cons_none (by unfold g; rw [if_neg h])]
theorem mem_row {l : List S} {w ind : Int} {i j d : Nat} {y : Int × Int} : y ∈ row l w ind i j d ↔ ∃ t, (j ≤ t ∧ t < j + d) ∧ (lin l w ind i t).2 = true ∧ y = ((t : Int), (lin l w ind i t).1) := by
  unfold row
  rw [List.mem_filterMap]
  constructor
  · rintro ⟨t, ht, hg⟩
    rw [List.mem_range'_1] at ht
    unfold g at hg
    by_cases c : (lin l w ind i t).2 = true
    · rw [if_pos c] at hg
      exact ⟨t, ht, c, (Option.some.inj hg).symm⟩
    · rw [if_neg c] at hg
      exact absurd hg (by simp)
  · rintro ⟨t, ht, c, rfl⟩
    exact ⟨t, List.mem_range'_1.2 ht, by unfold g; rw [if_pos c]⟩
/-- The places below m are filled, from the last one on. -/
def mk (l : List S) (w ind : Int) : Nat → List Int → List Int
  | 0, o => o
  | m + 1, o => mk l w ind m ((row l w ind m (m + 1) (l.length - m)).foldl (certificate_Make.s (m : Int)) (o, false)).1
/-- A problem is valid. -/
def fits (l : List S) (w ind : Int) : Bool := vp l && decide (1 ≤ w ∧ w ≤ 10000000 ∧ 0 ≤ ind ∧ ind < w)
theorem fits_iff {l : List S} {w ind : Int} : fits l w ind = true ↔ vp l = true ∧ 1 ≤ w ∧ w ≤ 10000000 ∧ 0 ≤ ind ∧ ind < w := by
  unfold fits
  rw [Bool.and_eq_true, decide_eq_true_eq]
/-- What Make tells. -/
def makeS (l : List S) (w ind : Int) : List Int × Int := if fits l w ind = true then (mk l w ind l.length (List.replicate (l.length + 1) 0), 0) else ([], 1)
theorem fits_f (a b : Int) (ha : (Lit.int .i64 a).wf = true) : vinculumref44_Fits.f a b = some (decide (1 ≤ a ∧ a ≤ 10000000 ∧ 0 ≤ b ∧ b < a)) := by
  unfold vinculumref44_Fits.f
  rw [wf64] at ha
  rw [within_f]
  simp only [Option.bind_some]
  by_cases h : 1 ≤ a ∧ a ≤ 10000000
  · rw [decide_eq_true h, if_pos rfl, within_f, wrap_id (by omega) (by omega)]
    simp only [Option.bind_some, Option.some.injEq]
    rw [Bool.eq_iff_iff, decide_eq_true_eq, decide_eq_true_eq]
    omega
  · rw [decide_eq_false h, if_neg (by simp), decide_eq_false (by omega)]

theorem s_len (i : Int) (s : List Int × Bool) (x : Int × Int) : (certificate_Make.s i s x).1.length = s.1.length := by
  unfold certificate_Make.s
  split
  · exact List.length_set
  · rfl
theorem fold_len (i : Int) : ∀ (ys : List (Int × Int)) (s : List Int × Bool), (ys.foldl (certificate_Make.s i) s).1.length = s.1.length
  | [], _ => rfl
  | y :: ys, s => by rw [List.foldl_cons, fold_len i ys, s_len]
theorem mk_len (l : List S) (w ind : Int) : ∀ m o, (mk l w ind m o).length = o.length
  | 0, _ => rfl
  | m + 1, o => by
    simp only [mk]
    rw [mk_len l w ind m, fold_len]

theorem makeS_len (l : List S) (w ind : Int) : (makeS l w ind).1.length = if fits l w ind = true then l.length + 1 else 0 := by
  unfold makeS
  split
  · rw [mk_len, List.length_replicate]
  · rfl
end Go.Proofs.Ytgickognjlapmaa.M46
