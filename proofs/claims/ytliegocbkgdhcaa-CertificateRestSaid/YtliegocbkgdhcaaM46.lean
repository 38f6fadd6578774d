/- Layer 46: what a line, from, Make and the reference's Make come to. Lemmas only. -/
import Derived.Test.YtliegocbkgdhcaaD44
namespace Go.Proofs.Ytliegocbkgdhcaa.M46
open Go.RowKit Go.Proofs.Ytliegocbkgdhcaa.PB Go.Proofs.Ytliegocbkgdhcaa.D44 Go.Proofs.YtliegocbkgdhcaaW.PrintWords Go.Proofs.YtliegocbkgdhcaaW.PrintLast Go.Proofs.YtliegocbkgdhcaaW.PrintMore
set_option linter.unusedVariables false
set_option linter.unusedSimpArgs false

/-- A line of a problem: its demerits, and is it legal. -/
def lin (l : List S) (w ind : Int) (i j : Nat) : Int × Bool := ((lineS l i j (if 0 < i then wrap64 (w - ind) else w)).1, ((lineS l i j (if 0 < i then wrap64 (w - ind) else w)).2 == 0))
theorem lineP {l : List S} (hn : l.length ≤ 1000) (hw : ∀ p ∈ l, WfP p) (w ind : Int) (i j : Nat) {k : Nat} (hk : l.length + 2 < k) : certificate_problem_line.f k l w ind (i : Int) (j : Int) = some (lin l w ind i j) := by
  unfold certificate_problem_line.f lin
  by_cases h : 0 < i
  · rw [if_pos (by omega), if_pos h, demLine l (by omega) hw _ _ _ k hk]; rfl
  · rw [if_neg (by omega), if_neg h, demLine l (by omega) hw _ _ _ k hk]; rfl
def g (l : List S) (w ind : Int) (i j : Nat) : Option (Int × Int) := if (lin l w ind i j).2 = true then some ((j : Int), (lin l w ind i j).1) else none
/-- The legal ones of the d lines from i that end at j or behind it. -/
def row (l : List S) (w ind : Int) (i j d : Nat) : List (Int × Int) := (List.range' j d).filterMap (g l w ind i)
theorem row_zero (l : List S) (w ind : Int) (i j : Nat) : row l w ind i j 0 = [] := rfl
theorem row_yes {l : List S} {w ind : Int} {i j : Nat} (d : Nat) (h : (lin l w ind i j).2 = true) : row l w ind i j (d + 1) = ((j : Int), (lin l w ind i j).1) :: row l w ind i (j + 1) d := by
  unfold row
  rw [List.range'_succ, List.filterMap_cons_some (b := ((j : Int), (lin l w ind i j).1)) (by unfold g; rw [if_pos h])]
theorem row_no {l : List S} {w ind : Int} {i j : Nat} (d : Nat) (h : ¬ (lin l w ind i j).2 = true) : row l w ind i j (d + 1) = row l w ind i (j + 1) d := by
  unfold row
  rw [List.range'_succ, List.filterMap_cons_none (by unfold g; rw [if_neg h])]
theorem mem_row {l : List S} {w ind : Int} {i j d : Nat} {y : Int × Int} : y ∈ row l w ind i j d ↔ ∃ t, (j ≤ t ∧ t < j + d) ∧ (lin l w ind i t).2 = true ∧ y = ((t : Int), (lin l w ind i t).1) := by
  unfold row
  rw [List.mem_filterMap]
  constructor
  · rintro ⟨t, ht, hg⟩
    rw [List.mem_range'_1] at ht
    unfold g at hg
    by_cases c : (lin l w ind i t).2 = true
    · rw [if_pos c] at hg
      exact ⟨t, ht, c, (Option.some.inj hg).symm⟩
    · rw [if_neg c] at hg
      exact absurd hg (by simp)
  · rintro ⟨t, ht, c, rfl⟩
    exact ⟨t, List.mem_range'_1.2 ht, by unfold g; rw [if_pos c]⟩
theorem from_f {l : List S} (hn : l.length ≤ 1000) (hw : ∀ p ∈ l, WfP p) (w ind : Int) (i : Nat) {k : Nat} (hk : l.length + 2 < k) : ∀ m, certificate_problem_from.l k l w ind (i : Int) m = some (row l w ind i (i + 1) m)
  | 0 => rfl
  | m + 1 => by
    simp only [certificate_problem_from.l]
    rw [from_f hn hw w ind i hk m, Option.bind_some, show (i : Int) + 1 + (m : Int) = ((i + 1 + m : Nat) : Int) by omega, lineP hn hw w ind i (i + 1 + m) hk, Option.bind_some]
    unfold row
    rw [List.range'_concat, List.filterMap_append, Nat.one_mul]
    by_cases c : (lin l w ind i (i + 1 + m)).2 = true
    · rw [if_pos c, List.filterMap_cons_some (b := (((i + 1 + m : Nat) : Int), (lin l w ind i (i + 1 + m)).1)) (by unfold g; rw [if_pos c])]
      rfl
    · rw [if_neg c, List.filterMap_cons_none (by unfold g; rw [if_neg c]), List.filterMap_nil, List.append_nil]

/-- The places below m are filled, from the last one on. -/
def mk (l : List S) (w ind : Int) : Nat → List Int → List Int
  | 0, o => o
  | m + 1, o => mk l w ind m ((row l w ind m (m + 1) (l.length - m)).foldl (certificate_Make.s (m : Int)) (o, false)).1
theorem make_l {l : List S} (hn : l.length ≤ 1000) (hw : ∀ p ∈ l, WfP p) (w ind : Int) {k : Nat} (hk : l.length + 2 < k) : ∀ m o, certificate_Make.l k l w ind m o = some (mk l w ind m o)
  | 0, _ => rfl
  | m + 1, o => by
    simp only [certificate_Make.l]
    rw [from_f hn hw w ind m hk, Option.bind_some, make_l hn hw w ind hk m]
    rfl
/-- A problem is valid. -/
def fits (l : List S) (w ind : Int) : Bool := vp l && decide (1 ≤ w ∧ w ≤ 10000000 ∧ 0 ≤ ind ∧ ind < w)
theorem fits_iff {l : List S} {w ind : Int} : fits l w ind = true ↔ vp l = true ∧ 1 ≤ w ∧ w ≤ 10000000 ∧ 0 ≤ ind ∧ ind < w := by
  unfold fits
  rw [Bool.and_eq_true, decide_eq_true_eq]
theorem valid_f {l : List S} (hn : l.length ≤ 1000) (hw : ∀ p ∈ l, WfP p) (w ind : Int) {k : Nat} (hk : l.length + 2 < k) : certificate_problem_valid.f k l w ind = some (fits l w ind) := by
  unfold certificate_problem_valid.f fits
  rw [demValid l (by omega) hw k (by omega), Option.bind_some]
  by_cases h : vp l = true
  · rw [if_pos h, h, Bool.true_and]
    by_cases c1 : w ≥ 1
    · by_cases c2 : w ≤ 10000000
      · by_cases c3 : ind ≥ 0
        · rw [if_pos c1, if_pos c2, if_pos c3]
          congr 1
          rw [Bool.eq_iff_iff, decide_eq_true_eq, decide_eq_true_eq]
          omega
        · rw [if_pos c1, if_pos c2, if_neg c3, decide_eq_false (by omega)]
      · rw [if_pos c1, if_neg c2, decide_eq_false (by omega)]
    · rw [if_neg c1, decide_eq_false (by omega)]
  · rw [if_neg h, Bool.not_eq_true _ |>.mp h, Bool.false_and]
/-- What Make tells. -/
def makeS (l : List S) (w ind : Int) : List Int × Int := if fits l w ind = true then (mk l w ind l.length (List.replicate (l.length + 1) 0), 0) else ([], 1)
theorem make_f {l : List S} (hn : l.length ≤ 1000) (hw : ∀ p ∈ l, WfP p) (w ind : Int) {k : Nat} (hk : l.length + 2 < k) : certificate_Make.f k l w ind = some (makeS l w ind) := by
  unfold certificate_Make.f makeS
  rw [valid_f hn hw w ind hk, Option.bind_some]
  by_cases h : fits l w ind = true
  · rw [if_pos h, if_pos hn, make_l hn hw w ind hk, if_pos h]
    rfl
  · rw [if_neg h, if_neg h]
theorem fits_f (a b : Int) (ha : (Lit.int .i64 a).wf = true) : vinculumref44_Fits.f a b = some (decide (1 ≤ a ∧ a ≤ 10000000 ∧ 0 ≤ b ∧ b < a)) := by
  unfold vinculumref44_Fits.f
  rw [wf64] at ha
  rw [within_f]
  simp only [Option.bind_some]
  by_cases h : 1 ≤ a ∧ a ≤ 10000000
  · rw [decide_eq_true h, if_pos rfl, within_f, wrap_id (by omega) (by omega)]
    simp only [Option.bind_some, Option.some.injEq]
    rw [Bool.eq_iff_iff, decide_eq_true_eq, decide_eq_true_eq]
    omega
  · rw [decide_eq_false h, if_neg (by simp), decide_eq_false (by omega)]

theorem refFits_f {l : List S} (hn : l.length ≤ 1000) (w ind : Int) (hww : (Lit.int .i64 w).wf = true) {k : Nat} (hk : l.length + 2 < k) : vinculumref46_Fits.f k l w ind = some (fits l w ind) := by
  unfold vinculumref46_Fits.f
  rw [refValid l (by omega) k (by omega), Option.bind_some]
  by_cases h : vp l = true
  · rw [if_pos h, fits_f w ind hww, Option.bind_some]
    unfold fits
    rw [h, Bool.true_and]
  · rw [if_neg h]
    unfold fits
    rw [Bool.not_eq_true _ |>.mp h, Bool.false_and]

theorem s_len (i : Int) (s : List Int × Bool) (x : Int × Int) : (certificate_Make.s i s x).1.length = s.1.length := by
  unfold certificate_Make.s
  split
  · exact List.length_set
  · rfl
theorem fold_len (i : Int) : ∀ (ys : List (Int × Int)) (s : List Int × Bool), (ys.foldl (certificate_Make.s i) s).1.length = s.1.length
  | [], _ => rfl
  | y :: ys, s => by rw [List.foldl_cons, fold_len i ys, s_len]
theorem mk_len (l : List S) (w ind : Int) : ∀ m o, (mk l w ind m o).length = o.length
  | 0, _ => rfl
  | m + 1, o => by
    simp only [mk]
    rw [mk_len l w ind m, fold_len]

theorem same_loop (a : List Int) (ha : a.length ≤ 4611686018427387904) (d : Nat) : ∀ (k i : Nat), i ≤ a.length → a.length - i = d → d < k → vinculumref46_Same.l0 k a a (i : Int) = some true := by
  induction d with
  | zero =>
    intro k i hi hd hk
    obtain ⟨k, rfl⟩ : ∃ m, k = m + 1 := ⟨k - 1, by omega⟩
    simp only [vinculumref46_Same.l0]
    rw [if_neg (by omega)]
  | succ d ih =>
    intro k i hi hd hk
    obtain ⟨k, rfl⟩ : ∃ m, k = m + 1 := ⟨k - 1, by omega⟩
    simp only [vinculumref46_Same.l0]
    rw [if_pos (by omega), if_pos (by omega), if_pos (by omega), if_pos trivial, len_succ (n := a.length) (by omega) (by omega)]
    exact ih k (i + 1) (by omega) (by omega) (by omega)
theorem same_self (a : List Int) (ha : a.length ≤ 4611686018427387904) {k : Nat} (hk : a.length < k) : vinculumref46_Same.f k a a = some true := by
  unfold vinculumref46_Same.f
  rw [if_pos rfl]
  exact same_loop a ha a.length k 0 (by omega) (by omega) hk
theorem makeS_len (l : List S) (w ind : Int) : (makeS l w ind).1.length = if fits l w ind = true then l.length + 1 else 0 := by
  unfold makeS
  split
  · rw [mk_len, List.length_replicate]
  · rfl
theorem awake46 (k : Nat) (hk : 30 ≤ k) : vinculumlaw46_awake.f k = some true := at_rounds vinculumlaw46_awake.mono hk (by decide +kernel)
end Go.Proofs.Ytliegocbkgdhcaa.M46
