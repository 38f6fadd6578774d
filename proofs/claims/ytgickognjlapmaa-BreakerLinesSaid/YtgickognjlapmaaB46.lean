/- breaker.Best, as it is printed: what it comes to. Lemmas only. -/
import Derived.Test.YtgickognjlapmaaG46
import Derived.Test.YtgickognjlapmaaPRx5
namespace Go.Proofs.Ytgickognjlapmaa.M46
open Go.RowKit Go.Proofs.Ytgickognjlapmaa.PR Go.Proofs.Ytgickognjlapmaa.D44 Go.Proofs.YtgickognjlapmaaW.PrintWords Go.Proofs.YtgickognjlapmaaW.PrintLast Go.Proofs.YtgickognjlapmaaW.PrintMore
set_option linter.unusedVariables false
set_option linter.unusedSimpArgs false

/-- What lines yields in m rounds. -/
def lrow (l : List S) (w ind : Int) (i m : Nat) : List (Int × Int) := (List.range m).filterMap (fun t => g l w ind i (jAt l.length i t))
/-- A line's width. -/
def wid (w ind : Int) (i : Nat) : Int := if (i : Int) > 0 then wrap64 (w - ind) else w
theorem lin_wid (l : List S) (w ind : Int) (i j : Nat) : lin l w ind i j = ((lineS l i j (wid w ind i)).1, ((lineS l i j (wid w ind i)).2 == 0)) := by
  unfold lin wid
  by_cases h : 0 < i
  · rw [if_pos h, if_pos (by omega)]
  · rw [if_neg h, if_neg (by omega)]
theorem lines_f {l : List S} (hn : l.length ≤ 1000) (hw : ∀ p ∈ l, WfP p) (w ind : Int) (i : Nat) {k : Nat} (hk : l.length + 2 < k) : ∀ m, breaker_problem_lines.l k l (wid w ind i) i m = some (lrow l w ind i m)
  | 0 => rfl
  | m + 1 => by
    simp only [breaker_problem_lines.l]
    rw [lines_f hn hw w ind i hk m, Option.bind_some, demLine l (by omega) hw _ _ _ k hk, Option.bind_some]
    unfold lrow
    rw [List.range_succ, List.filterMap_append]
    have e := lin_wid l w ind i (jAt l.length i m)
    by_cases c : (lineS l (i : Int) ((jAt l.length i m : Nat) : Int) (wid w ind i)).2 = 0
    · rw [if_pos c, List.filterMap_cons_some (b := (((jAt l.length i m : Nat) : Int), (lin l w ind i (jAt l.length i m)).1)) (by unfold g; rw [if_pos (by rw [e]; exact beq_iff_eq.2 c)])]
      rw [e]
      rfl
    · rw [if_neg c, List.filterMap_cons_none (by unfold g; rw [if_neg (by rw [e]; simpa using c)]), List.filterMap_nil, List.append_nil]
theorem mem_lrow {l : List S} {w ind : Int} {i : Nat} (hi : i < l.length) {y : Int × Int} : y ∈ lrow l w ind i (l.length - i) ↔ ∃ t, (i < t ∧ t ≤ l.length) ∧ (lin l w ind i t).2 = true ∧ y = ((t : Int), (lin l w ind i t).1) := by
  unfold lrow
  rw [List.mem_filterMap]
  constructor
  · rintro ⟨t, ht, hg⟩
    rw [List.mem_range] at ht
    unfold g at hg
    by_cases c : (lin l w ind i (jAt l.length i t)).2 = true
    · rw [if_pos c] at hg
      refine ⟨jAt l.length i t, ?_, c, (Option.some.inj hg).symm⟩
      unfold jAt
      split <;> omega
    · rw [if_neg c] at hg
      exact absurd hg (by simp)
  · rintro ⟨t, ht, c, rfl⟩
    by_cases e : t = l.length
    · refine ⟨0, by rw [List.mem_range]; omega, ?_⟩
      have : jAt l.length i 0 = t := by unfold jAt; rw [if_pos rfl]; exact e.symm
      rw [this]
      unfold g
      rw [if_pos c]
    · refine ⟨t - i, by rw [List.mem_range]; omega, ?_⟩
      have : jAt l.length i (t - i) = t := by unfold jAt; rw [if_neg (by omega)]; omega
      rw [this]
      unfold g
      rw [if_pos c]

def bk (l : List S) (w ind : Int) : Nat → List EndV → List EndV
  | 0, o => o
  | m + 1, o => bk l w ind m ((lrow l w ind m (l.length - m)).foldl (breaker_Best.s (m : Int)) o)
theorem best_l {l : List S} (hn : l.length ≤ 1000) (hw : ∀ p ∈ l, WfP p) (w ind : Int) {k : Nat} (hk : l.length + 2 < k) : ∀ m o, breaker_Best.l k l w ind m o = some (bk l w ind m o)
  | 0, _ => rfl
  | m + 1, o => by
    simp only [breaker_Best.l]
    rw [show (if (m : Int) > 0 then wrap64 (w - ind) else w) = wid w ind m from rfl, lines_f hn hw w ind m hk, Option.bind_some, best_l hn hw w ind hk m]
    rfl
theorem re_self {o : List EndV} {i : Nat} (hi : i < o.length) (v : EndV) : re (o.set i v) (i : Int) = v := by simp [re, hi]
theorem re_ne {o : List EndV} {i j : Nat} (h : i ≠ j) (v : EndV) : re (o.set i v) (j : Int) = re o (j : Int) := by simp [re, List.getElem?_set_ne h]

theorem bfold_true {o : List EndV} {m : Nat} (hm : m < o.length) : ∀ (ys : List (Int × Int)) (v nx : Int), (∀ y ∈ ys, ∃ j : Nat, y.1 = (j : Int) ∧ m < j ∧ wrap64 (y.2 + (re o y.1).1) = y.2 + (re o y.1).1) →
    ∃ v' nx', ys.foldl (breaker_Best.s (m : Int)) (o.set m (v, nx, true)) = o.set m (v', nx', true) ∧ v' ≤ v ∧ (∀ y ∈ ys, v' ≤ y.2 + (re o y.1).1) ∧ ((v' = v ∧ nx' = nx) ∨ ∃ y ∈ ys, nx' = y.1 ∧ v' = y.2 + (re o y.1).1)
  | [], v, nx, _ => ⟨v, nx, rfl, Int.le_refl _, (fun y hy => by cases hy), Or.inl ⟨rfl, rfl⟩⟩
  | y :: ys, v, nx, h => by
    obtain ⟨j, e, hj, hwr⟩ := h y List.mem_cons_self
    have h' := fun z hz => h z (List.mem_cons_of_mem _ hz)
    have st : breaker_Best.s (m : Int) (o.set m (v, nx, true)) y = o.set m (if y.2 + (re o y.1).1 < v then (y.2 + (re o y.1).1, y.1, true) else (v, nx, true)) := by
      unfold breaker_Best.s
      rw [re_self hm, e, re_ne (by omega), ← e, hwr, Int.toNat_natCast, List.set_set]
      simp only
      by_cases c : y.2 + (re o y.1).1 < v
      · rw [if_pos (Or.inr c), if_pos c]
      · rw [if_neg (show ¬ (true = false ∨ y.2 + (re o y.1).1 < v) from fun h => h.elim (fun h => by simp at h) c), if_neg c]
    rw [List.foldl_cons, st]
    by_cases c : y.2 + (re o y.1).1 < v
    · rw [if_pos c]
      obtain ⟨v', nx', g1, g2, g3, g4⟩ := bfold_true hm ys (y.2 + (re o y.1).1) y.1 h'
      refine ⟨v', nx', g1, by omega, ?_, ?_⟩
      · intro z hz
        cases hz with
        | head => exact g2
        | tail _ hz => exact g3 z hz
      · rcases g4 with ⟨g4, g5⟩ | ⟨z, hz, g4⟩
        · exact Or.inr ⟨y, List.mem_cons_self, g5, g4⟩
        · exact Or.inr ⟨z, List.mem_cons_of_mem _ hz, g4⟩
    · rw [if_neg c]
      obtain ⟨v', nx', g1, g2, g3, g4⟩ := bfold_true hm ys v nx h'
      refine ⟨v', nx', g1, g2, ?_, ?_⟩
      · intro z hz
        cases hz with
        | head => omega
        | tail _ hz => exact g3 z hz
      · rcases g4 with g4 | ⟨z, hz, g4⟩
        · exact Or.inl g4
        · exact Or.inr ⟨z, List.mem_cons_of_mem _ hz, g4⟩
theorem bfold_false {o : List EndV} {m : Nat} (hm : m < o.length) (hfd : (re o (m : Int)).2.2 = false) (ys : List (Int × Int)) (hne : ys ≠ []) (h : ∀ y ∈ ys, ∃ j : Nat, y.1 = (j : Int) ∧ m < j ∧ wrap64 (y.2 + (re o y.1).1) = y.2 + (re o y.1).1) :
    ∃ v' nx', ys.foldl (breaker_Best.s (m : Int)) o = o.set m (v', nx', true) ∧ (∀ y ∈ ys, v' ≤ y.2 + (re o y.1).1) ∧ (∃ y ∈ ys, nx' = y.1 ∧ v' = y.2 + (re o y.1).1) := by
  cases ys with
  | nil => exact absurd rfl hne
  | cons y ys =>
    obtain ⟨j, e, hj, hwr⟩ := h y List.mem_cons_self
    have h' := fun z hz => h z (List.mem_cons_of_mem _ hz)
    have st : breaker_Best.s (m : Int) o y = o.set m (y.2 + (re o y.1).1, y.1, true) := by
      unfold breaker_Best.s
      rw [if_pos (Or.inl hfd), hwr, Int.toNat_natCast]
    rw [List.foldl_cons, st]
    obtain ⟨v', nx', g1, g2, g3, g4⟩ := bfold_true hm ys (y.2 + (re o y.1).1) y.1 h'
    refine ⟨v', nx', g1, ?_, ?_⟩
    · intro z hz
      cases hz with
      | head => exact g2
      | tail _ hz => exact g3 z hz
    · rcases g4 with ⟨g4, g5⟩ | ⟨z, hz, g4⟩
      · exact ⟨y, List.mem_cons_self, g5, g4⟩
      · exact ⟨z, List.mem_cons_of_mem _ hz, g4⟩

/-- From m on these are the least demerits, each with a next start that leads to them; below m nothing is found. -/
def BOpt (l : List S) (w ind : Int) (m : Nat) (o : List EndV) : Prop := o.length = l.length + 1 ∧ (re o (l.length : Int)).1 = 0 ∧ (∀ i : Nat, i < m → (re o (i : Int)).2.2 = false) ∧
  (∀ i : Nat, m ≤ i → i < l.length → (∀ j : Nat, i < j → j ≤ l.length → (lin l w ind i j).2 = true → (re o (i : Int)).1 ≤ (lin l w ind i j).1 + (re o (j : Int)).1) ∧ ∃ j : Nat, i < j ∧ j ≤ l.length ∧ (lin l w ind i j).2 = true ∧ (re o (i : Int)).2.1 = (j : Int) ∧ (re o (i : Int)).1 = (lin l w ind i j).1 + (re o (j : Int)).1) ∧
  (∀ i : Nat, m ≤ i → i ≤ l.length → -10000 * ((l.length - i : Nat) : Int) ≤ (re o (i : Int)).1 ∧ (re o (i : Int)).1 ≤ 700040000 * ((l.length - i : Nat) : Int))
theorem bopt_step {l : List S} {w ind : Int} (hf : fits l w ind = true) {m : Nat} (hm : m < l.length) {o : List EndV} (h : BOpt l w ind (m + 1) o) : BOpt l w ind m ((lrow l w ind m (l.length - m)).foldl (breaker_Best.s (m : Int)) o) := by
  obtain ⟨hl, h0, hz, h1, h2⟩ := h
  have hn := vp_len (fits_iff.1 hf).1
  have hy : ∀ y ∈ lrow l w ind m (l.length - m), ∃ j : Nat, y.1 = (j : Int) ∧ m < j ∧ wrap64 (y.2 + (re o y.1).1) = y.2 + (re o y.1).1 := by
    intro y hy
    obtain ⟨t, ht, hg, rfl⟩ := (mem_lrow hm).1 hy
    have hb := lin_bd l w ind m t
    have := h2 t (by omega) (by omega)
    exact ⟨t, rfl, by omega, wrap_id (by simp only; omega) (by simp only; omega)⟩
  have hne : lrow l w ind m (l.length - m) ≠ [] := by
    intro e
    have : (((m + 1 : Nat) : Int), (lin l w ind m (m + 1)).1) ∈ lrow l w ind m (l.length - m) := (mem_lrow hm).2 ⟨m + 1, by omega, lin_one hf hm, rfl⟩
    rw [e] at this
    cases this
  obtain ⟨v, nx, g1, g2, g3⟩ := bfold_false (by omega) (hz m (by omega)) _ hne hy
  rw [g1]
  have self : re (o.set m (v, nx, true)) (m : Int) = (v, nx, true) := re_self (by omega) _
  have oth : ∀ t : Nat, m ≠ t → re (o.set m (v, nx, true)) (t : Int) = re o (t : Int) := fun t ht => re_ne ht _
  obtain ⟨y, hy1, hy3, hy2⟩ := g3
  obtain ⟨t, ht, hg, rfl⟩ := (mem_lrow hm).1 hy1
  simp only at hy2 hy3
  refine ⟨by rw [List.length_set]; exact hl, by rw [oth _ (by omega)]; exact h0, fun i hi => by rw [oth i (by omega)]; exact hz i (by omega), ?_, ?_⟩
  · intro i hi1 hi2
    by_cases e : i = m
    · subst e
      rw [self]
      refine ⟨fun j hj1 hj2 hj3 => ?_, t, by omega, by omega, hg, hy3, ?_⟩
      · rw [oth j (by omega)]
        exact g2 _ ((mem_lrow hm).2 ⟨j, by omega, hj3, rfl⟩)
      · rw [oth t (by omega)]
        exact hy2
    · obtain ⟨k1, j, k2, k3, k4, k6, k5⟩ := h1 i (by omega) hi2
      rw [oth i (by omega)]
      refine ⟨fun j hj1 hj2 hj3 => ?_, j, k2, k3, k4, k6, ?_⟩
      · rw [oth j (by omega)]
        exact k1 j hj1 hj2 hj3
      · rw [oth j (by omega)]
        exact k5
  · intro i hi1 hi2
    by_cases e : i = m
    · subst e
      rw [self]
      have hb := lin_bd l w ind i t
      have := h2 t (by omega) (by omega)
      omega
    · rw [oth i (by omega)]
      exact h2 i (by omega) hi2
theorem bk_opt {l : List S} {w ind : Int} (hf : fits l w ind = true) : ∀ (m : Nat) (o : List EndV), m ≤ l.length → BOpt l w ind m o → BOpt l w ind 0 (bk l w ind m o)
  | 0, _, _, h => h
  | m + 1, o, hm, h => by
    simp only [bk]
    exact bk_opt hf m _ (by omega) (bopt_step hf (by omega) h)
/-- The best ends. -/
def bestO (l : List S) (w ind : Int) : List EndV := bk l w ind l.length (List.replicate (l.length + 1) (0, 0, false))
theorem bestO_opt {l : List S} {w ind : Int} (hf : fits l w ind = true) : BOpt l w ind 0 (bestO l w ind) := by
  have hr : ∀ i : Nat, i ≤ l.length → re (List.replicate (l.length + 1) ((0, 0, false) : EndV)) (i : Int) = (0, 0, false) := by
    intro i hi
    simp [re, List.getElem?_replicate]
    split <;> rfl
  refine bk_opt hf _ _ (Nat.le_refl _) ⟨List.length_replicate, by rw [hr _ (Nat.le_refl _)], fun i hi => by rw [hr i (by omega)], fun i h1 h2 => absurd h2 (by omega), fun i h1 h2 => ?_⟩
  obtain rfl : i = l.length := by omega
  rw [hr _ (Nat.le_refl _)]
  simp
/-- Numbers that are what the least potentials are, are the least potentials. -/
theorem opt_unique {l : List S} {w ind : Int} {o : List Int} (ho : Opt l w ind 0 o) (t : Nat → Int) (h0 : t l.length = 0)
    (h : ∀ i, i < l.length → (∀ j : Nat, i < j → j ≤ l.length → (lin l w ind i j).2 = true → t i ≤ (lin l w ind i j).1 + t j) ∧ ∃ j : Nat, i < j ∧ j ≤ l.length ∧ (lin l w ind i j).2 = true ∧ t i = (lin l w ind i j).1 + t j) :
    ∀ (d i : Nat), l.length - i = d → i ≤ l.length → t i = rd o (i : Int) := by
  obtain ⟨_, g2, g3, _⟩ := ho
  intro d
  induction d using Nat.strongRecOn with
  | ind d ih =>
    intro i hd hi
    by_cases e : i = l.length
    · subst e
      omega
    · obtain ⟨a1, j, a2, a3, a4, a5⟩ := h i (by omega)
      obtain ⟨b1, j', b2, b3, b4, b5⟩ := g3 i (by omega) (by omega)
      have e1 := ih (l.length - j) (by omega) j rfl a3
      have e2 := ih (l.length - j') (by omega) j' rfl b3
      have := a1 j' b2 b3 b4
      have := b1 j a2 a3 a4
      omega
theorem best_least {l : List S} {w ind : Int} {o : List EndV} {ps : List Int} (ho : BOpt l w ind 0 o) (hp : Opt l w ind 0 ps) {i : Nat} (hi : i ≤ l.length) : (re o (i : Int)).1 = rd ps (i : Int) := by
  obtain ⟨_, h0, _, h1, _⟩ := ho
  refine opt_unique hp (fun i => (re o (i : Int)).1) h0 (fun i hi => ?_) _ i rfl hi
  obtain ⟨k1, j, k2, k3, k4, _, k5⟩ := h1 i (by omega) hi
  exact ⟨k1, j, k2, k3, k4, k5⟩
/-- The starts that the best ends lead to, from i on. -/
theorem follow_ex {l : List S} {w ind : Int} (hf : fits l w ind = true) {o : List EndV} {ps : List Int} (ho : BOpt l w ind 0 o) (hp : Opt l w ind 0 ps) : ∀ (d i : Nat), l.length - i = d → i ≤ l.length →
    ∃ s, (∀ a : Int, a < (i : Int) → chain (l.length : Int) a s = true) ∧ endOf l s = (i : Int) ∧ tight l w ind ps s = true ∧ s.length ≤ d ∧
      ∀ k acc ln, d < k → acc.length + d ≤ 1000 → breaker_problem_follow.l l.length (fun _ i => (re o i).2.1) k acc (i : Int) ln = some (acc ++ s) := by
  have hn := vp_len (fits_iff.1 hf).1
  intro d
  induction d using Nat.strongRecOn with
  | ind d ih =>
    intro i hd hi
    by_cases e : i = l.length
    · subst e
      refine ⟨[], fun _ _ => rfl, rfl, rfl, by simp, fun k acc ln hk hacc => ?_⟩
      obtain ⟨k, rfl⟩ : ∃ q, k = q + 1 := ⟨k - 1, by omega⟩
      simp only [breaker_problem_follow.l]
      rw [if_neg (by omega), List.append_nil]
    · obtain ⟨_, j, k2, k3, k4, k6, k5⟩ := ho.2.2.2.1 i (by omega) (by omega)
      obtain ⟨s, h1, h2, h3, h5, h4⟩ := ih (l.length - j) (by omega) j rfl k3
      refine ⟨(i : Int) :: s, fun a ha => ?_, rfl, ?_, by rw [List.length_cons]; omega, fun k acc ln hk hacc => ?_⟩
      · rw [chain, Bool.and_eq_true, decide_eq_true_eq]
        exact ⟨by omega, h1 _ (by omega)⟩
      · rw [tight, Bool.and_eq_true, Bool.and_eq_true, decide_eq_true_eq, h2, Int.toNat_natCast, Int.toNat_natCast]
        have e1 := best_least ho hp (i := i) (by omega)
        have e2 := best_least ho hp (i := j) k3
        have hb := lin_bd l w ind i j
        have hc := hp.2.2.2 j (by omega) k3
        refine ⟨⟨k4, ?_⟩, h3⟩
        rw [wrap_id (by omega) (by omega)]
        omega
      · obtain ⟨k, rfl⟩ : ∃ q, k = q + 1 := ⟨k - 1, by omega⟩
        simp only [breaker_problem_follow.l]
        rw [if_pos (by omega), if_pos (by omega), if_pos (by omega), k6, h4 k _ _ (by omega) (by rw [List.length_append, List.length_singleton]; omega), List.append_assoc]
        rfl
theorem bvalid_f {l : List S} (hn : l.length ≤ 1000) (hw : ∀ p ∈ l, WfP p) (w ind : Int) {k : Nat} (hk : l.length + 2 < k) : breaker_problem_valid.f k l w ind = some (fits l w ind) := by
  unfold breaker_problem_valid.f fits
  rw [demValid l (by omega) hw k (by omega), Option.bind_some]
  by_cases h : vp l = true
  · rw [if_pos h, h, Bool.true_and]
    by_cases c1 : w ≥ 1
    · by_cases c2 : w ≤ 10000000
      · by_cases c3 : ind ≥ 0
        · rw [if_pos c1, if_pos c2, if_pos c3]
          congr 1
          rw [Bool.eq_iff_iff, decide_eq_true_eq, decide_eq_true_eq]
          omega
        · rw [if_pos c1, if_pos c2, if_neg c3, decide_eq_false (by omega)]
      · rw [if_pos c1, if_neg c2, decide_eq_false (by omega)]
    · rw [if_neg c1, decide_eq_false (by omega)]
  · rw [if_neg h, Bool.not_eq_true _ |>.mp h, Bool.false_and]
/-- Best of a valid problem: starts to whose lines the least potentials are tight, and their demerits. -/
theorem best_f {l : List S} (hw : ∀ p ∈ l, WfP p) {w ind : Int} (hf : fits l w ind = true) {ps : List Int} (hp : Opt l w ind 0 ps) {k : Nat} (hk : l.length + 100 ≤ k) :
    ∃ s, breaker_Best.f k l w ind = some (s, rd ps 0, 0) ∧ startsB (l.length : Int) s = true ∧ tight l w ind ps s = true ∧ s.length ≤ l.length := by
  have hn := vp_len (fits_iff.1 hf).1
  have ho := bestO_opt hf
  obtain ⟨s, h1, h2, h3, h5, h4⟩ := follow_ex hf ho hp l.length 0 (by omega) (by omega)
  refine ⟨s, ?_, ?_, h3, h5⟩
  · unfold breaker_Best.f
    rw [bvalid_f (by omega) hw w ind (by omega), Option.bind_some, if_pos hf, if_pos (by omega), best_l (by omega) hw w ind (by omega), Option.bind_some]
    have := h4 k [] 0 (by omega) (by simp; omega)
    rw [show ((0 : Nat) : Int) = 0 from rfl, List.nil_append] at this
    have e := best_least ho hp (i := 0) (by omega)
    rw [show ((0 : Nat) : Int) = 0 from rfl] at e
    rw [show bk l w ind l.length (List.replicate (l.length + 1) (0, 0, false)) = bestO l w ind from rfl, this, Option.bind_some, e]
  · cases s with
    | nil => simp only [endOf] at h2; omega
    | cons x r =>
      have h2' : x = ((0 : Nat) : Int) := h2
      unfold startsB
      rw [h1 (-1) (by omega), h2']
      rfl
end Go.Proofs.Ytgickognjlapmaa.M46
