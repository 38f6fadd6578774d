/- breaker.Best: of equal ends the first one is kept. Lemmas only. -/
import Derived.Test.YtgickognjlapmaaB46
namespace Go.Proofs.Ytgickognjlapmaa.M46
open Go.RowKit Go.Proofs.Ytgickognjlapmaa.PR Go.Proofs.Ytgickognjlapmaa.D44 Go.Proofs.YtgickognjlapmaaW.PrintWords Go.Proofs.YtgickognjlapmaaW.PrintLast Go.Proofs.YtgickognjlapmaaW.PrintMore
set_option linter.unusedVariables false
set_option linter.unusedSimpArgs false

/-- Where an end comes among those that lines tries: the end of all pieces first. -/
def key (n i j : Nat) : Nat := if j = n then i else j
theorem lrow_sorted (l : List S) (w ind : Int) (i : Nat) (hi : i < l.length) : (lrow l w ind i (l.length - i)).Pairwise (fun y z => key l.length i y.1.toNat < key l.length i z.1.toNat) := by
  unfold lrow
  rw [List.pairwise_filterMap]
  refine List.Pairwise.imp_of_mem (R := (· < ·)) (fun {a b} ha hb hab y hy z hz => ?_) List.pairwise_lt_range
  rw [List.mem_range] at ha hb
  unfold g at hy hz
  split at hy
  · split at hz
    · obtain rfl := Option.some.inj hy
      obtain rfl := Option.some.inj hz
      simp only [Int.toNat_natCast]
      unfold key jAt
      (repeat' split) <;> omega
    · cases hz
  · cases hy
theorem tfold_true {o : List EndV} {m : Nat} (hm : m < o.length) : ∀ (ys : List (Int × Int)) (v nx : Int), (∀ y ∈ ys, ∃ j : Nat, y.1 = (j : Int) ∧ m < j ∧ wrap64 (y.2 + (re o y.1).1) = y.2 + (re o y.1).1) →
    ∃ v' nx', ys.foldl (breaker_Best.s (m : Int)) (o.set m (v, nx, true)) = o.set m (v', nx', true) ∧ ((v' = v ∧ nx' = nx) ∨ ∃ pre y post, ys = pre ++ y :: post ∧ nx' = y.1 ∧ v' < v ∧ ∀ z ∈ pre, v' < z.2 + (re o z.1).1)
  | [], v, nx, _ => ⟨v, nx, rfl, Or.inl ⟨rfl, rfl⟩⟩
  | y :: ys, v, nx, h => by
    obtain ⟨j, e, hj, hwr⟩ := h y List.mem_cons_self
    have h' := fun z hz => h z (List.mem_cons_of_mem _ hz)
    have st : breaker_Best.s (m : Int) (o.set m (v, nx, true)) y = o.set m (if y.2 + (re o y.1).1 < v then (y.2 + (re o y.1).1, y.1, true) else (v, nx, true)) := by
      unfold breaker_Best.s
      rw [re_self hm, e, re_ne (by omega), ← e, hwr, Int.toNat_natCast, List.set_set]
      simp only
      by_cases c : y.2 + (re o y.1).1 < v
      · rw [if_pos (Or.inr c), if_pos c]
      · rw [if_neg (show ¬ (true = false ∨ y.2 + (re o y.1).1 < v) from fun h => h.elim (fun h => by simp at h) c), if_neg c]
    rw [List.foldl_cons, st]
    by_cases c : y.2 + (re o y.1).1 < v
    · rw [if_pos c]
      obtain ⟨v', nx', g1, g4⟩ := tfold_true hm ys (y.2 + (re o y.1).1) y.1 h'
      refine ⟨v', nx', g1, Or.inr ?_⟩
      rcases g4 with ⟨g4, g5⟩ | ⟨pre, z, post, k1, k2, k3, k4⟩
      · exact ⟨[], y, ys, rfl, g5, by omega, fun z hz => by cases hz⟩
      · refine ⟨y :: pre, z, post, by rw [k1]; rfl, k2, by omega, fun x hx => ?_⟩
        cases hx with
        | head => exact k3
        | tail _ hx => exact k4 x hx
    · rw [if_neg c]
      obtain ⟨v', nx', g1, g4⟩ := tfold_true hm ys v nx h'
      refine ⟨v', nx', g1, ?_⟩
      rcases g4 with g4 | ⟨pre, z, post, k1, k2, k3, k4⟩
      · exact Or.inl g4
      · refine Or.inr ⟨y :: pre, z, post, by rw [k1]; rfl, k2, k3, fun x hx => ?_⟩
        cases hx with
        | head => omega
        | tail _ hx => exact k4 x hx
theorem tfold_false {o : List EndV} {m : Nat} (hm : m < o.length) (hfd : (re o (m : Int)).2.2 = false) (ys : List (Int × Int)) (hne : ys ≠ []) (h : ∀ y ∈ ys, ∃ j : Nat, y.1 = (j : Int) ∧ m < j ∧ wrap64 (y.2 + (re o y.1).1) = y.2 + (re o y.1).1) :
    ∃ v' nx', ys.foldl (breaker_Best.s (m : Int)) o = o.set m (v', nx', true) ∧ ∃ pre y post, ys = pre ++ y :: post ∧ nx' = y.1 ∧ ∀ z ∈ pre, v' < z.2 + (re o z.1).1 := by
  cases ys with
  | nil => exact absurd rfl hne
  | cons y ys =>
    obtain ⟨j, e, hj, hwr⟩ := h y List.mem_cons_self
    have h' := fun z hz => h z (List.mem_cons_of_mem _ hz)
    have st : breaker_Best.s (m : Int) o y = o.set m (y.2 + (re o y.1).1, y.1, true) := by
      unfold breaker_Best.s
      rw [if_pos (Or.inl hfd), hwr, Int.toNat_natCast]
    rw [List.foldl_cons, st]
    obtain ⟨v', nx', g1, g4⟩ := tfold_true hm ys (y.2 + (re o y.1).1) y.1 h'
    refine ⟨v', nx', g1, ?_⟩
    rcases g4 with ⟨g4, g5⟩ | ⟨pre, z, post, k1, k2, k3, k4⟩
    · exact ⟨[], y, ys, rfl, g5, fun z hz => by cases hz⟩
    · refine ⟨y :: pre, z, post, by rw [k1]; rfl, k2, fun x hx => ?_⟩
      cases hx with
      | head => exact k3
      | tail _ hx => exact k4 x hx
/-- Whatever comes before the kept end is dearer. -/
def TB (l : List S) (w ind : Int) (m : Nat) (o : List EndV) : Prop := ∀ i : Nat, m ≤ i → i < l.length → ∀ j : Nat, i < j → j ≤ l.length → (lin l w ind i j).2 = true → key l.length i j < key l.length i (re o (i : Int)).2.1.toNat → (re o (i : Int)).1 < (lin l w ind i j).1 + (re o (j : Int)).1
theorem tb_step {l : List S} {w ind : Int} (hf : fits l w ind = true) {m : Nat} (hm : m < l.length) {o : List EndV} (h : BOpt l w ind (m + 1) o) (ht : TB l w ind (m + 1) o) : TB l w ind m ((lrow l w ind m (l.length - m)).foldl (breaker_Best.s (m : Int)) o) := by
  obtain ⟨hl, h0, hz, h1, h2⟩ := h
  have hn := vp_len (fits_iff.1 hf).1
  have hy : ∀ y ∈ lrow l w ind m (l.length - m), ∃ j : Nat, y.1 = (j : Int) ∧ m < j ∧ wrap64 (y.2 + (re o y.1).1) = y.2 + (re o y.1).1 := by
    intro y hy
    obtain ⟨t, ht, hg, rfl⟩ := (mem_lrow hm).1 hy
    have hb := lin_bd l w ind m t
    have := h2 t (by omega) (by omega)
    exact ⟨t, rfl, by omega, wrap_id (by simp only; omega) (by simp only; omega)⟩
  have hne : lrow l w ind m (l.length - m) ≠ [] := by
    intro e
    have : (((m + 1 : Nat) : Int), (lin l w ind m (m + 1)).1) ∈ lrow l w ind m (l.length - m) := (mem_lrow hm).2 ⟨m + 1, by omega, lin_one hf hm, rfl⟩
    rw [e] at this
    cases this
  obtain ⟨v, nx, g1, pre, y, post, g2, g3, g4⟩ := tfold_false (by omega) (hz m (by omega)) _ hne hy
  rw [g1]
  have self : re (o.set m (v, nx, true)) (m : Int) = (v, nx, true) := re_self (by omega) _
  have oth : ∀ t : Nat, m ≠ t → re (o.set m (v, nx, true)) (t : Int) = re o (t : Int) := fun t ht => re_ne ht _
  have hp := lrow_sorted l w ind m hm
  rw [g2] at hp
  intro i hi1 hi2 j hj1 hj2 hg hk
  by_cases e : i = m
  · subst e
    rw [self] at hk ⊢
    rw [oth j (by omega)]
    have hmem : (((j : Nat) : Int), (lin l w ind i j).1) ∈ pre ++ y :: post := by
      rw [← g2]
      exact (mem_lrow hm).2 ⟨j, ⟨hj1, hj2⟩, hg, rfl⟩
    simp only at hk
    rw [g3] at hk
    rcases List.mem_append.1 hmem with h | h
    · exact g4 _ h
    · rcases List.mem_cons.1 h with h | h
      · rw [← h] at hk
        simp only [Int.toNat_natCast] at hk
        omega
      · have := (List.pairwise_cons.1 (List.pairwise_append.1 hp).2.1).1 _ h
        simp only [Int.toNat_natCast] at this
        omega
  · rw [oth i (by omega)] at hk ⊢
    rw [oth j (by omega)]
    exact ht i (by omega) hi2 j hj1 hj2 hg hk
theorem bk_tb {l : List S} {w ind : Int} (hf : fits l w ind = true) : ∀ (m : Nat) (o : List EndV), m ≤ l.length → BOpt l w ind m o → TB l w ind m o → TB l w ind 0 (bk l w ind m o)
  | 0, _, _, _, h => h
  | m + 1, o, hm, h, ht => by
    simp only [bk]
    exact bk_tb hf m _ (by omega) (bopt_step hf (by omega) h) (tb_step hf (by omega) h ht)
theorem bestO_tb {l : List S} {w ind : Int} (hf : fits l w ind = true) : TB l w ind 0 (bestO l w ind) := by
  have hr : ∀ i : Nat, i ≤ l.length → re (List.replicate (l.length + 1) ((0, 0, false) : EndV)) (i : Int) = (0, 0, false) := by
    intro i hi
    simp [re, List.getElem?_replicate]
    split <;> rfl
  refine bk_tb hf _ _ (Nat.le_refl _) ⟨List.length_replicate, by rw [hr _ (Nat.le_refl _)], fun i hi => by rw [hr i (by omega)], fun i h1 h2 => absurd h2 (by omega), fun i h1 h2 => ?_⟩ (fun i h1 h2 => absurd h2 (by omega))
  obtain rfl : i = l.length := by omega
  rw [hr _ (Nat.le_refl _)]
  simp
/-- Best of a valid problem, told by the best ends. -/
theorem best_o {l : List S} (hw : ∀ p ∈ l, WfP p) {w ind : Int} (hf : fits l w ind = true) {s : List Int} {k : Nat} (hk : l.length + 100 ≤ k) (hs : breaker_problem_follow.l l.length (fun _ i => (re (bestO l w ind) i).2.1) k [] 0 0 = some s) :
    breaker_Best.f k l w ind = some (s, (re (bestO l w ind) 0).1, 0) := by
  have hn := vp_len (fits_iff.1 hf).1
  unfold breaker_Best.f
  rw [bvalid_f (by omega) hw w ind (by omega), Option.bind_some, if_pos hf, if_pos (by omega), best_l (by omega) hw w ind (by omega), Option.bind_some]
  rw [show bk l w ind l.length (List.replicate (l.length + 1) (0, 0, false)) = bestO l w ind from rfl, hs, Option.bind_some]
end Go.Proofs.Ytgickognjlapmaa.M46
