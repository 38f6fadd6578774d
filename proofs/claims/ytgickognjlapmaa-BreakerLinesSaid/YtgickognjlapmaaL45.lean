/- Layer 45: the best starts from a piece on, of all starts and of those with a number of lines. Lemmas only. -/
import Derived.Test.YtgickognjlapmaaT45
import Derived.Test.YtgickognjlapmaaU46
import Derived.Test.YtgickognjlapmaaPRx8
namespace Go.Proofs.Ytgickognjlapmaa.M46
open Go.RowKit Go.Proofs.Ytgickognjlapmaa.PR Go.Proofs.Ytgickognjlapmaa.D44 Go.Proofs.YtgickognjlapmaaW.PrintWords Go.Proofs.YtgickognjlapmaaW.PrintLast Go.Proofs.YtgickognjlapmaaW.PrintMore
set_option linter.unusedVariables false
set_option linter.unusedSimpArgs false

/-- Starts of the pieces from i on. -/
def Fr (l : List S) (i : Nat) (s : List Int) : Prop := (∀ a : Int, a < (i : Int) → chain (l.length : Int) a s = true) ∧ endOf l s = (i : Int)
theorem fr_nil (l : List S) : Fr l l.length [] := ⟨fun _ _ => rfl, rfl⟩
theorem chain_lower {n : Int} {a b : Int} {r : List Int} (h : chain n a r = true) (hb : ∀ x ∈ r.head?, b < x) : chain n b r = true := by
  cases r with
  | nil => rfl
  | cons y q =>
    rw [chain, Bool.and_eq_true, decide_eq_true_eq] at h ⊢
    exact ⟨⟨hb y rfl, h.1.2⟩, h.2⟩
theorem fr_cons {l : List S} {i j : Nat} {r : List Int} (hij : i < j) (hj : j ≤ l.length) (h : Fr l j r) : Fr l i ((i : Int) :: r) :=
  ⟨fun a ha => by
    rw [chain, Bool.and_eq_true, decide_eq_true_eq]
    exact ⟨by omega, h.1 _ (by omega)⟩, rfl⟩
theorem fr_inv {l : List S} {i : Nat} {s : List Int} (h : Fr l i s) (hi : i ≤ l.length) : (i = l.length ∧ s = []) ∨ (i < l.length ∧ ∃ j r, s = (i : Int) :: r ∧ i < j ∧ j ≤ l.length ∧ Fr l j r) := by
  cases s with
  | nil => exact Or.inl ⟨by have : (l.length : Int) = (i : Int) := h.2; omega, rfl⟩
  | cons x r =>
    have hx : x = (i : Int) := h.2
    subst hx
    have hc := h.1 ((i : Int) - 1) (by omega)
    rw [chain, Bool.and_eq_true, decide_eq_true_eq] at hc
    have he := chain_end (l := l) hc.1.2 hc.2
    refine Or.inr ⟨by omega, (endOf l r).toNat, r, rfl, by omega, by omega, fun a ha => ?_, by omega⟩
    refine chain_lower hc.2 (fun x hx => ?_)
    cases r with
    | nil => cases hx
    | cons y q =>
      have e : endOf l (y :: q) = y := rfl
      rw [e] at ha he
      simp only [List.head?_cons, Option.mem_def, Option.some.injEq] at hx
      omega
theorem fr_n {l : List S} {s : List Int} (h : Fr l l.length s) : s = [] := by
  rcases fr_inv h (Nat.le_refl _) with h | h
  · exact h.2
  · omega
theorem tS_cons {l : List S} {w ind : Int} {i j : Nat} {r : List Int} (h : Fr l j r) : tS l w ind ((i : Int) :: r) = if (lin l w ind i j).2 = true then (tS l w ind r).map (fun t => (lin l w ind i j).1 + t) else none := by
  rw [tS, h.2, Int.toNat_natCast, Int.toNat_natCast]
theorem tS_some {l : List S} {w ind : Int} {i j : Nat} {r : List Int} {t : Int} (h : Fr l j r) (ht : tS l w ind ((i : Int) :: r) = some t) : (lin l w ind i j).2 = true ∧ ∃ t', tS l w ind r = some t' ∧ t = (lin l w ind i j).1 + t' := by
  rw [tS_cons h] at ht
  by_cases c : (lin l w ind i j).2 = true
  · rw [if_pos c] at ht
    obtain ⟨t', h1, h2⟩ := Option.map_eq_some_iff.1 ht
    exact ⟨c, t', h1, h2.symm⟩
  · rw [if_neg c] at ht
    cases ht
theorem fr_starts {l : List S} (hn : 1 ≤ l.length) {s : List Int} : Fr l 0 s ↔ startsB (l.length : Int) s = true := by
  constructor
  · intro h
    rcases fr_inv h (Nat.zero_le _) with ⟨h1, _⟩ | ⟨_, j, r, rfl, _, _, _⟩
    · omega
    · unfold startsB
      rw [h.1 (-1) (by omega)]
      rfl
  · intro h
    have h1 := starts_chain h
    refine ⟨fun a ha => chain_lower h1.1 (fun x hx => ?_), starts_end h⟩
    rw [h1.2] at hx
    cases hx
    exact ha
theorem fr_length {l : List S} : ∀ (d i : Nat) (s : List Int), l.length - i = d → i ≤ l.length → Fr l i s → s.length ≤ d := by
  intro d
  induction d using Nat.strongRecOn with
  | ind d ih =>
    intro i s hd hi h
    rcases fr_inv h hi with ⟨_, rfl⟩ | ⟨h1, j, r, rfl, h2, h3, h4⟩
    · exact Nat.zero_le _
    · have := ih (l.length - j) (by omega) j r rfl h3 h4
      rw [List.length_cons]
      omega

/-- A list comes before another one. -/
def bef : List Int → List Int → Bool
  | [], [] => false
  | [], _ :: _ => true
  | _ :: _, [] => false
  | a :: x, b :: y => if a = b then bef x y else decide (a < b)
theorem bef_self : ∀ s, bef s s = false
  | [] => rfl
  | a :: s => by rw [bef, if_pos rfl, bef_self s]
theorem bef_asym : ∀ s t, bef s t = true → bef t s = false
  | [], [], h => by cases h
  | [], _ :: _, _ => rfl
  | _ :: _, [], h => by cases h
  | a :: x, b :: y, h => by
    rw [bef] at h ⊢
    by_cases e : a = b
    · rw [if_pos e] at h
      rw [if_pos e.symm]
      exact bef_asym x y h
    · rw [if_neg e, decide_eq_true_eq] at h
      rw [if_neg (Ne.symm e), decide_eq_false_iff_not]
      omega
/-- The best starts from i on among those that P takes: the least demerits, and of equal ones those that come first. -/
structure BestOf (l : List S) (w ind : Int) (i : Nat) (P : List Int → Prop) (s : List Int) (t : Int) : Prop where
  fr : Fr l i s
  ok : P s
  sum : tS l w ind s = some t
  least : ∀ s' t', Fr l i s' → P s' → tS l w ind s' = some t' → t < t' ∨ (t = t' ∧ (s' = s ∨ bef s s' = true))
theorem BestOf.unique {l : List S} {w ind : Int} {i : Nat} {P : List Int → Prop} {s s' : List Int} {t t' : Int} (h : BestOf l w ind i P s t) (h' : BestOf l w ind i P s' t') : s = s' ∧ t = t' := by
  have a := h.least s' t' h'.fr h'.ok h'.sum
  have b := h'.least s t h.fr h.ok h.sum
  rcases a with a | ⟨a, a2⟩
  · rcases b with b | ⟨b, _⟩ <;> omega
  · rcases b with b | ⟨_, b2⟩
    · omega
    · refine ⟨?_, a⟩
      rcases a2 with a2 | a2
      · exact a2.symm
      · rcases b2 with b2 | b2
        · exact b2
        · rw [bef_asym _ _ a2] at b2
          cases b2
theorem BestOf.sub {l : List S} {w ind : Int} {i : Nat} {P Q : List Int → Prop} {s : List Int} {t : Int} (h : BestOf l w ind i P s t) (hq : Q s) (hqp : ∀ s, Q s → P s) : BestOf l w ind i Q s t := ⟨h.fr, hq, h.sum, fun s' t' a b c => h.least s' t' a (hqp _ b) c⟩
/-- Where two starts' second ones part. -/
theorem bef_cons {l : List S} {i j j' : Nat} {r r' : List Int} (hj : j ≤ l.length) (hj' : j' ≤ l.length) (hij : i < j) (hij' : i < j') (hr : Fr l j r) (hr' : Fr l j' r') (hk : key l.length i j < key l.length i j') : bef ((i : Int) :: r) ((i : Int) :: r') = true := by
  rw [bef, if_pos rfl]
  unfold key at hk
  rcases fr_inv hr hj with ⟨h1, rfl⟩ | ⟨h1, _, q, rfl, _⟩
  · rcases fr_inv hr' hj' with ⟨h2, rfl⟩ | ⟨h2, _, q', rfl, _⟩
    · rw [if_pos h1, if_pos h2] at hk
      omega
    · rfl
  · rcases fr_inv hr' hj' with ⟨h2, rfl⟩ | ⟨h2, _, q', rfl, _⟩
    · rw [if_neg (by omega), if_pos h2] at hk
      omega
    · rw [if_neg (by omega), if_neg (by omega)] at hk
      rw [bef, if_neg (by omega), decide_eq_true_eq]
      omega

/-! ### Best -/
theorem best_best {l : List S} {w ind : Int} (hf : fits l w ind = true) : ∀ (d i : Nat), l.length - i = d → i ≤ l.length →
    ∃ s, BestOf l w ind i (fun _ => True) s (re (bestO l w ind) (i : Int)).1 ∧ s.length ≤ d ∧
      ∀ k acc ln, d < k → acc.length + d ≤ 1000 → breaker_problem_follow.l l.length (fun _ i => (re (bestO l w ind) i).2.1) k acc (i : Int) ln = some (acc ++ s) := by
  have hn := vp_len (fits_iff.1 hf).1
  have ho := bestO_opt hf
  have htb := bestO_tb hf
  intro d
  induction d using Nat.strongRecOn with
  | ind d ih =>
    intro i hd hi
    by_cases e : i = l.length
    · subst e
      refine ⟨[], ⟨fr_nil l, trivial, by rw [ho.2.1]; rfl, fun s' t' h1 _ h2 => ?_⟩, by simp, fun k acc ln hk hacc => ?_⟩
      · rw [fr_n h1] at h2 ⊢
        rw [ho.2.1]
        have : (0 : Int) = t' := Option.some.inj h2
        exact Or.inr ⟨this, Or.inl rfl⟩
      · obtain ⟨k, rfl⟩ : ∃ q, k = q + 1 := ⟨k - 1, by omega⟩
        simp only [breaker_problem_follow.l]
        rw [if_neg (by omega), List.append_nil]
    · obtain ⟨k1, j, k2, k3, k4, k6, k5⟩ := ho.2.2.2.1 i (by omega) (by omega)
      obtain ⟨s, h1, h5, h4⟩ := ih (l.length - j) (by omega) j rfl k3
      refine ⟨(i : Int) :: s, ⟨fr_cons k2 k3 h1.fr, trivial, ?_, fun s' t' g1 _ g2 => ?_⟩, by rw [List.length_cons]; omega, fun k acc ln hk hacc => ?_⟩
      · rw [tS_cons h1.fr, if_pos k4, h1.sum, k5]
        rfl
      · rcases fr_inv g1 hi with ⟨g3, _⟩ | ⟨_, j', r', rfl, g3, g4, g5⟩
        · omega
        · obtain ⟨q1, t2, q2, rfl⟩ := tS_some g5 g2
          have hv := ih (l.length - j') (by omega) j' rfl g4
          obtain ⟨sj, hj1, _, _⟩ := hv
          have hle : (re (bestO l w ind) (j' : Int)).1 ≤ t2 := by
            rcases hj1.least r' t2 g5 trivial q2 with h | h <;> omega
          have hmin := k1 j' g3 g4 q1
          by_cases hlt : (re (bestO l w ind) (i : Int)).1 < (lin l w ind i j').1 + t2
          · exact Or.inl hlt
          · refine Or.inr ⟨by omega, ?_⟩
            by_cases hjj : j' = j
            · subst hjj
              rcases h1.least r' t2 g5 trivial q2 with h | ⟨_, h⟩
              · omega
              · rcases h with h | h
                · exact Or.inl (by rw [h])
                · exact Or.inr (by rw [bef, if_pos rfl]; exact h)
            · refine Or.inr (bef_cons k3 g4 k2 g3 h1.fr g5 ?_)
              have hkk : ¬ key l.length i j' < key l.length i j := fun hk => by
                have := htb i (Nat.zero_le _) (by omega) j' g3 g4 q1 (by rw [k6, Int.toNat_natCast]; exact hk)
                omega
              unfold key at hkk ⊢
              (repeat' split) <;> (repeat' split at hkk) <;> omega
      · obtain ⟨k, rfl⟩ : ∃ q, k = q + 1 := ⟨k - 1, by omega⟩
        simp only [breaker_problem_follow.l]
        rw [if_pos (by omega), if_pos (by omega), if_pos (by omega), k6, h4 k _ _ (by omega) (by rw [List.length_append, List.length_singleton]; omega), List.append_assoc]
        rfl
/-- Best of a valid problem. -/
theorem best_spec {l : List S} (hw : ∀ p ∈ l, WfP p) {w ind : Int} (hf : fits l w ind = true) {k : Nat} (hk : l.length + 100 ≤ k) :
    ∃ s t, breaker_Best.f k l w ind = some (s, t, 0) ∧ BestOf l w ind 0 (fun _ => True) s t ∧ s.length ≤ l.length := by
  have hn := vp_len (fits_iff.1 hf).1
  obtain ⟨s, h1, h2, h3⟩ := best_best hf l.length 0 (by omega) (by omega)
  have := h3 k [] 0 (by omega) (by simp; omega)
  exact ⟨s, _, best_o hw hf hk this, h1, h2⟩
theorem best_arg {l : List S} (hn : l.length ≤ 1000) (hw : ∀ p ∈ l, WfP p) {w ind : Int} (hf : ¬ fits l w ind = true) {k : Nat} (hk : l.length + 2 < k) : breaker_Best.f k l w ind = some ([], 0, 1) := by
  unfold breaker_Best.f
  rw [bvalid_f hn hw w ind hk, Option.bind_some, if_neg hf]
end Go.Proofs.Ytgickognjlapmaa.M46
