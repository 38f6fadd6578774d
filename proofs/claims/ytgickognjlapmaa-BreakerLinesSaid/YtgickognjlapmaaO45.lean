/- Layer 45: Lines and Fewest of a valid problem. Lemmas only. -/
import Derived.Test.YtgickognjlapmaaN45
import Derived.Test.YtgickognjlapmaaPRx9
namespace Go.Proofs.Ytgickognjlapmaa.M46
open Go.RowKit Go.Proofs.Ytgickognjlapmaa.PR Go.Proofs.Ytgickognjlapmaa.D44 Go.Proofs.YtgickognjlapmaaW.PrintWords Go.Proofs.YtgickognjlapmaaW.PrintLast Go.Proofs.YtgickognjlapmaaW.PrintMore
set_option linter.unusedVariables false
set_option linter.unusedSimpArgs false

theorem follow_rows {l : List S} {w ind : Int} (hf : fits l w ind = true) : ∀ c i, i ≤ l.length → (re (trow l w ind c) (i : Int)).2.2 = true → ∀ K acc kk ln, kk - ln = c → ln ≤ kk → c < K → acc.length + c ≤ 1000 →
    breaker_follow_lines.l l.length kk (fun c i => (re (trow l w ind c) i).2.1) K acc (i : Int) ln = some (acc ++ pathR (trow l w ind) c i)
  | 0, i, hi, h, K, acc, kk, ln, hc, hl, hK, ha => by
    obtain ⟨K, rfl⟩ : ∃ q, K = q + 1 := ⟨K - 1, by omega⟩
    have e : i = l.length := by
      rw [row_zero_at] at h
      by_cases e : i = l.length
      · exact e
      · rw [if_neg e] at h
        cases h
    simp only [breaker_follow_lines.l]
    rw [if_neg (by omega), pathR, List.append_nil]
  | c + 1, i, hi, h, K, acc, kk, ln, hc, hl, hK, ha => by
    obtain ⟨K, rfl⟩ : ∃ q, K = q + 1 := ⟨K - 1, by omega⟩
    obtain ⟨h1, j, h2, h3, h4, h5⟩ := (row_at hf (c + 1) i hi).next c rfl h
    simp only [breaker_follow_lines.l]
    rw [if_pos (by omega), if_pos (by omega), if_pos hl, if_pos (by omega), hc, h2, follow_rows hf c j h4 h5 K (acc ++ [(i : Int)]) kk (ln + 1) (by omega) (by omega) (by omega) (by rw [List.length_append, List.length_singleton]; omega), pathR, h2, Int.toNat_natCast, List.append_assoc]
    rfl
theorem lines_f_eq {l : List S} (hw : ∀ p ∈ l, WfP p) {w ind : Int} (hf : fits l w ind = true) {K : Nat} (hK : l.length + 100 ≤ K) {c : Nat} (h1 : 1 ≤ c) (h2 : c ≤ l.length) :
    breaker_Lines.f K l w ind (c : Int) = if (re (trow l w ind c) 0).2.2 = true then some (pathR (trow l w ind) c 0, (re (trow l w ind c) 0).1, 0) else some ([], 0, 8) := by
  have hn := vp_len (fits_iff.1 hf).1
  have hg : ∀ c, (breaker_table.row K l w ind c).getD [] = trow l w ind c := table_getD_eq (by omega) hw w ind (by omega)
  unfold breaker_Lines.f
  rw [bvalid_f (by omega) hw w ind (by omega), Option.bind_some, if_pos hf, if_neg (by omega), if_pos (by omega), Int.toNat_natCast, table_row_eq (by omega) hw w ind (by omega), Option.bind_some]
  simp only [hg]
  by_cases h : (re (trow l w ind c) 0).2.2 = true
  · rw [if_pos h, if_pos h]
    have := follow_rows hf c 0 (Nat.zero_le _) h K [] c 0 (by omega) (by omega) (by omega) (by simp; omega)
    rw [show ((0 : Nat) : Int) = 0 from rfl, List.nil_append] at this
    rw [this, Option.bind_some]
  · rw [if_neg h, if_neg h]
theorem lines_out {l : List S} (hw : ∀ p ∈ l, WfP p) {w ind : Int} (hf : fits l w ind = true) {K : Nat} (hK : l.length + 100 ≤ K) {a : Int} (h : a < 1 ∨ a > (l.length : Int)) : breaker_Lines.f K l w ind a = some ([], 0, 8) := by
  have hn := vp_len (fits_iff.1 hf).1
  unfold breaker_Lines.f
  rw [bvalid_f (by omega) hw w ind (by omega), Option.bind_some, if_pos hf, if_pos h]
theorem lines_arg {l : List S} (hn : l.length ≤ 1000) (hw : ∀ p ∈ l, WfP p) {w ind : Int} (hf : ¬ fits l w ind = true) {K : Nat} (hK : l.length + 100 ≤ K) (a : Int) : breaker_Lines.f K l w ind a = some ([], 0, 1) := by
  unfold breaker_Lines.f
  rw [bvalid_f (by omega) hw w ind (by omega), Option.bind_some, if_neg hf]
/-- Lines of a valid problem. -/
theorem lines_spec {l : List S} (hw : ∀ p ∈ l, WfP p) {w ind : Int} (hf : fits l w ind = true) {K : Nat} (hK : l.length + 100 ≤ K) {c : Nat} (h1 : 1 ≤ c) (h2 : c ≤ l.length) :
    (∃ s t, breaker_Lines.f K l w ind (c : Int) = some (s, t, 0) ∧ BestOf l w ind 0 (fun s => s.length = c) s t) ∨ (breaker_Lines.f K l w ind (c : Int) = some ([], 0, 8) ∧ ∀ s, Fr l 0 s → s.length = c → tS l w ind s = none) := by
  have hr := row_at hf c 0 (Nat.zero_le _)
  have he := lines_f_eq hw hf hK h1 h2
  cases hfd : (re (trow l w ind c) 0).2.2 with
  | true =>
    rw [if_pos hfd] at he
    exact Or.inl ⟨_, _, he, (hr.yes hfd).1⟩
  | false =>
    rw [if_neg (by rw [hfd]; simp)] at he
    exact Or.inr ⟨he, hr.no hfd⟩
theorem singles {l : List S} {w ind : Int} (hf : fits l w ind = true) : ∀ d i, l.length - i = d → i ≤ l.length → ∃ s t, Fr l i s ∧ s.length = d ∧ tS l w ind s = some t
  | 0, i, hd, hi => by
    obtain rfl : i = l.length := by omega
    exact ⟨[], 0, fr_nil l, rfl, rfl⟩
  | d + 1, i, hd, hi => by
    obtain ⟨s, t, h1, h2, h3⟩ := singles hf d (i + 1) (by omega) (by omega)
    refine ⟨(i : Int) :: s, (lin l w ind i (i + 1)).1 + t, fr_cons (Nat.lt_succ_self i) (by omega) h1, by rw [List.length_cons, h2], ?_⟩
    rw [tS_cons h1, if_pos (lin_one hf (by omega)), h3]
    rfl
/-- A number of lines is found exactly if some starts have it. -/
theorem found_iff {l : List S} {w ind : Int} (hf : fits l w ind = true) (c : Nat) : (re (trow l w ind c) 0).2.2 = true ↔ ∃ s t, Fr l 0 s ∧ s.length = c ∧ tS l w ind s = some t := by
  have hr := row_at hf c 0 (Nat.zero_le _)
  constructor
  · intro h
    have hb := (hr.yes h).1
    exact ⟨_, _, hb.fr, hb.ok, hb.sum⟩
  · rintro ⟨s, t, h1, h2, h3⟩
    cases hfd : (re (trow l w ind c) 0).2.2 with
    | true => rfl
    | false =>
      have := hr.no hfd s h1 h2
      rw [h3] at this
      cases this
theorem fewest_l (rows : Nat → List EndV) : ∀ m c, (∃ c', c ≤ c' ∧ c' < c + m ∧ (re (rows c') 0).2.2 = true) → ∃ c' : Nat, breaker_Fewest.l rows m c = (c' : Int) ∧ c ≤ c' ∧ c' < c + m ∧ (re (rows c') 0).2.2 = true ∧ ∀ x, c ≤ x → x < c' → ¬ (re (rows x) 0).2.2 = true
  | 0, c, ⟨c', h1, h2, _⟩ => by omega
  | m + 1, c, ⟨c', h1, h2, h3⟩ => by
    simp only [breaker_Fewest.l]
    by_cases h : (re (rows c) 0).2.2 = true
    · rw [if_pos h]
      exact ⟨c, rfl, Nat.le_refl _, by omega, h, fun x h1 h2 => by omega⟩
    · rw [if_neg h]
      have hne : c ≠ c' := fun e => h (by rw [e]; exact h3)
      obtain ⟨c2, g1, g2, g3, g4, g5⟩ := fewest_l rows m (c + 1) ⟨c', by omega, by omega, h3⟩
      refine ⟨c2, g1, by omega, by omega, g4, fun x h1 h2 => ?_⟩
      by_cases e : x = c
      · rw [e]; exact h
      · exact g5 x (by omega) h2
/-- Fewest of a valid problem. -/
theorem fewest_spec {l : List S} (hw : ∀ p ∈ l, WfP p) {w ind : Int} (hf : fits l w ind = true) {K : Nat} (hK : l.length + 100 ≤ K) :
    ∃ c : Nat, breaker_Fewest.f K l w ind = some ((c : Int), 0) ∧ 1 ≤ c ∧ c ≤ l.length ∧ (∃ s t, Fr l 0 s ∧ s.length = c ∧ tS l w ind s = some t) ∧ ∀ x, x < c → ¬ ∃ s t, Fr l 0 s ∧ s.length = x ∧ tS l w ind s = some t := by
  have hn := vp_len (fits_iff.1 hf).1
  have hg : ∀ c, (breaker_table.row K l w ind c).getD [] = trow l w ind c := table_getD_eq (by omega) hw w ind (by omega)
  obtain ⟨s, t, g1, g2, g3⟩ := singles hf l.length 0 (by omega) (by omega)
  obtain ⟨c, h1, h2, h3, h4, h5⟩ := fewest_l (trow l w ind) (l.length + 1) 0 ⟨l.length, by omega, by omega, (found_iff hf _).2 ⟨s, t, g1, g2, g3⟩⟩
  refine ⟨c, ?_, ?_, by omega, (found_iff hf c).1 h4, fun x hx h => h5 x (Nat.zero_le _) hx ((found_iff hf x).2 h)⟩
  · unfold breaker_Fewest.f
    rw [bvalid_f (by omega) hw w ind (by omega), Option.bind_some, if_pos hf, if_pos (by omega), table_row_eq (by omega) hw w ind (by omega), Option.bind_some]
    simp only [hg]
    rw [h1]
  · cases c with
    | zero =>
      rw [show (0 : Int) = ((0 : Nat) : Int) from rfl, row_zero_at, if_neg (by omega)] at h4
      cases h4
    | succ c => omega
theorem fewest_arg {l : List S} (hn : l.length ≤ 1000) (hw : ∀ p ∈ l, WfP p) {w ind : Int} (hf : ¬ fits l w ind = true) {K : Nat} (hK : l.length + 100 ≤ K) : breaker_Fewest.f K l w ind = some (0, 1) := by
  unfold breaker_Fewest.f
  rw [bvalid_f (by omega) hw w ind (by omega), Option.bind_some, if_neg hf]
end Go.Proofs.Ytgickognjlapmaa.M46
