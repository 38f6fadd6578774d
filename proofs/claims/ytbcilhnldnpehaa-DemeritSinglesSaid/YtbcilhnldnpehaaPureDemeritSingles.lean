/- DemeritSingles: every piece on a line of its own is legal, whatever the width and the indent are. -/
import Derived.Test.YtbcilhnldnpehaaT44
import Derived.Test.YtbcilhnldnpehaaPDx8
namespace Go.Proofs.Ytbcilhnldnpehaa.Pure
set_option linter.unusedVariables false
set_option linter.unusedSimpArgs false
open Go.RowKit Go.Proofs.Ytbcilhnldnpehaa.PD Go.Proofs.Ytbcilhnldnpehaa.D44 Go.Proofs.YtbcilhnldnpehaaW.PrintWords

theorem awake44 (k : Nat) (hk : 10 ≤ k) : vinculumlaw44_awake.f k = some true := at_rounds vinculumlaw44_awake.mono hk (by decide +kernel)

/-- 0, 1, .., m - 1. -/
def ups (m : Nat) : List Int := (List.range m).map fun (i : Nat) => (i : Int)
theorem ups_succ (m : Nat) : ups (m + 1) = ups m ++ [(m : Int)] := by simp [ups, List.range_succ]
theorem ups_length (m : Nat) : (ups m).length = m := by simp [ups]
theorem ups_get {m i : Nat} (h : i < (ups m).length) : (ups m)[i] = (i : Int) := by simp [ups]
theorem ups_starts {m : Nat} (h : 1 ≤ m) : startsB (m : Int) (ups m) = true := by
  rw [startsB_iff]
  refine ⟨fun x hx => ?_, ?_, ?_⟩
  · simp only [ups, List.mem_map, List.mem_range] at hx
    obtain ⟨i, hi, rfl⟩ := hx
    omega
  · rw [List.pairwise_iff_getElem]
    intro i j hi hj hij
    rw [ups_get hi, ups_get hj]
    omega
  · obtain ⟨m, rfl⟩ : ∃ q, m = q + 1 := ⟨m - 1, by omega⟩
    simp [ups, List.range_succ_eq_map]

theorem singles_sum (l : List S) (h : vp l = true) (w v' : Int) (hw : 1 ≤ v' ∧ v' ≤ 10000000) (d : Nat) : ∀ (i : Nat) (v : Int), 1 ≤ v ∧ v ≤ 10000000 → i ≤ l.length → l.length - i = d → ∃ t, sumO l v' v ((ups l.length).drop i) = some t := by
  induction d with
  | zero =>
    intro i v hv hi hd
    rw [List.drop_of_length_le (by rw [ups_length]; omega)]
    exact ⟨0, rfl⟩
  | succ d ih =>
    intro i v hv hi hd
    have hlt : i < (ups l.length).length := by rw [ups_length]; omega
    obtain ⟨t, ht⟩ := ih (i + 1) v' hw (by omega) (by omega)
    have he : endOf l ((ups l.length).drop (i + 1)) = ((i + 1 : Nat) : Int) := by
      rw [endOf_next l _ hlt]
      split
      · rw [ups_get]
      · rename_i h2
        rw [ups_length] at h2
        congr 1
        omega
    rw [List.drop_eq_getElem_cons hlt, ups_get hlt]
    simp only [sumO]
    rw [he, ht]
    have hl : (lineS l (i : Int) ((i + 1 : Nat) : Int) v).2 = 0 := by
      unfold lineS
      rw [if_pos ⟨h, hv⟩, if_pos (by omega), if_pos (by simp [legal])]
    rw [if_pos hl]
    exact ⟨_, rfl⟩

theorem singles_loop (l : List S) (hl : l.length ≤ 64) (a b c d : Int) (n : Nat) : ∀ (k i : Nat), i ≤ l.length → l.length - i = n → n < k →
    vinculumlaw44_DemeritSingles.l0 k l (ups i) (i : Int) a b c d = (demerit_Total.f (k - n - 1) l (ups l.length) c d).bind fun t => some (t.2 == 0) := by
  induction n with
  | zero =>
    intro k i hi hd hk
    obtain ⟨k, rfl⟩ : ∃ m, k = m + 1 := ⟨k - 1, by omega⟩
    obtain rfl : i = l.length := by omega
    simp only [vinculumlaw44_DemeritSingles.l0]
    rw [if_neg (by omega)]
    rfl
  | succ n ih =>
    intro k i hi hd hk
    obtain ⟨k, rfl⟩ : ∃ m, k = m + 1 := ⟨k - 1, by omega⟩
    simp only [vinculumlaw44_DemeritSingles.l0]
    rw [if_pos (by omega), if_pos (by rw [ups_length]; omega), len_succ (n := l.length) (by omega) (by omega), ← ups_succ, ih k (i + 1) (by omega) (by omega) (by omega)]
    congr 2
    omega

theorem DemeritSingles (l0 : List S) (a b c d : Int) (w0 : l0.length * 24 ≤ 140737488351232 ∧ l0.length ≤ maxLen ∧ ∀ v ∈ l0, WfP v) (w1 : (Lit.int .i64 a).wf = true) (w2 : (Lit.int .i64 b).wf = true) (w3 : (Lit.int .i64 c).wf = true) (w4 : (Lit.int .i64 d).wf = true) :
    ∃ k, vinculumlaw44_DemeritSingles.f k l0 a b c d = some true := by
  obtain ⟨hn, _, hw⟩ := w0
  refine ⟨6 * l0.length + 40, ?_⟩
  unfold vinculumlaw44_DemeritSingles.f
  rw [awake44 _ (by omega), refValid l0 (by omega) _ (by omega), fits_f _ _ w3]
  simp only [Option.bind_some, if_true]
  obtain ⟨k, hk⟩ : ∃ k, 6 * l0.length + 40 = k + 1 := ⟨6 * l0.length + 39, rfl⟩
  rw [hk]
  have ht : vinculumlaw44_DemeritSingles.j0 (k + 1) l0 true a b c d = some true := by simp only [vinculumlaw44_DemeritSingles.j0, if_true]
  by_cases h : vp l0 = true
  · rw [if_pos h]
    by_cases hf : 1 ≤ c ∧ c ≤ 10000000 ∧ 0 ≤ d ∧ d < c
    · rw [decide_eq_true hf, Bool.not_true]
      simp only [vinculumlaw44_DemeritSingles.j0]
      have hl := vp_len h
      have e := singles_loop l0 hl.2 a b c d l0.length k 0 (by omega) (by omega) (by omega)
      rw [show ups 0 = [] from rfl, show ((0 : Nat) : Int) = 0 from rfl] at e
      rw [if_neg (by simp), e, demTotal l0 (by omega) hw _ (by rw [ups_length]; omega) c d _ (by rw [ups_length]; omega)]
      obtain ⟨t, hs⟩ := singles_sum l0 h c (c - d) (by omega) l0.length 0 c (by omega) (by omega) (by omega)
      rw [List.drop_zero] at hs
      unfold totalS
      rw [if_pos (show vp l0 = true ∧ 1 ≤ c ∧ c ≤ 10000000 ∧ 0 ≤ d ∧ d < c from ⟨h, hf⟩), if_pos (ups_starts hl.1), hs]
      rfl
    · rw [decide_eq_false hf, Bool.not_false]
      exact ht
  · rw [if_neg h]
    exact ht

end Go.Proofs.Ytbcilhnldnpehaa.Pure
