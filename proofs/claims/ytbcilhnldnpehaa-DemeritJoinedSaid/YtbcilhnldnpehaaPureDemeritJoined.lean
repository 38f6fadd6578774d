/- DemeritJoined: the length of two lines, one behind the other, and of the space between them is that of both together. -/
import Derived.Test.YtbcilhnldnpehaaJD44
namespace Go.Proofs.Ytbcilhnldnpehaa.Pure
set_option linter.unusedVariables false
set_option linter.unusedSimpArgs false
open Go.RowKit Go.Proofs.Ytbcilhnldnpehaa.PJ Go.Proofs.Ytbcilhnldnpehaa.D44 Go.Proofs.YtbcilhnldnpehaaW.PrintWords

theorem awake44 (k : Nat) (hk : 10 ≤ k) : vinculumlaw44_awake.f k = some true := at_rounds vinculumlaw44_awake.mono hk (by decide +kernel)
theorem wf8 {x : Int} : (Lit.int .u8 x).wf = true ↔ 0 ≤ x ∧ x ≤ 255 := by
  simp [Lit.wf, IntKind.min, IntKind.max, IntKind.signed, IntKind.bits]

theorem DemeritJoined (l0 : List S) (a b c : Int) (w0 : l0.length * 24 ≤ 140737488351232 ∧ l0.length ≤ maxLen ∧ ∀ v ∈ l0, WfP v) (w1 : (Lit.int .u8 a).wf = true) (w2 : (Lit.int .u8 b).wf = true) (w3 : (Lit.int .u8 c).wf = true) :
    ∃ k, vinculumlaw44_DemeritJoined.f k l0 a b c = some true := by
  obtain ⟨hn, _, hw⟩ := w0
  rw [wf8] at w1 w2 w3
  refine ⟨l0.length + 20, ?_⟩
  unfold vinculumlaw44_DemeritJoined.f
  rw [awake44 _ (by omega), refValid l0 (by omega) _ (by omega), wrap_id (x := a) (by omega) (by omega), wrap_id (x := b) (by omega) (by omega), wrap_id (x := c) (by omega) (by omega)]
  simp only [Option.bind_some, if_true]
  have ht : vinculumlaw44_DemeritJoined.j0 (l0.length + 19 + 1) l0 a b c true = some true := by simp only [vinculumlaw44_DemeritJoined.j0, if_true]
  by_cases h : vp l0 = true
  · rw [if_pos h]
    by_cases h1 : a ≥ b
    · rw [if_pos h1]; exact ht
    rw [if_neg h1]
    by_cases h2 : b ≥ c
    · rw [if_pos h2]; exact ht
    rw [if_neg h2]
    by_cases h3 : c > (l0.length : Int)
    · rw [decide_eq_true h3]; exact ht
    rw [decide_eq_false h3]
    obtain ⟨i, rfl⟩ : ∃ i : Nat, a = i := ⟨a.toNat, by omega⟩
    obtain ⟨j, rfl⟩ : ∃ j : Nat, b = j := ⟨b.toNat, by omega⟩
    obtain ⟨m, rfl⟩ : ∃ m : Nat, c = m := ⟨c.toNat, by omega⟩
    have hl := vp_len h
    have hb1 := len44_bound h (i := i) (j := j) (by omega) (by omega)
    have hb2 := len44_bound h (i := j) (j := m) (by omega) (by omega)
    have hp := vp_ok h (m := j) (by omega)
    simp only [vinculumlaw44_DemeritJoined.j0]
    rw [if_neg (by simp), demLength l0 (by omega) hw _ _ _ (by omega), demLength l0 (by omega) hw _ _ _ (by omega), demLength l0 (by omega) hw _ _ _ (by omega)]
    have e : ∀ p q : Nat, p < q → q ≤ l0.length → lengthS l0 (p : Int) (q : Int) = (len44 l0 p q, 0) := by
      intro p q hp hq
      unfold lengthS
      rw [if_pos h, if_pos (by omega)]
      rfl
    rw [e i j (by omega) (by omega), e j m (by omega) (by omega), e i m (by omega) (by omega)]
    simp only [Option.bind_some, if_true]
    rw [if_pos (show (0 : Int) ≤ (j : Int) by omega), if_pos (show (j : Int) < (l0.length : Int) by omega), rd_nat (by omega), wrap_id (x := len44 l0 i j + _) (by omega) (by omega), wrap_id (by omega) (by omega)]
    simp only [Option.some.injEq, beq_iff_eq]
    unfold len44
    rw [rd_nat (show j < l0.length by omega)]
    omega
  · rw [if_neg h]
    exact ht

end Go.Proofs.Ytbcilhnldnpehaa.Pure
