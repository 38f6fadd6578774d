/- Layer 45: awake, fits, same. Lemmas only. -/
import Derived.Test.YtgickognjlapmaaB46
namespace Go.Proofs.Ytgickognjlapmaa.M46
open Go.RowKit Go.Proofs.Ytgickognjlapmaa.PR Go.Proofs.Ytgickognjlapmaa.D44 Go.Proofs.YtgickognjlapmaaW.PrintWords Go.Proofs.YtgickognjlapmaaW.PrintLast Go.Proofs.YtgickognjlapmaaW.PrintMore
set_option linter.unusedVariables false
set_option linter.unusedSimpArgs false
theorem awake45 (k : Nat) (hk : 40 ≤ k) : vinculumlaw45_awake.f k = some true := at_rounds vinculumlaw45_awake.mono hk (by decide +kernel)
theorem same45_loop (a : List Int) (ha : a.length ≤ 4611686018427387904) (d : Nat) : ∀ (k i : Nat), i ≤ a.length → a.length - i = d → d < k → vinculumlaw45_same.l0 k a a (i : Int) = some true := by
  induction d with
  | zero =>
    intro k i hi hd hk
    obtain ⟨k, rfl⟩ : ∃ m, k = m + 1 := ⟨k - 1, by omega⟩
    simp only [vinculumlaw45_same.l0]
    rw [if_neg (by omega)]
  | succ d ih =>
    intro k i hi hd hk
    obtain ⟨k, rfl⟩ : ∃ m, k = m + 1 := ⟨k - 1, by omega⟩
    simp only [vinculumlaw45_same.l0]
    rw [if_pos (by omega), if_pos (by omega), if_pos (by omega), if_pos trivial, len_succ (n := a.length) (by omega) (by omega)]
    exact ih k (i + 1) (by omega) (by omega) (by omega)
theorem same45_self (a : List Int) (ha : a.length ≤ 4611686018427387904) {k : Nat} (hk : a.length < k) : vinculumlaw45_same.f k a a = some true := by
  unfold vinculumlaw45_same.f
  rw [if_pos rfl]
  exact same45_loop a ha a.length k 0 (by omega) (by omega) hk
end Go.Proofs.Ytgickognjlapmaa.M46
