/- Layer 46: potentials. Lemmas only. -/
import Derived.Test.YtliegocbkgdhcaaC46
import Derived.Test.YtliegocbkgdhcaaPGx7
namespace Go.Proofs.Ytliegocbkgdhcaa.M46
open Go.RowKit Go.Proofs.Ytliegocbkgdhcaa.PG Go.Proofs.Ytliegocbkgdhcaa.D44 Go.Proofs.YtliegocbkgdhcaaW.PrintWords Go.Proofs.YtliegocbkgdhcaaW.PrintLast Go.Proofs.YtliegocbkgdhcaaW.PrintMore
set_option linter.unusedVariables false
set_option linter.unusedSimpArgs false
theorem pot_loop (st nm : List Int) (n : Nat) (hn : n ≤ 4611686018427387904) (d : Nat) : ∀ (k i : Nat) (o : List Int), o.length = n → i ≤ n → n - i = d → 2 * d + 4 ≤ k →
    ∃ o', vinculumlaw46_potentials.l0 k o (i : Int) st nm true = some o' ∧ o'.length = n := by
  induction d with
  | zero =>
    intro k i o ho hi hd hk
    obtain ⟨k, rfl⟩ : ∃ m, k = m + 2 := ⟨k - 2, by omega⟩
    simp only [vinculumlaw46_potentials.l0]
    rw [if_neg (by omega)]
    simp only [vinculumlaw46_potentials.j1]
    exact ⟨o, if_neg (by simp), ho⟩
  | succ d ih =>
    intro k i o ho hi hd hk
    obtain ⟨k, rfl⟩ : ∃ m, k = m + 2 := ⟨k - 2, by omega⟩
    simp only [vinculumlaw46_potentials.l0]
    rw [if_pos (by omega)]
    simp only [vinculumlaw46_potentials.j1]
    by_cases c : (i : Int) < (nm.length : Int)
    · rw [decide_eq_true c, if_pos rfl, if_pos (by omega), if_pos c, len_succ (n := n) (by omega) (by omega)]
      have e1 := ih k (i + 1) o ho (by omega) (by omega) (by omega)
      have e2 := ih k (i + 1) (o.set (i : Int).toNat (wrap64 (rd o (i : Int) + rd nm (i : Int)))) (by rw [List.length_set]; exact ho) (by omega) (by omega) (by omega)
      by_cases c1 : rd nm (i : Int) ≥ -1000
      · rw [if_pos c1]
        by_cases c2 : rd nm (i : Int) ≤ 1000
        · rw [if_pos c2, if_pos (by omega)]
          exact e2
        · rw [if_neg c2]
          exact e1
      · rw [if_neg c1]
        exact e1
    · rw [decide_eq_false c, if_neg (by simp)]
      exact ⟨o, rfl, ho⟩
theorem pot_f {l : List S} (hn : l.length ≤ 1000) (w ind : Int) (hww : (Lit.int .i64 w).wf = true) (st nm : List Int) (b : Bool) {k : Nat} (hk : 3 * l.length + 20 + l.length * (l.length + 3) ≤ k) : ∃ o, vinculumlaw46_potentials.f k l w ind st nm b = some o ∧ (o.length = nm.length ∨ o.length = (makeS l w ind).1.length) ∧ (b = true → o.length = (makeS l w ind).1.length) := by
  unfold vinculumlaw46_potentials.f
  cases b with
  | false => exact ⟨nm, if_neg (by simp), Or.inl rfl, fun h => by simp at h⟩
  | true =>
    rw [if_pos rfl, refMake_f hn w ind hww (by omega), Option.bind_some]
    obtain ⟨o, h1, h2⟩ := pot_loop st nm (makeS l w ind).1.length (by rw [makeS_len]; split <;> omega) (makeS l w ind).1.length k 0 (makeS l w ind).1 rfl (by omega) (by omega) (by rw [makeS_len]; split <;> omega)
    exact ⟨o, h1, Or.inr h2, fun _ => h2⟩
end Go.Proofs.Ytliegocbkgdhcaa.M46
