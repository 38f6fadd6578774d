/- CertificateGreatest: no sound potentials have a greater number at any place than the least potentials. -/
import Derived.Test.YtliegocbkgdhcaaG46
import Derived.Test.YtliegocbkgdhcaaQ46
import Derived.Test.YtliegocbkgdhcaaPGx13
namespace Go.Proofs.Ytliegocbkgdhcaa.Pure
set_option linter.unusedVariables false
set_option linter.unusedSimpArgs false
open Go.RowKit Go.Proofs.Ytliegocbkgdhcaa.PG Go.Proofs.Ytliegocbkgdhcaa.D44 Go.Proofs.Ytliegocbkgdhcaa.M46 Go.Proofs.YtliegocbkgdhcaaW.PrintWords

theorem greatest_loop (ps o : List Int) (hl : ps.length = o.length) (hn : o.length ≤ 1000) (h : ∀ i : Nat, i < o.length → rd ps (i : Int) ≤ rd o (i : Int)) (d : Nat) : ∀ (k i : Nat), i ≤ o.length → o.length - i = d → d < k → vinculumlaw46_CertificateGreatest.l0 k ps o (i : Int) = some true := by
  induction d with
  | zero =>
    intro k i hi hd hk
    obtain ⟨k, rfl⟩ : ∃ m, k = m + 1 := ⟨k - 1, by omega⟩
    simp only [vinculumlaw46_CertificateGreatest.l0]
    rw [if_neg (by omega)]
  | succ d ih =>
    intro k i hi hd hk
    obtain ⟨k, rfl⟩ : ∃ m, k = m + 1 := ⟨k - 1, by omega⟩
    have := h i (by omega)
    simp only [vinculumlaw46_CertificateGreatest.l0]
    rw [if_pos (by omega), if_pos (by omega), if_pos (by omega), if_neg (by omega), len_succ (n := o.length) (by omega) (by omega)]
    exact ih k (i + 1) (by omega) (by omega) (by omega)
theorem CertificateGreatest (l0 : List S) (a b : Int) (nm : List Int) (w0 : l0.length * 24 ≤ 140737488351232 ∧ l0.length ≤ maxLen ∧ ∀ v ∈ l0, WfP v) (wa : (Lit.int .i64 a).wf = true) (wb : (Lit.int .i64 b).wf = true)
    (wn : nm.length * 8 ≤ 140737488351232 ∧ nm.length ≤ maxLen ∧ ∀ v ∈ nm, (Lit.int .i64 v).wf = true) :
    ∃ k, vinculumlaw46_CertificateGreatest.f k l0 a b nm = some true := by
  obtain ⟨_, _, hw⟩ := w0
  refine ⟨20000 + 1 + 1, ?_⟩
  have ht : vinculumlaw46_CertificateGreatest.j0 (20000 + 1 + 1) l0 nm true a b = some true := by simp only [vinculumlaw46_CertificateGreatest.j0, if_true]
  unfold vinculumlaw46_CertificateGreatest.f
  rw [awake46 _ (by omega), Option.bind_some, if_pos rfl]
  by_cases h1 : (l0.length : Int) > 70
  · rw [if_pos h1, ht]
  rw [if_neg h1]
  by_cases h2 : (nm.length : Int) > 100
  · rw [if_pos h2, ht]
  rw [if_neg h2, refFits_f (by omega) a b wa (by omega), Option.bind_some]
  by_cases hf : fits l0 a b = true
  · rw [hf, Bool.not_true]
    have hm2 := Nat.mul_le_mul (show l0.length ≤ 70 by omega) (show l0.length + 3 ≤ 73 by omega)
    obtain ⟨ps, hp, _, hl⟩ := pot_f (l := l0) (by omega) a b wa [] nm true (k := 20000 + 1) (by omega)
    have hl := hl rfl
    have hml : (makeS l0 a b).1.length = l0.length + 1 := by rw [makeS_len, if_pos hf]
    have he : (makeS l0 a b).2 = 0 := by unfold makeS; rw [if_pos hf]
    simp only [vinculumlaw46_CertificateGreatest.j0]
    rw [if_neg (by simp), hp, Option.bind_some, make_f (by omega) hw a b (by omega), Option.bind_some, if_pos he, hl, show (((makeS l0 a b).1.length : Int) != ((makeS l0 a b).1.length : Int)) = false from bne_self_eq_false _]
    simp only [vinculumlaw46_CertificateGreatest.j1]
    rw [if_neg (by simp), bound_f (by omega) hw a b ps (by omega), Option.bind_some]
    by_cases h : soundS l0 a b ps = true
    · rw [if_pos h, if_pos rfl]
      exact greatest_loop ps _ hl (by omega) (fun i hi => greatest h (makeS_opt hf) _ i rfl (by omega)) _ _ 0 (by omega) rfl (by omega)
    · rw [if_neg h, if_neg (by simp)]
  · rw [Bool.not_eq_true _ |>.mp hf, Bool.not_false, ht]

end Go.Proofs.Ytliegocbkgdhcaa.Pure
