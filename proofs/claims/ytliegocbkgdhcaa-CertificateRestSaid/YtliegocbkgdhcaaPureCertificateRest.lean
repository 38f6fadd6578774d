/- CertificateRest: a least potential behind the first one is that of the pieces from there on, without an indent, plus the penalty of the first of them. -/
import Derived.Test.YtliegocbkgdhcaaR46
import Derived.Test.YtliegocbkgdhcaaPBx8
namespace Go.Proofs.Ytliegocbkgdhcaa.Pure
set_option linter.unusedVariables false
set_option linter.unusedSimpArgs false
open Go.RowKit Go.Proofs.Ytliegocbkgdhcaa.PB Go.Proofs.Ytliegocbkgdhcaa.D44 Go.Proofs.Ytliegocbkgdhcaa.M46 Go.Proofs.YtliegocbkgdhcaaW.PrintWords

theorem CertificateRest (l0 : List S) (a b : Int) (at_ : Int) (w0 : l0.length * 24 ≤ 140737488351232 ∧ l0.length ≤ maxLen ∧ ∀ v ∈ l0, WfP v) (wa : (Lit.int .i64 a).wf = true) (wb : (Lit.int .i64 b).wf = true) (wat : (Lit.int .u8 at_).wf = true) :
    ∃ k, vinculumlaw46_CertificateRest.f k l0 a b at_ = some true := by
  obtain ⟨_, _, hw⟩ := w0
  refine ⟨20000 + 1, ?_⟩
  have ht : vinculumlaw46_CertificateRest.j0 (20000 + 1) l0 at_ true a b = some true := by simp only [vinculumlaw46_CertificateRest.j0, if_true]
  unfold vinculumlaw46_CertificateRest.f
  rw [awake46 _ (by omega), Option.bind_some, if_pos rfl]
  by_cases h0 : (l0.length : Int) < 2
  · rw [if_pos h0, ht]
  rw [if_neg h0]
  by_cases h1 : (l0.length : Int) > 70
  · rw [if_pos h1, ht]
  rw [if_neg h1, refFits_f (by omega) a b wa (by omega), Option.bind_some]
  by_cases hf : fits l0 a b = true
  · rw [hf, Bool.not_true]
    obtain ⟨hv, f1, f2, f3, f4⟩ := fits_iff.1 hf
    have hat : 0 ≤ at_ ∧ at_ ≤ 255 := by simpa [Lit.wf, IntKind.min, IntKind.max, IntKind.signed, IntKind.bits] using wat
    have e1 : wrap64 ((l0.length : Int) - 1) = (l0.length : Int) - 1 := wrap_id (by omega) (by omega)
    have e2 : wrap64 at_ = at_ := wrap_id (by omega) (by omega)
    have r1 := Int.tmod_nonneg ((l0.length : Int) - 1) hat.1
    have r2 := Int.tmod_lt_of_pos at_ (show 0 < (l0.length : Int) - 1 by omega)
    obtain ⟨i, hi⟩ : ∃ i : Nat, wrap64 (1 + (Int.tmod (wrap64 at_) (wrap64 ((l0.length : Int) - 1)))) = (i : Int) := ⟨(1 + (Int.tmod at_ ((l0.length : Int) - 1))).toNat, by rw [e1, e2, wrap_id (by omega) (by omega)]; omega⟩
    have hi1 : 1 ≤ i ∧ i < l0.length := by rw [e1, e2, wrap_id (by omega) (by omega)] at hi; omega
    have hl' : (l0.drop i).length = l0.length - i := List.length_drop
    have hw' : ∀ p ∈ l0.drop i, WfP p := fun p hp => hw p (List.mem_of_mem_drop hp)
    have hf' := fits_drop hf hi1.2
    have hml : (makeS l0 a b).1.length = l0.length + 1 := by rw [makeS_len, if_pos hf]
    have he : (makeS l0 a b).2 = 0 := by unfold makeS; rw [if_pos hf]
    have hml' : (makeS (l0.drop i) (a - b) 0).1.length = (l0.drop i).length + 1 := by rw [makeS_len, if_pos hf']
    have he' : (makeS (l0.drop i) (a - b) 0).2 = 0 := by unfold makeS; rw [if_pos hf']
    have ho := makeS_opt hf
    have ho' := makeS_opt hf'
    have hd := opt_drop hf ho (show 0 < i by omega) hi1.2 ho'
    obtain ⟨s, hb, hs, ht, hl⟩ := best_f hw' hf' ho' (k := 20000) (by omega)
    have b1 := ho.2.2.2 i (by omega) (by omega)
    simp only [vinculumlaw46_CertificateRest.j0]
    rw [if_neg (by simp), if_neg (show ¬ wrap64 ((l0.length : Int) - 1) = 0 by omega)]
    rw [hi, make_f (by omega) hw a b (by omega), Option.bind_some, if_pos (by omega), if_pos (by omega), Int.toNat_natCast, wrap_id (x := a - b) (by omega) (by omega), make_f (by omega) hw' (a - b) 0 (by omega), Option.bind_some, hb, Option.bind_some, if_pos he, if_pos he', if_pos rfl]
    rw [hml, hml', if_pos (by rw [len_succ (n := l0.length + 1) (by omega) (by omega)]), if_pos (by rw [hl', wrap_id (x := (l0.length : Int) - i) (by omega) (by omega), wrap_id (by omega) (by omega)]; omega), if_pos (by omega), if_pos (by omega), if_pos (by omega), if_pos (by rw [← hd]; exact (wrap_id (by omega) (by omega)).symm)]
    simp
  · rw [Bool.not_eq_true _ |>.mp hf, Bool.not_false, ht]

end Go.Proofs.Ytliegocbkgdhcaa.Pure
