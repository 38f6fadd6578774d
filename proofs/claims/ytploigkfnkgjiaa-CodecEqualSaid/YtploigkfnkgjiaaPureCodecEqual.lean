/- CodecEqual: Equal is the reference's for any two values of at most 300 nodes. -/
import Derived.Test.YtploigkfnkgjiaaT03
namespace Go.Proofs.Ytploigkfnkgjiaa.Pure
set_option linter.unusedVariables false
set_option linter.unusedSimpArgs false
open Go.RowKit Go.Proofs.Ytploigkfnkgjiaa.PE Go.Proofs.Ytploigkfnkgjiaa.T03 Go.Proofs.YtploigkfnkgjiaaW.PrintWords
def Wf24 : Nat → R → Prop
  | 0, _ => False
  | d + 1, x => ((Lit.int .i64 x.f0).wf = true) ∧ ((Lit.int .i64 x.f1).wf = true) ∧ (x.f2.size ≤ 140737488351232) ∧ (x.f3.length * 56 ≤ 140737488351232 ∧ x.f3.length ≤ maxLen ∧ ∀ v ∈ x.f3, Wf24 d v)
theorem wf_to : ∀ (d : Nat) (x : R), Wf24 d x → T03.Wf d x
  | 0, _, h => h.elim
  | d + 1, x, h => by
    obtain ⟨h1, h2, h3, h4, h5, h6⟩ := h
    exact ⟨h1, h2, h3, h4, h5, fun v hv => wf_to d v (h6 v hv)⟩
theorem root (a b : Int) (s : ByteArray) (l : List R) (wa : (Lit.int .i64 a).wf = true) (wb : (Lit.int .i64 b).wf = true) (ws : s.size ≤ 140737488351232) (wl : l.length * 56 ≤ 140737488351232 ∧ l.length ≤ maxLen ∧ ∀ v ∈ l, ∃ d, Wf24 d v) : ∃ d, T03.Wf d ⟨a, b, s, l⟩ := by
  obtain ⟨h1, h2, h3⟩ := wl
  obtain ⟨d, hd⟩ := T03.Wf.common l (fun v hv => by obtain ⟨d, h⟩ := h3 v hv; exact ⟨d, wf_to d v h⟩)
  exact ⟨d + 1, wa, wb, ws, h1, h2, hd⟩
theorem CodecEqual (a b : Int) (s : ByteArray) (l : List R) (a' b' : Int) (s' : ByteArray) (l' : List R) (wa : (Lit.int .i64 a).wf = true) (wb : (Lit.int .i64 b).wf = true) (ws : s.size ≤ 140737488351232) (wl : l.length * 56 ≤ 140737488351232 ∧ l.length ≤ maxLen ∧ ∀ v ∈ l, ∃ d, Wf24 d v)
    (wa' : (Lit.int .i64 a').wf = true) (wb' : (Lit.int .i64 b').wf = true) (ws' : s'.size ≤ 140737488351232) (wl' : l'.length * 56 ≤ 140737488351232 ∧ l'.length ≤ maxLen ∧ ∀ v ∈ l', ∃ d, Wf24 d v) :
    ∃ k, vinculumlaw03_CodecEqual.f k a b s l a' b' s' l' = some true := by
  obtain ⟨d, hd⟩ := root a b s l wa wb ws wl
  obtain ⟨d', hd'⟩ := root a' b' s' l' wa' wb' ws' wl'
  have hx := hd.le (show d ≤ d + d' by omega)
  have hy := hd'.le (show d' ≤ d + d' by omega)
  generalize d + d' = e at hx hy
  obtain ⟨K, h⟩ := few_f e _ hx
  obtain ⟨K', h'⟩ := few_f e _ hy
  refine ⟨K + K' + 400 * e + 30, ?_⟩
  unfold vinculumlaw03_CodecEqual.f
  rw [awake03 _ (by omega), Option.bind_some, if_pos rfl]
  have j : ∀ k, 0 < k → vinculumlaw03_CodecEqual.j0 k true a b s l a' b' s' l' = some true := fun k hk => by
    obtain ⟨k, rfl⟩ : ∃ m, k = m + 1 := ⟨k - 1, by omega⟩
    simp [vinculumlaw03_CodecEqual.j0]
  rcases h with h | ⟨hs, h⟩
  · rw [h _ (by omega), Option.bind_some, if_neg (by simp), j _ (by omega)]
  · rw [h _ (by omega), Option.bind_some, if_pos rfl]
    rcases h' with h' | ⟨hs', h'⟩
    · rw [h' _ (by omega), Option.bind_some]
      exact j _ (by omega)
    · rw [h' _ (by omega), Option.bind_some]
      obtain ⟨k, hk⟩ : ∃ m, K + K' + 400 * e + 30 = m + 1 := ⟨K + K' + 400 * e + 29, rfl⟩
      rw [hk]
      have o1 := own_f e ⟨a, b, s, l⟩ hs k (by omega)
      have o2 := own_f e ⟨a', b', s', l'⟩ hs' k (by omega)
      have e1 := eq_f e _ _ hs hs' k (by omega)
      have e2 := refeq_f e _ _ hs hs' k (by omega)
      have e3 := eq_f e _ _ hs hs k (by omega)
      rw [eqv_self] at e3
      dsimp only at o1 o2 e2
      simp only [vinculumlaw03_CodecEqual.j0, Bool.not_true]
      rw [if_neg (by simp), o1]
      simp only [Option.bind_some]
      rw [o2]
      simp only [Option.bind_some]
      rw [e1, e2]
      simp only [Option.bind_some, beq_self_eq_true, if_true]
      rw [e3]
      rfl
end Go.Proofs.Ytploigkfnkgjiaa.Pure
