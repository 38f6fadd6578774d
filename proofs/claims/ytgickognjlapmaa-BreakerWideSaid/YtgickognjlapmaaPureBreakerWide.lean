/- BreakerWide: if everything fits, and no penalty is less than -100, the best starts are one line. -/
import Derived.Test.YtgickognjlapmaaT45
import Derived.Test.YtgickognjlapmaaA45
import Derived.Test.YtgickognjlapmaaPWx4
namespace Go.Proofs.Ytgickognjlapmaa.Pure
set_option linter.unusedVariables false
set_option linter.unusedSimpArgs false
open Go.RowKit Go.Proofs.Ytgickognjlapmaa.PW Go.Proofs.Ytgickognjlapmaa.D44 Go.Proofs.Ytgickognjlapmaa.M46 Go.Proofs.YtgickognjlapmaaW.PrintWords Go.Proofs.YtgickognjlapmaaW.PrintLast Go.Proofs.YtgickognjlapmaaW.PrintMore

theorem bad_nonneg {d w : Int} (hw : 1 ≤ w) (hd : -700000000 ≤ d) (last : Bool) : 0 ≤ bad d w last := (bad_bound hw hd last).1
theorem lin_wide {l : List S} {w ind : Int} (hf : fits l w ind = true) {i j : Nat} (hij : i < j) (hj : j ≤ l.length) (hp : ∀ p ∈ l, -100 ≤ p.f2) (hg : (lin l w ind i j).2 = true) : (if 0 < i then 0 else 100) ≤ (lin l w ind i j).1 := by
  obtain ⟨hv, h1, h2, h3, h4⟩ := fits_iff.1 hf
  have key : ∀ v : Int, 1 ≤ v → v ≤ 10000000 → ((lineS l (i : Int) (j : Int) v).2 == 0) = true → (if 0 < i then 0 else 100) ≤ (lineS l (i : Int) (j : Int) v).1 := by
    intro v g1 g2 g3
    have eL : lineS l (i : Int) (j : Int) v = if legal l i j v = true then (lineD l i j v, 0) else (0, 6) := by
      unfold lineS
      rw [if_pos ⟨hv, g1, g2⟩, if_pos (by omega), Int.toNat_natCast, Int.toNat_natCast]
    rw [eL] at g3 ⊢
    by_cases c : legal l i j v = true
    · rw [if_pos c]
      have hlb := len44_bound hv hij hj
      have hb := bad_nonneg (d := v - len44 l i j) g1 (by omega) (decide (j = l.length))
      unfold lineD
      by_cases e : 0 < i
      · rw [if_pos e, if_pos e]
        have := hp l[i] (List.getElem_mem (by omega))
        rw [rd_nat (by omega)]
        simp only
        omega
      · rw [if_neg e, if_neg e]
        simp only
        omega
    · rw [if_neg c] at g3
      simp at g3
  unfold lin at hg ⊢
  simp only at hg ⊢
  by_cases e : 0 < i
  · rw [if_pos e] at hg
    have := key _ (by rw [wrap_id (by omega) (by omega)]; omega) (by rw [wrap_id (by omega) (by omega)]; omega) hg
    rw [if_pos e] at this
    simpa only [if_pos e] using this
  · rw [if_neg e] at hg
    have := key _ h1 h2 hg
    rw [if_neg e] at this
    simpa only [if_neg e] using this
theorem lin_whole {l : List S} {w ind : Int} (hf : fits l w ind = true) (hlen : len44 l 0 l.length ≤ w) : lin l w ind 0 l.length = (100, true) := by
  obtain ⟨hv, h1, h2, h3, h4⟩ := fits_iff.1 hf
  have hn := vp_len hv
  unfold lin
  rw [if_neg (by omega)]
  unfold lineS
  rw [if_pos ⟨hv, h1, h2⟩, if_pos (by omega), Int.toNat_natCast, Int.toNat_natCast, if_pos (by simp only [legal, decide_eq_true_eq]; exact Or.inl hlen)]
  unfold lineD
  rw [if_neg (by omega), decide_eq_true rfl]
  unfold bad
  rw [if_neg (by omega)]
  rfl
theorem wide_loop {l : List S} {w ind m : Int} (hn : l.length ≤ 64) (X : Option Bool) (d : Nat) : ∀ (k i : Nat), i ≤ l.length → l.length - i = d → 1000 + d ≤ k →
    (∀ q, 1000 ≤ q + 1 → (∀ p ∈ l, -100 ≤ p.f2) → ((demerit_Length.f q l 0 (l.length : Int)).bind fun bt141 => (if bt141.2 = 0 then (vinculumlaw45_BreakerWide.j1 q l bt141.2 (decide (bt141.1 > w)) w ind m) else (vinculumlaw45_BreakerWide.j1 q l bt141.2 true w ind m))) = some true) →
    (∀ j : Nat, j < i → ∀ h : j < l.length, -100 ≤ l[j].f2) → vinculumlaw45_BreakerWide.l0 k l (i : Int) w ind m = some true := by
  induction d with
  | zero =>
    intro k i hi hd hk hX hp
    obtain ⟨k, rfl⟩ : ∃ m, k = m + 1 := ⟨k - 1, by omega⟩
    simp only [vinculumlaw45_BreakerWide.l0]
    rw [if_neg (by omega)]
    exact hX k (by omega) (fun p hp' => by
      obtain ⟨j, hj, rfl⟩ := List.getElem_of_mem hp'
      exact hp j (by omega) hj)
  | succ d ih =>
    intro k i hi hd hk hX hp
    obtain ⟨k, rfl⟩ : ∃ m, k = m + 1 := ⟨k - 1, by omega⟩
    simp only [vinculumlaw45_BreakerWide.l0]
    rw [if_pos (by omega), if_pos (by omega), rd_nat (by omega), len_succ (n := l.length) (by omega) (by omega)]
    by_cases c : l[i].f2 < -100
    · rw [if_pos c]
    · rw [if_neg c]
      exact ih k (i + 1) (by omega) (by omega) (by omega) hX (fun j hj h => by
        by_cases e : j = i
        · subst e
          omega
        · exact hp j (by omega) h)
theorem BreakerWide (l0 : List S) (a b c : Int) (w0 : l0.length * 24 ≤ 140737488351232 ∧ l0.length ≤ maxLen ∧ ∀ v ∈ l0, WfP v) (wa : (Lit.int .i64 a).wf = true) (wb : (Lit.int .i64 b).wf = true) (wc : (Lit.int .i64 c).wf = true) :
    ∃ k, vinculumlaw45_BreakerWide.f k l0 a b c = some true := by
  obtain ⟨hn, _, hw⟩ := w0
  refine ⟨l0.length + 5000, ?_⟩
  unfold vinculumlaw45_BreakerWide.f
  rw [awake45 _ (by omega), Option.bind_some, if_pos rfl, fits45_f (by omega) a b c wa (by omega), Option.bind_some]
  by_cases hf : fits l0 a b = true
  · rw [if_pos hf]
    obtain ⟨hv, f1, f2, f3, f4⟩ := fits_iff.1 hf
    have hl := vp_len hv
    refine wide_loop (by omega) none l0.length (l0.length + 5000) 0 (by omega) (by omega) (by omega) (fun q hq hp => ?_) (fun j hj => absurd hj (by omega))
    obtain ⟨q, rfl⟩ : ∃ m, q = m + 1 := ⟨q - 1, by omega⟩
    rw [demLength l0 (by omega) hw _ _ _ (by omega), Option.bind_some]
    have hls : lengthS l0 0 (l0.length : Int) = (len44 l0 0 l0.length, 0) := by
      unfold lengthS
      rw [if_pos hv, if_pos (by omega), Int.toNat_natCast]
      rfl
    rw [hls, if_pos rfl]
    by_cases hlong : len44 l0 0 l0.length > a
    · rw [decide_eq_true hlong]
      simp only [vinculumlaw45_BreakerWide.j1, if_true]
      rfl
    · rw [decide_eq_false hlong]
      simp only [vinculumlaw45_BreakerWide.j1]
      have ho := bestO_opt hf
      have htb := bestO_tb hf
      have hwh := lin_whole hf (show len44 l0 0 l0.length ≤ a by omega)
      have pos : ∀ (d i : Nat), l0.length - i = d → 1 ≤ i → i ≤ l0.length → 0 ≤ (re (bestO l0 a b) (i : Int)).1 := by
        intro d
        induction d using Nat.strongRecOn with
        | ind d ih =>
          intro i hd h1 hi
          by_cases e : i = l0.length
          · subst e
            rw [ho.2.1]
            exact Int.le_refl _
          · obtain ⟨_, j, k2, k3, k4, _, k5⟩ := ho.2.2.2.1 i (by omega) (by omega)
            have := ih (l0.length - j) (by omega) j rfl (by omega) k3
            have h3 := lin_wide hf k2 k3 hp k4
            rw [if_pos (by omega)] at h3
            omega
      obtain ⟨k1, j, k2, k3, k4, k6, k5⟩ := ho.2.2.2.1 0 (by omega) (by omega)
      have hle := k1 l0.length (by omega) (by omega) (by rw [hwh])
      rw [hwh, ho.2.1] at hle
      have hge := lin_wide hf k2 k3 hp k4
      rw [if_neg (by omega)] at hge
      have hpj := pos _ j rfl (by omega) k3
      have hval : (re (bestO l0 a b) ((0 : Nat) : Int)).1 = 100 := by simp only at hle; omega
      have hjn : j = l0.length := by
        by_cases e : j = l0.length
        · exact e
        · have := htb 0 (by omega) (by omega) l0.length (by omega) (by omega) (by rw [hwh]) (by
            rw [k6, Int.toNat_natCast]
            unfold key
            rw [if_pos rfl, if_neg e]
            omega)
          rw [hwh, ho.2.1] at this
          simp only at this
          omega
      subst hjn
      have hfol : breaker_problem_follow.l l0.length (fun _ i => (re (bestO l0 a b) i).2.1) (q + 1) [] 0 0 = some [0] := by
        obtain ⟨q, rfl⟩ : ∃ m, q = m + 1 := ⟨q - 1, by omega⟩
        have k6' : (re (bestO l0 a b) 0).2.1 = (l0.length : Int) := k6
        simp only [breaker_problem_follow.l]
        rw [if_pos (by omega), if_pos (by omega), if_pos (by simp), k6', if_neg (by omega)]
        rfl
      obtain ⟨q, rfl⟩ : ∃ m, q = m + 1 := ⟨q - 1, by omega⟩
      have hfol' : breaker_problem_follow.l l0.length (fun _ i => (re (bestO l0 a b) i).2.1) (q + 1) [] 0 0 = some [0] := by
        obtain ⟨q, rfl⟩ : ∃ m, q = m + 1 := ⟨q - 1, by omega⟩
        have k6' : (re (bestO l0 a b) 0).2.1 = (l0.length : Int) := k6
        simp only [breaker_problem_follow.l]
        rw [if_pos (by omega), if_pos (by omega), if_pos (by simp), k6', if_neg (by omega)]
        rfl
      have hval' : (re (bestO l0 a b) 0).1 = 100 := hval
      rw [if_neg (by simp), best_o hw hf (by omega) hfol', Option.bind_some, if_pos rfl, if_pos hval', same45_self [0] (by simp) (by simp; omega), Option.bind_some]
  · rw [if_neg hf]

end Go.Proofs.Ytgickognjlapmaa.Pure
