/- Layer 45's reference: what All comes to. Lemmas only. -/
import Derived.Test.YtgickognjlapmaaW45
import Derived.Test.YtgickognjlapmaaA45
import Derived.Test.YtgickognjlapmaaPRx9
namespace Go.Proofs.Ytgickognjlapmaa.M46
open Go.RowKit Go.Proofs.Ytgickognjlapmaa.PR Go.Proofs.Ytgickognjlapmaa.D44 Go.Proofs.YtgickognjlapmaaW.PrintWords Go.Proofs.YtgickognjlapmaaW.PrintLast Go.Proofs.YtgickognjlapmaaW.PrintMore
set_option linter.unusedVariables false
set_option linter.unusedSimpArgs false

abbrev SR := S61
theorem rdR_self {st : List SR} {j : Nat} (h : j < st.length) (x : SR) : rd_T61 (st.set j x) (j : Int) = x := by simp [rd_T61, h]
theorem rdR_ne {st : List SR} {i j : Nat} (h : i ≠ j) (x : SR) : rd_T61 (st.set i x) (j : Int) = rd_T61 st (j : Int) := by simp [rd_T61, List.getElem?_set_ne h]
theorem setR_self (st : List SR) (j : Nat) : st.set j (rd_T61 st (j : Int)) = st := by
  apply List.ext_getElem?
  intro i
  rw [List.getElem?_set]
  split
  · rename_i e
    subst e
    split
    · rename_i h
      simp [rd_T61, h]
    · rename_i h
      rw [List.getElem?_eq_none (by omega)]
  · rfl
/-- The place's starts: any at 0, those with j lines at j. -/
def Pj (j : Nat) (s : List Int) : Prop := j = 0 ∨ s.length = j
/-- The starts of the first m sets. -/
def Qm (n m : Nat) (s : List Int) : Prop := ∃ set, set < m ∧ s = sOf n set
structure ResAt (l : List S) (w ind : Int) (m j : Nat) (x : SR) : Prop where
  yes : x.f2 = true → BestOf l w ind 0 (fun s => Qm l.length m s ∧ Pj j s) x.f0 x.f1
  no : x.f2 = false → ∀ s, Qm l.length m s → Pj j s → tS l w ind s = none
theorem qm_succ {n m : Nat} {s : List Int} : Qm n (m + 1) s ↔ Qm n m s ∨ s = sOf n m := by
  constructor
  · rintro ⟨set, h1, h2⟩
    by_cases e : set = m
    · exact Or.inr (by rw [h2, e])
    · exact Or.inl ⟨set, by omega, h2⟩
  · rintro (⟨set, h1, h2⟩ | h)
    · exact ⟨set, by omega, h2⟩
    · exact ⟨m, by omega, h⟩
/-- Where the new starts don't belong, or aren't legal, all stays. -/
theorem res_keep {l : List S} {w ind : Int} {m j : Nat} {x : SR} (h : ResAt l w ind m j x) (hn : Pj j (sOf l.length m) → tS l w ind (sOf l.length m) = none) : ResAt l w ind (m + 1) j x := by
  constructor
  · intro hx
    have hb := h.yes hx
    refine ⟨hb.fr, ⟨qm_succ.2 (Or.inl hb.ok.1), hb.ok.2⟩, hb.sum, fun s' t' h1 h2 h3 => ?_⟩
    rcases qm_succ.1 h2.1 with h4 | h4
    · exact hb.least s' t' h1 ⟨h4, h2.2⟩ h3
    · subst h4
      rw [hn h2.2] at h3
      cases h3
  · intro hx s h1 h2
    rcases qm_succ.1 h1 with h4 | h4
    · exact h.no hx s h4 h2
    · subst h4
      exact hn h2
theorem res_new {l : List S} {w ind : Int} {m j : Nat} {x : SR} {t : Int} (h : ResAt l w ind m j x) (hfr : Fr l 0 (sOf l.length m)) (hp : Pj j (sOf l.length m)) (ht : tS l w ind (sOf l.length m) = some t)
    (hless : x.f2 = true → t < x.f1 ∨ (t = x.f1 ∧ bef (sOf l.length m) x.f0 = true)) : ResAt l w ind (m + 1) j ⟨sOf l.length m, t, true⟩ := by
  constructor
  · intro _
    refine ⟨hfr, ⟨qm_succ.2 (Or.inr rfl), hp⟩, ht, fun s' t' h1 h2 h3 => ?_⟩
    simp only
    rcases qm_succ.1 h2.1 with h4 | h4
    · cases hx : x.f2 with
      | false =>
        have := h.no hx s' h4 h2.2
        rw [h3] at this
        cases this
      | true =>
        have hb := (h.yes hx).least s' t' h1 ⟨h4, h2.2⟩ h3
        rcases hless hx with g | ⟨g, g2⟩
        · rcases hb with hb | hb
          · exact Or.inl (by omega)
          · exact Or.inl (by omega)
        · rcases hb with hb | ⟨hb, hb2⟩
          · exact Or.inl (by omega)
          · refine Or.inr ⟨by omega, Or.inr ?_⟩
            rcases hb2 with hb2 | hb2
            · rw [hb2]; exact g2
            · exact bef_trans _ _ _ g2 hb2
    · subst h4
      rw [ht] at h3
      exact Or.inr ⟨Option.some.inj h3, Or.inl rfl⟩
  · intro h
    cases h
theorem res_old {l : List S} {w ind : Int} {m j : Nat} {x : SR} {t : Int} (h : ResAt l w ind m j x) (hx : x.f2 = true) (ht : tS l w ind (sOf l.length m) = some t)
    (hmore : x.f1 < t ∨ (x.f1 = t ∧ (sOf l.length m = x.f0 ∨ bef x.f0 (sOf l.length m) = true))) : ResAt l w ind (m + 1) j x := by
  constructor
  · intro _
    have hb := h.yes hx
    refine ⟨hb.fr, ⟨qm_succ.2 (Or.inl hb.ok.1), hb.ok.2⟩, hb.sum, fun s' t' h1 h2 h3 => ?_⟩
    rcases qm_succ.1 h2.1 with h4 | h4
    · exact hb.least s' t' h1 ⟨h4, h2.2⟩ h3
    · subst h4
      rw [ht] at h3
      obtain rfl := Option.some.inj h3
      exact hmore
  · intro h
    rw [hx] at h
    cases h
theorem u_step {l : List S} {w ind : Int} {m j : Nat} {st : List SR} {t : Int} (hn : 1 ≤ l.length) (hn2 : l.length ≤ 100) (hl : st.length = l.length + 1) (hj : j ≤ l.length) (h : ResAt l w ind m j (rd_T61 st (j : Int))) (hp : Pj j (sOf l.length m)) (ht : tS l w ind (sOf l.length m) = some t) {k : Nat} (hk : 300 ≤ k) :
    ∃ x', vinculumref45_try.u k (sOf l.length m) t j st = some (st.set j x') ∧ ResAt l w ind (m + 1) j x' := by
  have hfr := (fr_starts hn).2 (sOf_starts hn m)
  have hsl := sOf_len l.length m hn
  unfold vinculumref45_try.u
  rw [if_pos (by omega)]
  cases hx : (rd_T61 st (j : Int)).f2 with
  | false =>
    rw [if_pos rfl]
    exact ⟨_, rfl, res_new h hfr hp ht (fun h => by rw [hx] at h; cases h)⟩
  | true =>
    rw [if_neg (by decide)]
    by_cases c : t < (rd_T61 st (j : Int)).f1
    · rw [if_pos c]
      exact ⟨_, rfl, res_new h hfr hp ht (fun _ => Or.inl c)⟩
    · rw [if_neg c]
      by_cases c2 : t = (rd_T61 st (j : Int)).f1
      · rw [if_pos c2, before_f _ _ (by omega) (by omega), Option.bind_some]
        cases hb : bef (sOf l.length m) (rd_T61 st (j : Int)).f0 with
        | true =>
          rw [if_pos rfl]
          exact ⟨_, rfl, res_new h hfr hp ht (fun _ => Or.inr ⟨c2, hb⟩)⟩
        | false =>
          rw [if_neg (by decide)]
          refine ⟨rd_T61 st (j : Int), by rw [setR_self], res_old h hx ht (Or.inr ⟨c2.symm, ?_⟩)⟩
          by_cases e : sOf l.length m = (rd_T61 st (j : Int)).f0
          · exact Or.inl e
          · rcases bef_total _ _ e with g | g
            · rw [hb] at g
              cases g
            · exact Or.inr g
      · rw [if_neg c2]
        exact ⟨rd_T61 st (j : Int), by rw [setR_self], res_old h hx ht (Or.inl (by omega))⟩
theorem sOf_wf {n : Nat} (hn : 1 ≤ n) (hn2 : n ≤ 100) (set : Nat) : ∀ x ∈ sOf n set, (Lit.int .i64 x).wf = true := fun x hx => by
  have := (startsB_iff.1 (sOf_starts hn set)).1 x hx
  rw [wf64]
  omega
theorem try_step {l : List S} {w ind : Int} (hf : fits l w ind = true) (hww : (Lit.int .i64 w).wf = true) {m : Nat} {st : List SR} (hl : st.length = l.length + 1) (h : ∀ j, j ≤ l.length → ResAt l w ind m j (rd_T61 st (j : Int))) {k : Nat} (hk : 1000 ≤ k) :
    ∃ st', vinculumref45_try.f k l (sOf l.length m) w ind st = some st' ∧ st'.length = l.length + 1 ∧ ∀ j, j ≤ l.length → ResAt l w ind (m + 1) j (rd_T61 st' (j : Int)) := by
  have hn := vp_len (fits_iff.1 hf).1
  have hst := sOf_starts hn.1 m
  have hsl := sOf_len l.length m hn.1
  unfold vinculumref45_try.f
  rw [refTotal l (by omega) _ (by omega) (sOf_wf hn.1 (by omega) m) w ind hww k (by omega), Option.bind_some, total_eq hf hst]
  cases hT : tS l w ind (sOf l.length m) with
  | none =>
    rw [if_neg (by simp [pack])]
    exact ⟨st, rfl, hl, fun j hj => res_keep (h j hj) (fun _ => hT)⟩
  | some t =>
    rw [if_pos (by rfl), if_pos (by omega)]
    have ht : (pack 0 (some t)).1 = t := by simp [pack]
    rw [ht]
    simp only [vinculumref45_try.l]
    rw [if_pos trivial, if_neg (by decide)]
    obtain ⟨x0, h1, h2⟩ := u_step (j := 0) hn.1 (by omega) hl (Nat.zero_le _) (h 0 (Nat.zero_le _)) (Or.inl rfl) hT (k := k) (by omega)
    have hl2 : (st.set 0 x0).length = l.length + 1 := by rw [List.length_set]; exact hl
    have h3 := h (sOf l.length m).length hsl.2
    rw [← rdR_ne (i := 0) (by omega) x0] at h3
    obtain ⟨x1, h4, h5⟩ := u_step hn.1 (by omega) hl2 hsl.2 h3 (Or.inr rfl) hT (k := k) (by omega)
    rw [h1, Option.bind_some, h4, Option.bind_some]
    refine ⟨_, rfl, by rw [List.length_set]; exact hl2, fun j hj => ?_⟩
    by_cases e : j = (sOf l.length m).length
    · subst e
      rw [rdR_self (by omega)]
      exact h5
    · rw [rdR_ne (Ne.symm e)]
      by_cases e0 : j = 0
      · subst e0
        rw [rdR_self (by omega)]
        exact h2
      · rw [rdR_ne (Ne.symm e0)]
        exact res_keep (h j hj) (fun hp => by
          rcases hp with hp | hp
          · exact absurd hp e0
          · exact absurd hp.symm e)
theorem all_loop {l : List S} {w ind : Int} (hf : fits l w ind = true) (hww : (Lit.int .i64 w).wf = true) {k : Nat} (hk : 1000 ≤ k) : ∀ (d m : Nat) (st : List SR), st.length = l.length + 1 → (∀ j, j ≤ l.length → ResAt l w ind m j (rd_T61 st (j : Int))) →
    ∃ st', vinculumref45_All.l k l w ind d m st = some st' ∧ st'.length = l.length + 1 ∧ ∀ j, j ≤ l.length → ResAt l w ind (m + d) j (rd_T61 st' (j : Int))
  | 0, m, st, hl, h => ⟨st, rfl, hl, h⟩
  | d + 1, m, st, hl, h => by
    obtain ⟨st1, h1, h2, h3⟩ := try_step hf hww hl h hk
    obtain ⟨st2, h4, h5, h6⟩ := all_loop hf hww hk d (m + 1) st1 h2 h3
    refine ⟨st2, ?_, h5, fun j hj => by rw [show m + (d + 1) = m + 1 + d by omega]; exact h6 j hj⟩
    simp only [vinculumref45_All.l]
    rw [show vinculumref45_All.s m (l.length - 1) 1 [0] = sOf l.length m from rfl, h1, Option.bind_some]
    exact h4
/-- All of a valid problem: at each place the best starts, if there are any. -/
theorem all_spec {l : List S} {w ind : Int} (hf : fits l w ind = true) (h10 : l.length ≤ 20) (hww : (Lit.int .i64 w).wf = true) {k : Nat} (hk : 1000 ≤ k) :
    ∃ st, vinculumref45_All.f k l w ind = some (st, 0) ∧ st.length = l.length + 1 ∧ ∀ j : Nat, j ≤ l.length →
      ((rd_T61 st (j : Int)).f2 = true → BestOf l w ind 0 (Pj j) (rd_T61 st (j : Int)).f0 (rd_T61 st (j : Int)).f1) ∧
      ((rd_T61 st (j : Int)).f2 = false → ∀ s, Fr l 0 s → Pj j s → tS l w ind s = none) := by
  have hv := fits_iff.1 hf
  have hn := vp_len hv.1
  have hz : ∀ j : Nat, (rd_T61 (List.replicate (l.length + 1) z61) (j : Int)).f2 = false := fun j => by
    simp [rd_T61, List.getElem?_replicate]
    split <;> rfl
  have hstart : ∀ j, j ≤ l.length → ResAt l w ind 0 j (rd_T61 (List.replicate (l.length + 1) z61) (j : Int)) := fun j hj => by
    constructor
    · intro h
      rw [hz] at h
      cases h
    · intro _ s hq
      obtain ⟨set, h, _⟩ := hq
      omega
  obtain ⟨st, h1, h2, h3⟩ := all_loop hf hww hk (2 ^ (l.length - 1)) 0 (List.replicate (l.length + 1) z61) (by simp) hstart
  refine ⟨st, ?_, h2, fun j hj => ?_⟩
  · unfold vinculumref45_All.f
    rw [refValid l (by omega) k (by omega), Option.bind_some, if_pos hv.1, fits_f w ind hww, Option.bind_some, if_pos (by rw [decide_eq_true_eq]; exact hv.2), if_pos (by omega), h1, Option.bind_some]
  · have hr := h3 j hj
    have hq : ∀ s, Fr l 0 s → Qm l.length (0 + 2 ^ (l.length - 1)) s := fun s hs => by
      obtain ⟨set, g1, g2⟩ := sOf_onto hn.1 hs
      exact ⟨set, by omega, g2⟩
    constructor
    · intro h
      have hb := hr.yes h
      exact ⟨hb.fr, hb.ok.2, hb.sum, fun s' t' a b c => hb.least s' t' a ⟨hq s' a, b⟩ c⟩
    · intro h s a b
      exact hr.no h s (hq s a) b
theorem all_arg {l : List S} (hn : l.length ≤ 100) {w ind : Int} (hf : ¬ fits l w ind = true) (hww : (Lit.int .i64 w).wf = true) {k : Nat} (hk : 1000 ≤ k) : vinculumref45_All.f k l w ind = some ([], 1) := by
  unfold vinculumref45_All.f
  rw [refValid l (by omega) k (by omega), Option.bind_some]
  by_cases hv : vp l = true
  · rw [if_pos hv, fits_f w ind hww, Option.bind_some, if_neg (fun h => hf (fits_iff.2 ⟨hv, of_decide_eq_true h⟩))]
  · rw [if_neg hv]
end Go.Proofs.Ytgickognjlapmaa.M46
