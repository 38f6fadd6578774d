/- Layer 46: the least potentials. Lemmas only. -/
import Derived.Test.YtgickognjlapmaaC46
namespace Go.Proofs.Ytgickognjlapmaa.M46
open Go.RowKit Go.Proofs.Ytgickognjlapmaa.PR Go.Proofs.Ytgickognjlapmaa.D44 Go.Proofs.YtgickognjlapmaaW.PrintWords Go.Proofs.YtgickognjlapmaaW.PrintLast Go.Proofs.YtgickognjlapmaaW.PrintMore
set_option linter.unusedVariables false
set_option linter.unusedSimpArgs false

theorem rd_set_self {o : List Int} {i : Nat} (hi : i < o.length) (v : Int) : rd (o.set i v) (i : Int) = v := by simp [rd, hi]
theorem rd_set_ne {o : List Int} {i j : Nat} (h : i ≠ j) (v : Int) : rd (o.set i v) (j : Int) = rd o (j : Int) := by simp [rd, List.getElem?_set_ne h]
theorem lineS_bd (l : List S) (a b w : Int) : -10000 ≤ (lineS l a b w).1 ∧ (lineS l a b w).1 ≤ 700040000 := by
  unfold lineS
  by_cases h1 : vp l = true ∧ 1 ≤ w ∧ w ≤ 10000000
  · rw [if_pos h1]
    by_cases h2 : 0 ≤ a ∧ a < b ∧ b ≤ (l.length : Int)
    · rw [if_pos h2]
      by_cases h3 : legal l a.toNat b.toNat w = true
      · rw [if_pos h3]
        exact lineD_bound h1.1 (by omega) (by omega) h1.2.1 h1.2.2
      · rw [if_neg h3]; simp
    · rw [if_neg h2]; simp
  · rw [if_neg h1]; simp
theorem lin_bd (l : List S) (w ind : Int) (i j : Nat) : -10000 ≤ (lin l w ind i j).1 ∧ (lin l w ind i j).1 ≤ 700040000 := lineS_bd _ _ _ _
theorem lin_one {l : List S} {w ind : Int} (h : fits l w ind = true) {i : Nat} (hi : i < l.length) : (lin l w ind i (i + 1)).2 = true := by
  obtain ⟨hv, h1, h2, h3, h4⟩ := fits_iff.1 h
  have key : ∀ v : Int, 1 ≤ v → v ≤ 10000000 → ((lineS l (i : Int) ((i + 1 : Nat) : Int) v).2 == 0) = true := by
    intro v g1 g2
    unfold lineS
    rw [if_pos ⟨hv, g1, g2⟩, if_pos (by omega), if_pos (by simp only [legal, decide_eq_true_eq]; omega)]
    rfl
  unfold lin
  simp only
  split
  · rw [wrap_id (by omega) (by omega)]
    exact key _ (by omega) (by omega)
  · exact key _ h1 h2

theorem fold_true {o : List Int} {m : Nat} (hm : m < o.length) : ∀ (ys : List (Int × Int)) (v : Int), (∀ y ∈ ys, ∃ j : Nat, y.1 = (j : Int) ∧ m < j ∧ wrap64 (y.2 + rd o y.1) = y.2 + rd o y.1) →
    ∃ v', ys.foldl (certificate_Make.s (m : Int)) (o.set m v, true) = (o.set m v', true) ∧ v' ≤ v ∧ (∀ y ∈ ys, v' ≤ y.2 + rd o y.1) ∧ (v' = v ∨ ∃ y ∈ ys, v' = y.2 + rd o y.1)
  | [], v, _ => ⟨v, rfl, Int.le_refl _, (fun y hy => by cases hy), Or.inl rfl⟩
  | y :: ys, v, h => by
    obtain ⟨j, e, hj, hwr⟩ := h y List.mem_cons_self
    have h' := fun z hz => h z (List.mem_cons_of_mem _ hz)
    have st : certificate_Make.s (m : Int) (o.set m v, true) y = (o.set m (if y.2 + rd o y.1 < v then y.2 + rd o y.1 else v), true) := by
      unfold certificate_Make.s
      simp only
      rw [rd_set_self hm, e, rd_set_ne (by omega), ← e, hwr, Int.toNat_natCast, List.set_set]
      by_cases c : y.2 + rd o y.1 < v
      · rw [if_pos (Or.inr c), if_pos c]
      · rw [if_neg (show ¬ (true = false ∨ y.2 + rd o y.1 < v) from fun h => h.elim (fun h => by simp at h) c), if_neg c]
    rw [List.foldl_cons, st]
    obtain ⟨v', g1, g2, g3, g4⟩ := fold_true hm ys (if y.2 + rd o y.1 < v then y.2 + rd o y.1 else v) h'
    refine ⟨v', g1, ?_, ?_, ?_⟩
    · split at g2 <;> omega
    · intro z hz
      cases hz with
      | head => split at g2 <;> omega
      | tail _ hz => exact g3 z hz
    · rcases g4 with g4 | ⟨z, hz, g4⟩
      · by_cases c : y.2 + rd o y.1 < v
        · rw [if_pos c] at g4
          exact Or.inr ⟨y, List.mem_cons_self, g4⟩
        · rw [if_neg c] at g4
          exact Or.inl g4
      · exact Or.inr ⟨z, List.mem_cons_of_mem _ hz, g4⟩
theorem fold_false {o : List Int} {m : Nat} (hm : m < o.length) (ys : List (Int × Int)) (hne : ys ≠ []) (h : ∀ y ∈ ys, ∃ j : Nat, y.1 = (j : Int) ∧ m < j ∧ wrap64 (y.2 + rd o y.1) = y.2 + rd o y.1) :
    ∃ v', ys.foldl (certificate_Make.s (m : Int)) (o, false) = (o.set m v', true) ∧ (∀ y ∈ ys, v' ≤ y.2 + rd o y.1) ∧ (∃ y ∈ ys, v' = y.2 + rd o y.1) := by
  cases ys with
  | nil => exact absurd rfl hne
  | cons y ys =>
    obtain ⟨j, e, hj, hwr⟩ := h y List.mem_cons_self
    have h' := fun z hz => h z (List.mem_cons_of_mem _ hz)
    have st : certificate_Make.s (m : Int) (o, false) y = (o.set m (y.2 + rd o y.1), true) := by
      unfold certificate_Make.s
      rw [if_pos (Or.inl rfl)]
      simp only
      rw [hwr, Int.toNat_natCast]
    rw [List.foldl_cons, st]
    obtain ⟨v', g1, g2, g3, g4⟩ := fold_true hm ys (y.2 + rd o y.1) h'
    refine ⟨v', g1, ?_, ?_⟩
    · intro z hz
      cases hz with
      | head => exact g2
      | tail _ hz => exact g3 z hz
    · rcases g4 with g4 | ⟨z, hz, g4⟩
      · exact ⟨y, List.mem_cons_self, g4⟩
      · exact ⟨z, List.mem_cons_of_mem _ hz, g4⟩

/-- From m on these are the least potentials. -/
def Opt (l : List S) (w ind : Int) (m : Nat) (o : List Int) : Prop := o.length = l.length + 1 ∧ rd o (l.length : Int) = 0 ∧
  (∀ i : Nat, m ≤ i → i < l.length → (∀ j : Nat, i < j → j ≤ l.length → (lin l w ind i j).2 = true → rd o (i : Int) ≤ (lin l w ind i j).1 + rd o (j : Int)) ∧ ∃ j : Nat, i < j ∧ j ≤ l.length ∧ (lin l w ind i j).2 = true ∧ rd o (i : Int) = (lin l w ind i j).1 + rd o (j : Int)) ∧
  (∀ i : Nat, m ≤ i → i ≤ l.length → -10000 * ((l.length - i : Nat) : Int) ≤ rd o (i : Int) ∧ rd o (i : Int) ≤ 700040000 * ((l.length - i : Nat) : Int))
theorem opt_step {l : List S} {w ind : Int} (hf : fits l w ind = true) {m : Nat} (hm : m < l.length) {o : List Int} (h : Opt l w ind (m + 1) o) : Opt l w ind m ((row l w ind m (m + 1) (l.length - m)).foldl (certificate_Make.s (m : Int)) (o, false)).1 := by
  obtain ⟨hl, h0, h1, h2⟩ := h
  have hn := vp_len (fits_iff.1 hf).1
  have hy : ∀ y ∈ row l w ind m (m + 1) (l.length - m), ∃ j : Nat, y.1 = (j : Int) ∧ m < j ∧ wrap64 (y.2 + rd o y.1) = y.2 + rd o y.1 := by
    intro y hy
    obtain ⟨t, ht, hg, rfl⟩ := mem_row.1 hy
    have hb := lin_bd l w ind m t
    have := h2 t (by omega) (by omega)
    exact ⟨t, rfl, by omega, wrap_id (by simp only; omega) (by simp only; omega)⟩
  have hne : row l w ind m (m + 1) (l.length - m) ≠ [] := by
    intro e
    have : (((m + 1 : Nat) : Int), (lin l w ind m (m + 1)).1) ∈ row l w ind m (m + 1) (l.length - m) := mem_row.2 ⟨m + 1, by omega, lin_one hf hm, rfl⟩
    rw [e] at this
    cases this
  obtain ⟨v, g1, g2, g3⟩ := fold_false (by omega) _ hne hy
  rw [g1]
  simp only
  have self : rd (o.set m v) (m : Int) = v := rd_set_self (by omega) v
  have oth : ∀ t : Nat, m < t → rd (o.set m v) (t : Int) = rd o (t : Int) := fun t ht => rd_set_ne (by omega) v
  obtain ⟨y, hy1, hy2⟩ := g3
  obtain ⟨t, ht, hg, rfl⟩ := mem_row.1 hy1
  simp only at hy2
  refine ⟨by rw [List.length_set]; exact hl, by rw [oth _ hm]; exact h0, ?_, ?_⟩
  · intro i hi1 hi2
    by_cases e : i = m
    · subst e
      rw [self]
      refine ⟨fun j hj1 hj2 hj3 => ?_, t, by omega, by omega, hg, ?_⟩
      · rw [oth j hj1]
        exact g2 _ (mem_row.2 ⟨j, by omega, hj3, rfl⟩)
      · rw [oth t (by omega)]
        exact hy2
    · obtain ⟨k1, j, k2, k3, k4, k5⟩ := h1 i (by omega) hi2
      rw [oth i (by omega)]
      refine ⟨fun j hj1 hj2 hj3 => ?_, j, k2, k3, k4, ?_⟩
      · rw [oth j (by omega)]
        exact k1 j hj1 hj2 hj3
      · rw [oth j (by omega)]
        exact k5
  · intro i hi1 hi2
    by_cases e : i = m
    · subst e
      rw [self]
      have hb := lin_bd l w ind i t
      have := h2 t (by omega) (by omega)
      omega
    · rw [oth i (by omega)]
      exact h2 i (by omega) hi2
theorem mk_opt {l : List S} {w ind : Int} (hf : fits l w ind = true) : ∀ (m : Nat) (o : List Int), m ≤ l.length → Opt l w ind m o → Opt l w ind 0 (mk l w ind m o)
  | 0, _, _, h => h
  | m + 1, o, hm, h => by
    simp only [mk]
    exact mk_opt hf m _ (by omega) (opt_step hf (by omega) h)
theorem makeS_opt {l : List S} {w ind : Int} (hf : fits l w ind = true) : Opt l w ind 0 (makeS l w ind).1 := by
  unfold makeS
  rw [if_pos hf]
  refine mk_opt hf _ _ (Nat.le_refl _) ⟨List.length_replicate, ?_, fun i h1 h2 => absurd h2 (by omega), fun i h1 h2 => ?_⟩
  · rw [rd_int (by rw [List.length_replicate]; omega), List.getElem_replicate]
  · obtain rfl : i = l.length := by omega
    rw [rd_int (by rw [List.length_replicate]; omega), List.getElem_replicate]
    simp

theorem sound_facts {l : List S} {w ind : Int} {ps : List Int} (h : soundS l w ind ps = true) : fits l w ind = true ∧ ps.length = l.length + 1 ∧ rd ps (l.length : Int) = 0 ∧
    (∀ i : Nat, i ≤ l.length → -1099511627776 ≤ rd ps (i : Int) ∧ rd ps (i : Int) ≤ 1099511627776) ∧
    (∀ i j : Nat, i < j → j ≤ l.length → (lin l w ind i j).2 = true → rd ps (i : Int) ≤ (lin l w ind i j).1 + rd ps (j : Int)) := by
  unfold soundS at h
  simp only [Bool.and_eq_true, decide_eq_true_eq] at h
  obtain ⟨h1, h2, h3, h4, h5⟩ := h
  have hb : ∀ i : Nat, i ≤ l.length → -1099511627776 ≤ rd ps (i : Int) ∧ rd ps (i : Int) ≤ 1099511627776 := by
    intro i hi
    rw [rd_int (by omega)]
    have := List.all_eq_true.1 h4 _ (List.getElem_mem (l := ps) (n := i) (by omega))
    exact bound_r_true this
  refine ⟨h1, h2, h3, hb, fun i j hij hj hg => ?_⟩
  have h6 := List.all_eq_true.1 h5 i (List.mem_range'_1.2 ⟨by omega, by omega⟩)
  have h7 : ¬ (row l w ind i (i + 1) (l.length - i)).any (certificate_Bound.v ps (i : Int)) = true := by
    intro e
    rw [e] at h6
    simp at h6
  have h8 : ¬ certificate_Bound.v ps (i : Int) ((j : Int), (lin l w ind i j).1) = true := fun e => h7 (List.any_eq_true.2 ⟨_, mem_row.2 ⟨j, by omega, hg, rfl⟩, e⟩)
  have h9 : ¬ (rd ps (i : Int) > wrap64 ((lin l w ind i j).1 + rd ps (j : Int))) := fun e => h8 (decide_eq_true e)
  have hc := lin_bd l w ind i j
  have hd := hb j hj
  rw [wrap_id (by omega) (by omega)] at h9
  omega
theorem opt_sound {l : List S} {w ind : Int} (hf : fits l w ind = true) {o : List Int} (h : Opt l w ind 0 o) : soundS l w ind o = true := by
  obtain ⟨h1, h2, h3, h4⟩ := h
  have hn := vp_len (fits_iff.1 hf).1
  unfold soundS
  simp only [Bool.and_eq_true, decide_eq_true_eq]
  refine ⟨hf, h1, h2, List.all_eq_true.2 fun x hx => ?_, List.all_eq_true.2 fun i hi => ?_⟩
  · obtain ⟨i, hi, rfl⟩ := List.getElem_of_mem hx
    have := h4 i (by omega) (by omega)
    rw [rd_int hi] at this
    exact decide_eq_true (by omega)
  · have hi' := List.mem_range'_1.1 hi
    rw [Bool.not_eq_true', ← Bool.not_eq_true]
    intro e
    obtain ⟨y, hy, hv⟩ := List.any_eq_true.1 e
    obtain ⟨t, ht, hg, rfl⟩ := mem_row.1 hy
    have hb := lin_bd l w ind i t
    have hc := h4 t (by omega) (by omega)
    have hd := (h3 i (by omega) (by omega)).1 t (by omega) (by omega) hg
    have hv' : rd o (i : Int) > wrap64 ((lin l w ind i t).1 + rd o (t : Int)) := of_decide_eq_true hv
    rw [wrap_id (by omega) (by omega)] at hv'
    omega
theorem greatest {l : List S} {w ind : Int} {ps o : List Int} (hs : soundS l w ind ps = true) (ho : Opt l w ind 0 o) : ∀ (d i : Nat), l.length - i = d → i ≤ l.length → rd ps (i : Int) ≤ rd o (i : Int) := by
  obtain ⟨_, _, h3, _, h5⟩ := sound_facts hs
  obtain ⟨_, g2, g3, _⟩ := ho
  intro d
  induction d using Nat.strongRecOn with
  | ind d ih =>
    intro i hd hi
    by_cases e : i = l.length
    · subst e
      omega
    · obtain ⟨_, j, k1, k2, k3, k4⟩ := g3 i (by omega) (by omega)
      have := h5 i j k1 k2 k3
      have := ih (l.length - j) (by omega) j rfl k2
      omega
end Go.Proofs.Ytgickognjlapmaa.M46
