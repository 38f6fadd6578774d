/- Layer 45: table's rows, Lines and Fewest. Lemmas only. -/
import Derived.Test.YtgickognjlapmaaL45
namespace Go.Proofs.Ytgickognjlapmaa.M46
open Go.RowKit Go.Proofs.Ytgickognjlapmaa.PR Go.Proofs.Ytgickognjlapmaa.D44 Go.Proofs.YtgickognjlapmaaW.PrintWords Go.Proofs.YtgickognjlapmaaW.PrintLast Go.Proofs.YtgickognjlapmaaW.PrintMore
set_option linter.unusedVariables false
set_option linter.unusedSimpArgs false

/-- One end, at one place of a row. -/
def cellS (prev : List EndV) (e : EndV) (x : Int × Int) : EndV := if (re prev x.1).2.2 = true ∧ (e.2.2 = false ∨ wrap64 (x.2 + (re prev x.1).1) < e.1) then (wrap64 (x.2 + (re prev x.1).1), x.1, true) else e
theorem set_re_self (s : List EndV) (i : Nat) : s.set i (re s (i : Int)) = s := by
  apply List.ext_getElem?
  intro j
  rw [List.getElem?_set]
  split
  · rename_i e
    subst e
    split
    · rename_i h
      simp [re, h]
    · rename_i h
      rw [List.getElem?_eq_none (by omega)]
  · rfl
theorem tfold_cell (prev : List EndV) (i : Nat) : ∀ (ys : List (Int × Int)) (s : List EndV), i < s.length → ys.foldl (breaker_table.s prev (i : Int)) s = s.set i (ys.foldl (cellS prev) (re s (i : Int)))
  | [], s, h => by
    rw [List.foldl_nil, List.foldl_nil, set_re_self]
  | y :: ys, s, h => by
    rw [List.foldl_cons, List.foldl_cons]
    have hl : (breaker_table.s prev (i : Int) s y).length = s.length := by unfold breaker_table.s; split <;> simp
    rw [tfold_cell prev i ys _ (by rw [hl]; exact h)]
    have e : breaker_table.s prev (i : Int) s y = s.set i (cellS prev (re s (i : Int)) y) := by
      unfold breaker_table.s cellS
      split
      · rw [Int.toNat_natCast]
      · rw [set_re_self]
    rw [e, re_self h, List.set_set]
/-- The row's middle loop. -/
def tk (l : List S) (w ind : Int) (prev : List EndV) : Nat → Nat → List EndV → List EndV
  | 0, _, s => s
  | m + 1, i, s => tk l w ind prev m (i + 1) ((lrow l w ind i (l.length - i)).foldl (breaker_table.s prev (i : Int)) s)
theorem table_i_eq {l : List S} (hn : l.length ≤ 1000) (hw : ∀ p ∈ l, WfP p) (w ind : Int) (prev : List EndV) {k : Nat} (hk : l.length + 2 < k) : ∀ m i s, breaker_table.i k l w ind prev m i s = some (tk l w ind prev m i s)
  | 0, _, _ => rfl
  | m + 1, i, s => by
    simp only [breaker_table.i]
    rw [show (if (i : Int) > 0 then wrap64 (w - ind) else w) = wid w ind i from rfl, lines_f hn hw w ind i hk, Option.bind_some, table_i_eq hn hw w ind prev hk m]
    rfl
/-- A row, by the one before it. -/
def trow (l : List S) (w ind : Int) : Nat → List EndV
  | 0 => (List.replicate (l.length + 1) ((0, 0, false) : EndV)).set l.length (0, 0, true)
  | c + 1 => tk l w ind (trow l w ind c) l.length 0 (List.replicate (l.length + 1) ((0, 0, false) : EndV))
theorem table_row_eq {l : List S} (hn : l.length ≤ 1000) (hw : ∀ p ∈ l, WfP p) (w ind : Int) {k : Nat} (hk : l.length + 2 < k) : ∀ c, breaker_table.row k l w ind c = some (trow l w ind c)
  | 0 => rfl
  | c + 1 => by
    simp only [breaker_table.row]
    rw [table_row_eq hn hw w ind hk c, Option.bind_some, table_i_eq hn hw w ind _ hk]
    rfl
theorem table_getD_eq {l : List S} (hn : l.length ≤ 1000) (hw : ∀ p ∈ l, WfP p) (w ind : Int) {k : Nat} (hk : l.length + 2 < k) (c : Nat) : (breaker_table.row k l w ind c).getD [] = trow l w ind c := by
  rw [table_row_eq hn hw w ind hk]
  rfl
theorem tk_len (l : List S) (w ind : Int) (prev : List EndV) : ∀ m i s, i + m ≤ s.length → (tk l w ind prev m i s).length = s.length
  | 0, _, _, _ => rfl
  | m + 1, i, s, h => by
    rw [tk, tfold_cell prev i _ s (by omega), tk_len l w ind prev m (i + 1) _ (by rw [List.length_set]; omega), List.length_set]
theorem tk_re (l : List S) (w ind : Int) (prev : List EndV) : ∀ m i s, i + m ≤ s.length → ∀ j : Nat, re (tk l w ind prev m i s) (j : Int) = if i ≤ j ∧ j < i + m then (lrow l w ind j (l.length - j)).foldl (cellS prev) (re s (j : Int)) else re s (j : Int)
  | 0, i, s, _, j => by
    rw [if_neg (by omega)]
    rfl
  | m + 1, i, s, h, j => by
    rw [tk, tfold_cell prev i _ s (by omega), tk_re l w ind prev m (i + 1) _ (by rw [List.length_set]; omega) j]
    by_cases e : i = j
    · subst e
      rw [if_neg (by omega), if_pos (by omega), re_self (by omega)]
    · rw [re_ne e]
      by_cases c : i ≤ j ∧ j < i + (m + 1)
      · rw [if_pos c, if_pos (by omega)]
      · rw [if_neg c, if_neg (by omega)]
theorem trow_len (l : List S) (w ind : Int) : ∀ c, (trow l w ind c).length = l.length + 1
  | 0 => by simp [trow]
  | c + 1 => by
    rw [trow, tk_len _ _ _ _ _ _ _ (by simp), List.length_replicate]
theorem re_blank (n : Nat) (i : Nat) : re (List.replicate n ((0, 0, false) : EndV)) (i : Int) = (0, 0, false) := by
  simp [re, List.getElem?_replicate]
  split <;> rfl
theorem trow_succ (l : List S) (w ind : Int) (c i : Nat) : re (trow l w ind (c + 1)) (i : Int) = if i < l.length then (lrow l w ind i (l.length - i)).foldl (cellS (trow l w ind c)) (0, 0, false) else (0, 0, false) := by
  rw [trow, tk_re _ _ _ _ _ _ _ (by simp), re_blank]
  by_cases h : i < l.length
  · rw [if_pos (by omega), if_pos h]
  · rw [if_neg (by omega), if_neg h]
/-- A fold keeps the first of the least ends. -/
theorem cell_fold (prev : List EndV) : ∀ (ys : List (Int × Int)) (e : EndV), (∀ y ∈ ys, (re prev y.1).2.2 = true → wrap64 (y.2 + (re prev y.1).1) = y.2 + (re prev y.1).1) →
    (ys.foldl (cellS prev) e = e ∧ ∀ y ∈ ys, (re prev y.1).2.2 = true → e.2.2 = true ∧ e.1 ≤ y.2 + (re prev y.1).1) ∨
    (∃ pre y post, ys = pre ++ y :: post ∧ (re prev y.1).2.2 = true ∧ ys.foldl (cellS prev) e = (y.2 + (re prev y.1).1, y.1, true) ∧ (e.2.2 = true → y.2 + (re prev y.1).1 < e.1) ∧
      (∀ z ∈ pre, (re prev z.1).2.2 = true → y.2 + (re prev y.1).1 < z.2 + (re prev z.1).1) ∧ (∀ z ∈ post, (re prev z.1).2.2 = true → y.2 + (re prev y.1).1 ≤ z.2 + (re prev z.1).1))
  | [], e, _ => Or.inl ⟨rfl, fun y hy => by cases hy⟩
  | y :: ys, e, h => by
    have h' := fun z hz => h z (List.mem_cons_of_mem _ hz)
    rw [List.foldl_cons]
    by_cases c : (re prev y.1).2.2 = true ∧ (e.2.2 = false ∨ wrap64 (y.2 + (re prev y.1).1) < e.1)
    · have hy := h y List.mem_cons_self c.1
      have st : cellS prev e y = (y.2 + (re prev y.1).1, y.1, true) := by unfold cellS; rw [if_pos c, hy]
      rw [hy] at c
      rw [st]
      have he : e.2.2 = true → y.2 + (re prev y.1).1 < e.1 := fun h => c.2.resolve_left (by rw [h]; simp)
      rcases cell_fold prev ys (y.2 + (re prev y.1).1, y.1, true) h' with ⟨g1, g2⟩ | ⟨pre, z, post, g1, g2, g3, g4, g5, g6⟩
      · exact Or.inr ⟨[], y, ys, rfl, c.1, g1, he, (fun z hz => by cases hz), fun z hz hz2 => (g2 z hz hz2).2⟩
      · have g4' := g4 rfl
        simp only at g4'
        refine Or.inr ⟨y :: pre, z, post, by rw [g1]; rfl, g2, g3, fun h => by have := he h; omega, fun x hx hx2 => ?_, g6⟩
        cases hx with
        | head => exact g4'
        | tail _ hx => exact g5 x hx hx2
    · have st : cellS prev e y = e := by unfold cellS; rw [if_neg c]
      rw [st]
      have hno : (re prev y.1).2.2 = true → e.2.2 = true ∧ e.1 ≤ y.2 + (re prev y.1).1 := fun hf => by
        have hy := h y List.mem_cons_self hf
        rw [hy] at c
        cases he : e.2.2 with
        | false => exact absurd ⟨hf, Or.inl he⟩ c
        | true =>
          refine ⟨rfl, ?_⟩
          by_cases q : y.2 + (re prev y.1).1 < e.1
          · exact absurd ⟨hf, Or.inr q⟩ c
          · omega
      rcases cell_fold prev ys e h' with ⟨g1, g2⟩ | ⟨pre, z, post, g1, g2, g3, g4, g5, g6⟩
      · refine Or.inl ⟨g1, fun x hx hx2 => ?_⟩
        cases hx with
        | head => exact hno hx2
        | tail _ hx => exact g2 x hx hx2
      · refine Or.inr ⟨y :: pre, z, post, by rw [g1]; rfl, g2, g3, g4, fun x hx hx2 => ?_, g6⟩
        cases hx with
        | head =>
          have := hno hx2
          have := g4 this.1
          omega
        | tail _ hx => exact g5 x hx hx2
/-- The starts that rows of ends lead to. -/
def pathR (rows : Nat → List EndV) : Nat → Nat → List Int
  | 0, _ => []
  | c + 1, i => (i : Int) :: pathR rows c (re (rows (c + 1)) (i : Int)).2.1.toNat
/-- What a row tells. -/
structure RowAt (l : List S) (w ind : Int) (c i : Nat) : Prop where
  yes : (re (trow l w ind c) (i : Int)).2.2 = true → BestOf l w ind i (fun s => s.length = c) (pathR (trow l w ind) c i) (re (trow l w ind c) (i : Int)).1 ∧
    -10000 * ((l.length - i : Nat) : Int) ≤ (re (trow l w ind c) (i : Int)).1 ∧ (re (trow l w ind c) (i : Int)).1 ≤ 700040000 * ((l.length - i : Nat) : Int)
  no : (re (trow l w ind c) (i : Int)).2.2 = false → ∀ s, Fr l i s → s.length = c → tS l w ind s = none
  next : ∀ c', c = c' + 1 → (re (trow l w ind c) (i : Int)).2.2 = true → i < l.length ∧ ∃ j : Nat, (re (trow l w ind c) (i : Int)).2.1 = (j : Int) ∧ i < j ∧ j ≤ l.length ∧ (re (trow l w ind c') (j : Int)).2.2 = true
theorem row_zero_at (l : List S) (w ind : Int) (i : Nat) : re (trow l w ind 0) (i : Int) = if i = l.length then (0, 0, true) else (0, 0, false) := by
  rw [trow]
  by_cases e : l.length = i
  · subst e
    rw [re_self (by simp), if_pos rfl]
  · rw [re_ne e, re_blank, if_neg (Ne.symm e)]
theorem row_at {l : List S} {w ind : Int} (hf : fits l w ind = true) : ∀ c i, i ≤ l.length → RowAt l w ind c i
  | 0, i, hi => by
    have h0 := row_zero_at l w ind i
    constructor
    · intro h
      rw [h0] at h ⊢
      by_cases e : i = l.length
      · subst e
        rw [if_pos rfl]
        refine ⟨⟨fr_nil l, rfl, rfl, fun s' t' g1 _ g2 => ?_⟩, by simp, by simp⟩
        rw [fr_n g1] at g2 ⊢
        exact Or.inr ⟨Option.some.inj g2, Or.inl rfl⟩
      · rw [if_neg e] at h
        cases h
    · intro h s hs hl
      rw [h0] at h
      by_cases e : i = l.length
      · rw [if_pos e] at h
        cases h
      · obtain rfl := List.eq_nil_of_length_eq_zero hl
        have : (l.length : Int) = (i : Int) := hs.2
        omega
    · intro c' hc
      omega
  | c + 1, i, hi => by
    have hn := vp_len (fits_iff.1 hf).1
    have ih := fun j hj => row_at hf c j hj
    have h0 := trow_succ l w ind c i
    by_cases hlt : i < l.length
    · rw [if_pos hlt] at h0
      have hwr : ∀ y ∈ lrow l w ind i (l.length - i), (re (trow l w ind c) y.1).2.2 = true → wrap64 (y.2 + (re (trow l w ind c) y.1).1) = y.2 + (re (trow l w ind c) y.1).1 := by
        intro y hy hfd
        obtain ⟨t, ht, hg, rfl⟩ := (mem_lrow hlt).1 hy
        have hb := lin_bd l w ind i t
        have := ((ih t (by omega)).yes hfd).2
        simp only at this ⊢
        exact wrap_id (by omega) (by omega)
      have hsort := lrow_sorted l w ind i hlt
      rcases cell_fold (trow l w ind c) (lrow l w ind i (l.length - i)) (0, 0, false) hwr with ⟨g1, g2⟩ | ⟨pre, y, post, g1, g2, g3, _, g5, g6⟩
      · rw [g1] at h0
        constructor
        · intro h
          rw [h0] at h
          cases h
        · intro _ s hs hl
          rcases fr_inv hs hi with ⟨e, _⟩ | ⟨_, j, r, rfl, k1, k2, k3⟩
          · omega
          · cases hT : tS l w ind ((i : Int) :: r) with
            | none => rfl
            | some t =>
              exfalso
              obtain ⟨q1, t', q2, _⟩ := tS_some k3 hT
              have hm := (mem_lrow hlt).2 ⟨j, ⟨k1, k2⟩, q1, rfl⟩
              cases hfd : (re (trow l w ind c) (j : Int)).2.2 with
              | true => exact absurd (g2 _ hm hfd).1 (by simp)
              | false =>
                have := (ih j k2).no hfd r k3 (by rw [List.length_cons] at hl; omega)
                rw [q2] at this
                cases this
        · intro c' _ h
          rw [h0] at h
          cases h
      · rw [g3] at h0
        have hy : y ∈ lrow l w ind i (l.length - i) := by rw [g1]; exact List.mem_append_right _ List.mem_cons_self
        obtain ⟨j, ⟨j1, j2⟩, j3, rfl⟩ := (mem_lrow hlt).1 hy
        simp only at g2 g3 g5 g6 h0
        obtain ⟨hb, hbd1, hbd2⟩ := (ih j j2).yes g2
        have hlb := lin_bd l w ind i j
        have hpath : pathR (trow l w ind) (c + 1) i = (i : Int) :: pathR (trow l w ind) c j := by
          rw [pathR, h0]
          rfl
        constructor
        · intro _
          rw [hpath, h0]
          refine ⟨⟨fr_cons j1 j2 hb.fr, by rw [List.length_cons]; rw [hb.ok], ?_, fun s' t' q1 q2 q3 => ?_⟩, by simp only; omega, by simp only; omega⟩
          · rw [tS_cons hb.fr, if_pos j3, hb.sum]
            rfl
          · rcases fr_inv q1 hi with ⟨e, _⟩ | ⟨_, j', r', rfl, k1, k2, k3⟩
            · omega
            · obtain ⟨p1, t2, p2, rfl⟩ := tS_some k3 q3
              have hm := (mem_lrow hlt).2 ⟨j', ⟨k1, k2⟩, p1, rfl⟩
              have hrl : r'.length = c := by rw [List.length_cons] at q2; omega
              cases hfd : (re (trow l w ind c) (j' : Int)).2.2 with
              | false =>
                have := (ih j' k2).no hfd r' k3 hrl
                rw [p2] at this
                cases this
              | true =>
                have hb' := ((ih j' k2).yes hfd).1.least r' t2 k3 hrl p2
                have hle : (re (trow l w ind c) (j' : Int)).1 ≤ t2 := by rcases hb' with h | h <;> omega
                rw [g1] at hm
                rcases List.mem_append.1 hm with hm | hm
                · have := g5 _ hm hfd
                  simp only at this
                  exact Or.inl (by simp only; omega)
                · rcases List.mem_cons.1 hm with hm | hm
                  · simp only [Prod.mk.injEq] at hm
                    obtain ⟨e, _⟩ := hm
                    have e' : j' = j := by omega
                    subst e'
                    rcases hb.least r' t2 k3 hrl p2 with h | ⟨h, h2⟩
                    · exact Or.inl (by simp only; omega)
                    · refine Or.inr ⟨by simp only; omega, ?_⟩
                      rcases h2 with h2 | h2
                      · exact Or.inl (by rw [h2])
                      · exact Or.inr (by rw [bef, if_pos rfl]; exact h2)
                  · have hle2 := g6 _ hm hfd
                    simp only at hle2
                    by_cases hs : (lin l w ind i j).1 + (re (trow l w ind c) (j : Int)).1 < (lin l w ind i j').1 + t2
                    · exact Or.inl hs
                    · refine Or.inr ⟨by simp only; omega, Or.inr (bef_cons j2 k2 j1 k1 hb.fr k3 ?_)⟩
                      rw [g1] at hsort
                      have := (List.pairwise_cons.1 (List.pairwise_append.1 hsort).2.1).1 _ hm
                      simpa using this
        · intro h
          rw [h0] at h
          cases h
        · intro c' hc' _
          obtain rfl : c = c' := by omega
          rw [h0]
          exact ⟨hlt, j, rfl, j1, j2, g2⟩
    · rw [if_neg hlt] at h0
      obtain rfl : i = l.length := by omega
      constructor
      · intro h
        rw [h0] at h
        cases h
      · intro _ s hs hl
        rw [fr_n hs] at hl
        simp at hl
      · intro c' _ h
        rw [h0] at h
        cases h
end Go.Proofs.Ytgickognjlapmaa.M46
