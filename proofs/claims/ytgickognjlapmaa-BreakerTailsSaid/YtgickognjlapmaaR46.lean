/- Layer 46: the pieces from some piece on. Lemmas only. -/
import Derived.Test.YtgickognjlapmaaB46
namespace Go.Proofs.Ytgickognjlapmaa.M46
open Go.RowKit Go.Proofs.Ytgickognjlapmaa.PW Go.Proofs.Ytgickognjlapmaa.D44 Go.Proofs.YtgickognjlapmaaW.PrintWords Go.Proofs.YtgickognjlapmaaW.PrintLast Go.Proofs.YtgickognjlapmaaW.PrintMore
set_option linter.unusedVariables false
set_option linter.unusedSimpArgs false

theorem acc_drop (l : List S) (i : Nat) : ∀ y, acc (l.drop i) y = acc l (i + y) - acc l i
  | 0 => by simp [acc]
  | y + 1 => by
    have ih := acc_drop l i y
    rw [← Nat.add_assoc]
    simp only [acc, List.getElem?_drop]
    omega
theorem rd_drop (l : List S) (i x : Nat) : rd_T34 (l.drop i) (x : Int) = rd_T34 l ((i + x : Nat) : Int) := by
  simp [rd_T34, List.getElem?_drop]
  rw [show ((i : Int) + (x : Int)).toNat = i + x by omega]
theorem len_drop' (l : List S) (i x y : Nat) : len44 (l.drop i) x y = len44 l (i + x) (i + y) := by
  unfold len44
  rw [acc_drop, acc_drop, rd_drop]
  omega
theorem vp_drop {l : List S} (h : vp l = true) {i : Nat} (hi : i < l.length) : vp (l.drop i) = true := by
  have hl := vp_len h
  unfold vp at *
  rw [Bool.and_eq_true, List.all_eq_true] at h ⊢
  refine ⟨fun x hx => h.1 x (List.mem_of_mem_drop hx), ?_⟩
  rw [Bool.and_eq_true, decide_eq_true_eq, decide_eq_true_eq, List.length_drop]
  omega
theorem fits_drop {l : List S} {w ind : Int} (h : fits l w ind = true) {i : Nat} (hi : i < l.length) : fits (l.drop i) (w - ind) 0 = true := by
  obtain ⟨hv, h1, h2, h3, h4⟩ := fits_iff.1 h
  exact fits_iff.2 ⟨vp_drop hv hi, by omega, by omega, by omega, by omega⟩
theorem lineS_drop {l : List S} (hv : vp l = true) {v : Int} (h1 : 1 ≤ v) (h2 : v ≤ 10000000) {i x y : Nat} (hi : 0 < i) (hxy : x < y) (hy : i + y ≤ l.length) :
    lineS l ((i + x : Nat) : Int) ((i + y : Nat) : Int) v = if (lineS (l.drop i) (x : Int) (y : Int) v).2 = 0 then ((lineS (l.drop i) (x : Int) (y : Int) v).1 + (if x = 0 then (rd_T34 l (i : Int)).f2 else 0), 0) else lineS (l.drop i) (x : Int) (y : Int) v := by
  have hv' := vp_drop hv (i := i) (by omega)
  have hlen : (l.drop i).length = l.length - i := List.length_drop
  have eL : lineS l ((i + x : Nat) : Int) ((i + y : Nat) : Int) v = if legal l (i + x) (i + y) v = true then (lineD l (i + x) (i + y) v, 0) else (0, 6) := by
    unfold lineS
    rw [if_pos ⟨hv, h1, h2⟩, if_pos (by omega), Int.toNat_natCast, Int.toNat_natCast]
  have eR : lineS (l.drop i) (x : Int) (y : Int) v = if legal (l.drop i) x y v = true then (lineD (l.drop i) x y v, 0) else (0, 6) := by
    unfold lineS
    rw [if_pos ⟨hv', h1, h2⟩, if_pos (by rw [hlen]; omega), Int.toNat_natCast, Int.toNat_natCast]
  rw [eL, eR]
  have hg : legal (l.drop i) x y v = legal l (i + x) (i + y) v := by
    unfold legal
    rw [len_drop']
    rw [Bool.eq_iff_iff, decide_eq_true_eq, decide_eq_true_eq]
    omega
  have hd : lineD l (i + x) (i + y) v = lineD (l.drop i) x y v + (if x = 0 then (rd_T34 l (i : Int)).f2 else 0) := by
    unfold lineD
    rw [len_drop', hlen, if_pos (show 0 < i + x by omega), show decide (i + y = l.length) = decide (y = l.length - i) from by rw [Bool.eq_iff_iff, decide_eq_true_eq, decide_eq_true_eq]; omega]
    by_cases e : x = 0
    · subst e
      rw [if_neg (by omega), if_pos rfl]
      simp
    · rw [if_pos (by omega), if_neg e, rd_drop]
      omega
  rw [hg, hd]
  by_cases c : legal l (i + x) (i + y) v = true
  · rw [if_pos c, if_pos c, if_pos rfl]
  · rw [if_neg c, if_neg c, if_neg (by simp)]
/-- A line of the pieces from i on. -/
theorem lin_drop {l : List S} {w ind : Int} (hf : fits l w ind = true) {i x y : Nat} (hi : 0 < i) (hxy : x < y) (hy : i + y ≤ l.length) :
    (lin l w ind (i + x) (i + y)).2 = (lin (l.drop i) (w - ind) 0 x y).2 ∧ ((lin l w ind (i + x) (i + y)).2 = true → (lin l w ind (i + x) (i + y)).1 = (lin (l.drop i) (w - ind) 0 x y).1 + (if x = 0 then (rd_T34 l (i : Int)).f2 else 0)) := by
  obtain ⟨hv, h1, h2, h3, h4⟩ := fits_iff.1 hf
  have e1 : wrap64 (w - ind) = w - ind := wrap_id (by omega) (by omega)
  have e2 : (if 0 < x then wrap64 (w - ind - 0) else w - ind) = w - ind := by
    rw [Int.sub_zero, e1]
    split <;> rfl
  unfold lin
  rw [if_pos (show 0 < i + x by omega), e1, e2]
  simp only
  rw [lineS_drop hv (by omega) (by omega) hi hxy hy]
  by_cases c : (lineS (l.drop i) (x : Int) (y : Int) (w - ind)).2 = 0
  · rw [if_pos c]
    refine ⟨?_, fun _ => rfl⟩
    rw [c]
  · rw [if_neg c]
    exact ⟨rfl, fun h => absurd (beq_iff_eq.1 h) c⟩
/-- The least potentials of the pieces from i on are those of all pieces, the penalty of the first one taken off. -/
theorem opt_drop_all {l : List S} {w ind : Int} (hf : fits l w ind = true) {o o' : List Int} (ho : Opt l w ind 0 o) {i : Nat} (hi : 0 < i) (hi2 : i < l.length) (ho' : Opt (l.drop i) (w - ind) 0 0 o') (x : Nat) (hx : x ≤ l.length - i) :
    rd o ((i + x : Nat) : Int) - (if x = 0 then (rd_T34 l (i : Int)).f2 else 0) = rd o' (x : Int) := by
  have hlen : (l.drop i).length = l.length - i := List.length_drop
  obtain ⟨_, g2, g3, _⟩ := ho
  exact opt_unique ho' (fun j => rd o ((i + j : Nat) : Int) - (if j = 0 then (rd_T34 l (i : Int)).f2 else 0)) (by
      show rd o ((i + (l.drop i).length : Nat) : Int) - _ = 0
      rw [hlen, if_neg (by omega), show i + (l.length - i) = l.length by omega, g2]
      rfl) (fun x hx => by
      obtain ⟨a1, j, a2, a3, a4, a5⟩ := g3 (i + x) (by omega) (by omega)
      refine ⟨fun y hy1 hy2 hy3 => ?_, j - i, by omega, by omega, ?_, ?_⟩
      · obtain ⟨d1, d2⟩ := lin_drop hf hi hy1 (show i + y ≤ l.length by omega)
        have := a1 (i + y) (by omega) (by omega) (by rw [d1]; exact hy3)
        have d2' := d2 (by rw [d1]; exact hy3)
        try dsimp only
        rw [if_neg (show ¬ y = 0 by omega)]
        omega
      · obtain ⟨d1, d2⟩ := lin_drop hf hi (show x < j - i by omega) (show i + (j - i) ≤ l.length by omega)
        rw [← d1, show i + (j - i) = j by omega]
        exact a4
      · obtain ⟨d1, d2⟩ := lin_drop hf hi (show x < j - i by omega) (show i + (j - i) ≤ l.length by omega)
        rw [show i + (j - i) = j by omega] at d1 d2
        have d2' := d2 a4
        try dsimp only
        rw [if_neg (show ¬ j - i = 0 by omega), show i + (j - i) = j by omega]
        omega) _ x rfl (by omega)
theorem opt_drop {l : List S} {w ind : Int} (hf : fits l w ind = true) {o o' : List Int} (ho : Opt l w ind 0 o) {i : Nat} (hi : 0 < i) (hi2 : i < l.length) (ho' : Opt (l.drop i) (w - ind) 0 0 o') :
    rd o (i : Int) = rd o' 0 + (rd_T34 l (i : Int)).f2 := by
  have := opt_drop_all hf ho hi hi2 ho' 0 (by omega)
  rw [if_pos rfl, Nat.add_zero, show ((0 : Nat) : Int) = 0 from rfl] at this
  omega
end Go.Proofs.Ytgickognjlapmaa.M46
