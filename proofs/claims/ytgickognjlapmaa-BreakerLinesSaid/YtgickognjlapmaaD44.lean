/- The plain law of layer 44's functions, as they are printed: what each comes to, in numbers and lists alone. Lemmas only. -/
import Derived.Test.YtgickognjlapmaaPRx5
namespace Go.Proofs.Ytgickognjlapmaa.D44
open Go.RowKit Go.Proofs.Ytgickognjlapmaa.PR Go.Proofs.YtgickognjlapmaaW.PrintWords Go.Proofs.YtgickognjlapmaaW.PrintLast Go.Proofs.YtgickognjlapmaaW.PrintMore
set_option linter.unusedVariables false
set_option linter.unusedSimpArgs false

abbrev S := S34
theorem wf64 {x : Int} : (Lit.int .i64 x).wf = true ↔ -9223372036854775808 ≤ x ∧ x ≤ 9223372036854775807 := by
  simp [Lit.wf, IntKind.min, IntKind.max, IntKind.signed, IntKind.bits]
def WfP (p : S) : Prop := ((Lit.int .i64 p.f0).wf = true) ∧ ((Lit.int .i64 p.f1).wf = true) ∧ ((Lit.int .i64 p.f2).wf = true)
def okP (p : S) : Bool := decide (0 ≤ p.f0 ∧ p.f0 ≤ 10000000 ∧ -20000 ≤ p.f1 ∧ p.f1 ≤ 20000 ∧ -10000 ≤ p.f2 ∧ p.f2 ≤ 10000)
/-- Pieces are valid. -/
def vp (l : List S) : Bool := l.all okP && (decide (1 ≤ l.length) && decide (l.length ≤ 64))
theorem rd_nat {l : List S} {i : Nat} (h : i < l.length) : rd_T34 l (i : Int) = l[i] := by
  simp [rd_T34, h]
theorem rd_int {l : List Int} {i : Nat} (h : i < l.length) : rd l (i : Int) = l[i] := by
  simp [rd, h]
theorem wrap_id {x : Int} (h1 : -9223372036854775808 ≤ x) (h2 : x ≤ 9223372036854775807) : wrap64 x = x := by unfold wrap64; omega
theorem len_succ {i : Nat} {n : Nat} (h : i < n) (hn : n ≤ 9223372036854775807) : wrap64 ((i : Int) + 1) = ((i + 1 : Nat) : Int) := by unfold wrap64; omega

theorem step_ok (p : S) (X : Option Bool) (h : WfP p) :
    (if p.f0 < 0 then some false else if p.f0 > 10000000 then some false else if mx p.f1 (wrap64 (-p.f1)) > 20000 then some false else if mx p.f2 (wrap64 (-p.f2)) > 10000 then some false else if mn p.f1 p.f2 < -20000 then some false else X) = if okP p = true then X else some false := by
  obtain ⟨h0, h1, h2⟩ := h
  rw [wf64] at h0 h1 h2
  by_cases hp : okP p = true
  · rw [if_pos hp]
    simp only [okP, decide_eq_true_eq] at hp
    unfold mx mn wrap64
    rw [if_neg (by omega), if_neg (by omega), if_neg (by split <;> omega), if_neg (by split <;> omega), if_neg (by split <;> omega)]
  · rw [if_neg hp]
    simp only [okP, decide_eq_true_eq] at hp
    unfold mx mn wrap64
    by_cases c1 : p.f0 < 0
    · rw [if_pos c1]
    rw [if_neg c1]
    by_cases c2 : p.f0 > 10000000
    · rw [if_pos c2]
    rw [if_neg c2]
    by_cases c3 : (if p.f1 < (-p.f1 + 9223372036854775808) % 18446744073709551616 - 9223372036854775808 then (-p.f1 + 9223372036854775808) % 18446744073709551616 - 9223372036854775808 else p.f1) > 20000
    · rw [if_pos c3]
    rw [if_neg c3]
    by_cases c4 : (if p.f2 < (-p.f2 + 9223372036854775808) % 18446744073709551616 - 9223372036854775808 then (-p.f2 + 9223372036854775808) % 18446744073709551616 - 9223372036854775808 else p.f2) > 10000
    · rw [if_pos c4]
    rw [if_neg c4]
    refine if_pos ?_
    split at c3 <;> split at c4 <;> split <;> omega

theorem drop_cons {l : List S} {i : Nat} (h : i < l.length) : l.drop i = l[i] :: l.drop (i + 1) := List.drop_eq_getElem_cons h

theorem demValid_loop (l : List S) (hn : l.length ≤ 4611686018427387904) (hw : ∀ p ∈ l, WfP p) (d : Nat) : ∀ (k i : Nat), i ≤ l.length → l.length - i = d → d < k →
    demerit_Valid.l0 k l l (l.length : Int) (i : Int) = some ((l.drop i).all okP && (decide (1 ≤ l.length) && decide (l.length ≤ 64))) := by
  induction d with
  | zero =>
    intro k i hi hd hk
    obtain ⟨k, rfl⟩ : ∃ m, k = m + 1 := ⟨k - 1, by omega⟩
    simp only [demerit_Valid.l0]
    rw [if_neg (by omega), List.drop_of_length_le (by omega)]
    by_cases h1 : (l.length : Int) ≥ 1
    · rw [if_pos h1, show decide (1 ≤ l.length) = true from decide_eq_true (by omega), show decide ((l.length : Int) ≤ 64) = decide (l.length ≤ 64) from by rw [Bool.eq_iff_iff, decide_eq_true_eq, decide_eq_true_eq]; omega]; rfl
    · rw [if_neg h1, show decide (1 ≤ l.length) = false from decide_eq_false (by omega)]; rfl
  | succ d ih =>
    intro k i hi hd hk
    obtain ⟨k, rfl⟩ : ∃ m, k = m + 1 := ⟨k - 1, by omega⟩
    have hlt : i < l.length := by omega
    simp only [demerit_Valid.l0]
    rw [if_pos (by omega), if_pos (by omega), if_pos (by omega), rd_nat hlt, step_ok _ _ (hw _ (List.getElem_mem hlt)), len_succ hlt (by omega), ih k (i + 1) (by omega) (by omega) (by omega), drop_cons hlt, List.all_cons]
    by_cases hp : okP l[i] = true
    · rw [if_pos hp, hp, Bool.true_and]
    · rw [if_neg hp, Bool.not_eq_true _ |>.mp hp, Bool.false_and, Bool.false_and]

theorem demValid (l : List S) (hn : l.length ≤ 4611686018427387904) (hw : ∀ p ∈ l, WfP p) (k : Nat) (hk : l.length < k) : demerit_Valid.f k l = some (vp l) := by
  have := demValid_loop l hn hw l.length k 0 (by omega) (by omega) hk
  simpa [demerit_Valid.f, vp] using this

theorem within_f (a b c : Int) : vinculumref44_within.f a b c = some (decide (b ≤ a ∧ a ≤ c)) := by
  unfold vinculumref44_within.f
  by_cases h : a ≥ b
  · rw [if_pos h]; simp; omega
  · rw [if_neg h]; simp; omega

theorem refValid_loop (l : List S) (hn : l.length ≤ 4611686018427387904) (d : Nat) : ∀ (k i : Nat), i ≤ l.length → l.length - i = d → d < k →
    vinculumref44_Valid.l0 k l (i : Int) = some ((l.drop i).all okP && (decide (1 ≤ l.length) && decide (l.length ≤ 64))) := by
  induction d with
  | zero =>
    intro k i hi hd hk
    obtain ⟨k, rfl⟩ : ∃ m, k = m + 1 := ⟨k - 1, by omega⟩
    simp only [vinculumref44_Valid.l0]
    rw [if_neg (by omega), List.drop_of_length_le (by omega), within_f]
    rw [show decide (1 ≤ (l.length : Int) ∧ (l.length : Int) ≤ 64) = (decide (1 ≤ l.length) && decide (l.length ≤ 64)) from by rw [Bool.eq_iff_iff, Bool.and_eq_true, decide_eq_true_eq, decide_eq_true_eq, decide_eq_true_eq]; omega]
    rfl
  | succ d ih =>
    intro k i hi hd hk
    obtain ⟨k, rfl⟩ : ∃ m, k = m + 1 := ⟨k - 1, by omega⟩
    have hlt : i < l.length := by omega
    simp only [vinculumref44_Valid.l0]
    rw [if_pos (by omega), if_pos (by omega), rd_nat hlt, within_f, within_f, within_f, len_succ hlt (by omega), ih k (i + 1) (by omega) (by omega) (by omega), drop_cons hlt]
    simp only [Option.bind_some, List.all_cons]
    by_cases h0 : 0 ≤ l[i].f0 ∧ l[i].f0 ≤ 10000000
    · by_cases h1 : -20000 ≤ l[i].f1 ∧ l[i].f1 ≤ 20000
      · by_cases h2 : -10000 ≤ l[i].f2 ∧ l[i].f2 ≤ 10000
        · have : okP l[i] = true := by simp only [okP, decide_eq_true_eq]; omega
          simp [h0, h1, h2, this]
        · have : okP l[i] = false := by simp only [okP, decide_eq_false_iff_not]; omega
          simp [h0, h1, h2, this]
      · have : okP l[i] = false := by simp only [okP, decide_eq_false_iff_not]; omega
        simp [h0, h1, this]
    · have : okP l[i] = false := by simp only [okP, decide_eq_false_iff_not]; omega
      simp [h0, this]

theorem refValid (l : List S) (hn : l.length ≤ 4611686018427387904) (k : Nat) (hk : l.length < k) : vinculumref44_Valid.f k l = some (vp l) := by
  have := refValid_loop l hn l.length k 0 (by omega) (by omega) hk
  simpa [vinculumref44_Valid.f, vp] using this

/-! ### Lengths -/
/-- The widths and spaces of the first m pieces. -/
def acc (l : List S) : Nat → Int
  | 0 => 0
  | m + 1 => acc l m + ((l[m]?.getD z34).f0 + (l[m]?.getD z34).f1)
/-- The length of line i..j. -/
def len44 (l : List S) (i j : Nat) : Int := acc l j - acc l i - (rd_T34 l i).f1

theorem vp_ok {l : List S} (h : vp l = true) {m : Nat} (hm : m < l.length) : 0 ≤ l[m].f0 ∧ l[m].f0 ≤ 10000000 ∧ -20000 ≤ l[m].f1 ∧ l[m].f1 ≤ 20000 ∧ -10000 ≤ l[m].f2 ∧ l[m].f2 ≤ 10000 := by
  simp only [vp, Bool.and_eq_true, List.all_eq_true] at h
  simpa [okP] using h.1 _ (List.getElem_mem hm)
theorem vp_len {l : List S} (h : vp l = true) : 1 ≤ l.length ∧ l.length ≤ 64 := by
  simp only [vp, Bool.and_eq_true, decide_eq_true_eq] at h
  exact h.2
theorem acc_succ {l : List S} {m : Nat} (hm : m < l.length) : acc l (m + 1) = acc l m + (l[m].f0 + l[m].f1) := by simp [acc, hm]
theorem acc_bound {l : List S} (h : vp l = true) : ∀ m, m ≤ l.length → -20000 * (m : Int) ≤ acc l m ∧ acc l m ≤ 10020000 * (m : Int)
  | 0, _ => by simp [acc]
  | m + 1, hm => by
    have ih := acc_bound h m (by omega)
    have hp := vp_ok h (m := m) (by omega)
    rw [acc_succ (by omega)]
    omega
theorem acc_step_bound {l : List S} (h : vp l = true) {i : Nat} : ∀ d, i + d ≤ l.length → -20000 * (d : Int) ≤ acc l (i + d) - acc l i ∧ acc l (i + d) - acc l i ≤ 10020000 * (d : Int)
  | 0, _ => by simp
  | d + 1, hd => by
    have ih := acc_step_bound h (i := i) d (by omega)
    have hp := vp_ok h (m := i + d) (by omega)
    rw [← Nat.add_assoc, acc_succ (by omega)]
    omega
theorem len44_bound {l : List S} (h : vp l = true) {i j : Nat} (hij : i < j) (hj : j ≤ l.length) : -1300000 ≤ len44 l i j ∧ len44 l i j ≤ 641300000 := by
  have h1 := acc_step_bound h (i := i) (j - i) (by omega)
  rw [show i + (j - i) = j by omega] at h1
  have hp := vp_ok h (m := i) (by omega)
  have := vp_len h
  unfold len44
  rw [rd_nat (by omega)]
  omega

theorem lenSum_acc {l : List S} (h : vp l = true) {i : Nat} (hi : i < l.length) : ∀ m, i + m ≤ l.length → lenSum (l.drop i) (wrap64 (-(rd_T34 l i).f1)) m = acc l (i + m) - acc l i - (rd_T34 l i).f1
  | 0, _ => by
    have hp := vp_ok h hi
    rw [rd_nat hi]
    simp only [lenSum, Nat.add_zero]
    rw [wrap_id (by omega) (by omega)]
    omega
  | m + 1, hm => by
    have ih := lenSum_acc h hi m (by omega)
    have hp := vp_ok h hi
    have hq := vp_ok h (m := i + m) (by omega)
    have hb := acc_step_bound h (i := i) m (by omega)
    have := vp_len h
    have hd : (l.drop i)[m]?.getD z34 = l[i + m] := by simp [show i + m < l.length by omega]
    rw [rd_nat hi] at ih ⊢
    simp only [lenSum]
    rw [ih, hd, ← Nat.add_assoc, acc_succ (by omega), wrap_id (x := l[i + m].f1 + l[i + m].f0) (by omega) (by omega), wrap_id (by omega) (by omega)]
    omega

theorem demlength {l : List S} (h : vp l = true) {i j : Nat} (hij : i < j) (hj : j ≤ l.length) : demerit_length.f l (i : Int) (j : Int) = some (len44 l i j) := by
  unfold demerit_length.f
  have := vp_len h
  rw [if_pos (by omega)]
  have h1 := lenSum_acc h (i := i) (by omega) (j - i) (by omega)
  rw [Int.toNat_natCast, show ((j : Int) - (i : Int)).toNat = j - i by omega, h1, show i + (j - i) = j by omega]
  rfl

theorem reflength_loop {l : List S} (h : vp l = true) {i : Nat} (hi : i < l.length) (j : Nat) (hj : j ≤ l.length) (d : Nat) : ∀ (k t : Nat), i < t → t ≤ j → j - t = d → d < k →
    vinculumref44_length.l0 k l (j : Int) (len44 l i t) (t : Int) = some (len44 l i j) := by
  induction d with
  | zero =>
    intro k t h1 h2 hd hk
    obtain ⟨k, rfl⟩ : ∃ m, k = m + 1 := ⟨k - 1, by omega⟩
    obtain rfl : t = j := by omega
    simp only [vinculumref44_length.l0]
    rw [if_neg (by omega)]
  | succ d ih =>
    intro k t h1 h2 hd hk
    obtain ⟨k, rfl⟩ : ∃ m, k = m + 1 := ⟨k - 1, by omega⟩
    have hp := vp_ok h (m := t) (by omega)
    have hb := len44_bound h (i := i) (j := t) h1 (by omega)
    have := vp_len h
    simp only [vinculumref44_length.l0]
    rw [if_pos (by omega), if_pos (by omega), if_pos (by omega), rd_nat (by omega), len_succ (n := l.length) (by omega) (by omega), wrap_id (x := l[t].f1 + l[t].f0) (by omega) (by omega), wrap_id (by omega) (by omega)]
    have e : len44 l i t + (l[t].f1 + l[t].f0) = len44 l i (t + 1) := by
      unfold len44
      rw [acc_succ (by omega)]
      omega
    rw [e]
    exact ih k (t + 1) (by omega) (by omega) (by omega) (by omega)

theorem reflength {l : List S} (h : vp l = true) {i j : Nat} (hij : i < j) (hj : j ≤ l.length) {k : Nat} (hk : l.length < k) : vinculumref44_length.f k l (i : Int) (j : Int) = some (len44 l i j) := by
  unfold vinculumref44_length.f
  have := vp_len h
  rw [if_pos (by omega), if_pos (by omega), len_succ (n := l.length) (by omega) (by omega)]
  have e : (rd_T34 l i).f0 = len44 l i (i + 1) := by
    unfold len44
    rw [acc_succ (by omega), rd_nat (by omega)]
    omega
  rw [show (rd_T34 l (i : Int)).f0 = _ from e]
  exact reflength_loop h (by omega) j hj (j - (i + 1)) k (i + 1) (by omega) (by omega) rfl (by omega)

/-- What Length tells. -/
def lengthS (l : List S) (a b : Int) : Int × Int :=
  if vp l = true then if 0 ≤ a ∧ a < b ∧ b ≤ (l.length : Int) then (len44 l a.toNat b.toNat, 0) else (0, 2) else (0, 1)

theorem demLength (l : List S) (hn : l.length ≤ 4611686018427387904) (hw : ∀ p ∈ l, WfP p) (a b : Int) (k : Nat) (hk : l.length < k) : demerit_Length.f k l a b = some (lengthS l a b) := by
  unfold demerit_Length.f lengthS
  rw [demValid l hn hw k hk]
  simp only [Option.bind_some]
  by_cases h : vp l = true
  · rw [if_pos h, if_pos h]
    by_cases c : 0 ≤ a ∧ a < b ∧ b ≤ (l.length : Int)
    · rw [if_neg (by omega), if_neg (by omega), if_neg (by omega), if_pos c]
      obtain ⟨i, rfl⟩ : ∃ i : Nat, a = i := ⟨a.toNat, by omega⟩
      obtain ⟨j, rfl⟩ : ∃ j : Nat, b = j := ⟨b.toNat, by omega⟩
      rw [demlength h (by omega) (by omega)]
      rfl
    · rw [if_neg c]
      by_cases c1 : a < 0
      · rw [if_pos c1]
      rw [if_neg c1]
      by_cases c2 : a ≥ b
      · rw [if_pos c2]
      rw [if_neg c2, if_pos (by omega)]
  · rw [if_neg h, if_neg h]

theorem refLength (l : List S) (hn : l.length ≤ 4611686018427387904) (a b : Int) (k : Nat) (hk : l.length < k) : vinculumref44_Length.f k l a b = some (lengthS l a b) := by
  unfold vinculumref44_Length.f lengthS
  rw [refValid l hn k hk]
  simp only [Option.bind_some]
  by_cases h : vp l = true
  · rw [if_pos h, if_pos h]
    by_cases c : 0 ≤ a ∧ a < b ∧ b ≤ (l.length : Int)
    · rw [if_neg (by omega), if_neg (by omega), if_neg (by omega), if_pos c]
      obtain ⟨i, rfl⟩ : ∃ i : Nat, a = i := ⟨a.toNat, by omega⟩
      obtain ⟨j, rfl⟩ : ∃ j : Nat, b = j := ⟨b.toNat, by omega⟩
      rw [reflength h (by omega) (by omega) hk]
      rfl
    · rw [if_neg c]
      by_cases c1 : a < 0
      · rw [if_pos c1]
      rw [if_neg c1]
      by_cases c2 : b ≤ a
      · rw [if_pos c2]
      rw [if_neg c2, if_pos (by omega)]
  · rw [if_neg h, if_neg h]

/-! ### Demerits of a line -/
/-- The badness of a line that leaves d. -/
def bad (d w : Int) (last : Bool) : Int :=
  if d < 0 then 20000 - d else if last = true then 0 else mn 100 (100 * d / w) * mn 100 (100 * d / w)
theorem mn_comm' (a b : Int) : mn a b = mn b a := by unfold mn; split <;> split <;> omega
theorem bad_bound {d w : Int} (hw : 1 ≤ w) (hd : -700000000 ≤ d) (last : Bool) : 0 ≤ bad d w last ∧ bad d w last ≤ 700020000 := by
  unfold bad
  split
  · omega
  · split
    · omega
    · have h0 : 0 ≤ 100 * d / w := Int.ediv_nonneg (by omega) (by omega)
      have h1 : 0 ≤ mn 100 (100 * d / w) ∧ mn 100 (100 * d / w) ≤ 100 := by unfold mn; split <;> omega
      have h2 : mn 100 (100 * d / w) * mn 100 (100 * d / w) ≤ 100 * 100 := Int.mul_le_mul h1.2 h1.2 h1.1 (by omega)
      have h3 : 0 ≤ mn 100 (100 * d / w) * mn 100 (100 * d / w) := Int.mul_nonneg h1.1 h1.1
      omega

/-- The demerits of a line of valid pieces. -/
def lineD (l : List S) (i j : Nat) (w : Int) : Int := 100 + bad (w - len44 l i j) w (decide (j = l.length)) + (if 0 < i then (rd_T34 l i).f2 else 0)
/-- Is it legal? -/
def legal (l : List S) (i j : Nat) (w : Int) : Bool := decide (len44 l i j ≤ w ∨ j ≤ i + 1)
/-- What Line tells. -/
def lineS (l : List S) (a b w : Int) : Int × Int :=
  if vp l = true ∧ 1 ≤ w ∧ w ≤ 10000000 then
    if 0 ≤ a ∧ a < b ∧ b ≤ (l.length : Int) then if legal l a.toNat b.toNat w = true then (lineD l a.toNat b.toNat w, 0) else (0, 6) else (0, 2)
  else (0, 1)

theorem bad_fac {d w : Int} (hw : 1 ≤ w) (hw2 : w ≤ 10000000) (hd0 : 0 ≤ d) (hd : d ≤ 20000000) : wrap64 (Int.tdiv (wrap64 (100 * d)) w) = 100 * d / w := by
  rw [wrap_id (x := 100 * d) (by omega) (by omega), Int.tdiv_eq_ediv_of_nonneg (by omega)]
  have h0 : 0 ≤ 100 * d / w := Int.ediv_nonneg (by omega) (by omega)
  have h1 : 100 * d / w ≤ 100 * d := Int.ediv_le_self _ (by omega)
  rw [wrap_id (by omega) (by omega)]
theorem sq_bound {x : Int} (h0 : 0 ≤ x) : 0 ≤ mn 100 x * mn 100 x ∧ mn 100 x * mn 100 x ≤ 10000 := by
  have h1 : 0 ≤ mn 100 x ∧ mn 100 x ≤ 100 := by unfold mn; split <;> omega
  exact ⟨Int.mul_nonneg h1.1 h1.1, Int.mul_le_mul h1.2 h1.2 h1.1 (by omega)⟩

theorem dembad {d w : Int} (hw : 1 ≤ w) (hw2 : w ≤ 10000000) (hd : -700000000 ≤ d) (hd2 : d ≤ 20000000) (last : Bool) : demerit_badness.f d w last = some (bad d w last) := by
  unfold demerit_badness.f bad
  by_cases h : d < 0
  · rw [if_pos h, if_pos h, wrap_id (by omega) (by omega)]
  · rw [if_neg h, if_neg h]
    by_cases hl : last = true
    · rw [if_pos hl, if_pos hl]
    · rw [if_neg hl, if_neg hl, if_neg (by omega), bad_fac hw hw2 (by omega) hd2, mn_comm' _ 100]
      have := sq_bound (x := 100 * d / w) (Int.ediv_nonneg (by omega) (by omega))
      rw [wrap_id (by omega) (by omega)]

theorem refbad {l : List S} (h : vp l = true) {i j : Nat} (hij : i < j) (hj : j ≤ l.length) {w : Int} (hw : 1 ≤ w) (hw2 : w ≤ 10000000) {k : Nat} (hk : l.length < k) :
    vinculumref44_badness.f k l (i : Int) (j : Int) w = some (bad (w - len44 l i j) w (decide (j = l.length))) := by
  have hb := len44_bound h hij hj
  unfold vinculumref44_badness.f bad
  rw [reflength h hij hj hk]
  simp only [Option.bind_some]
  rw [wrap_id (x := w - len44 l i j) (by omega) (by omega)]
  by_cases h : w - len44 l i j < 0
  · rw [if_pos h, if_pos h, wrap_id (by omega) (by omega)]
  · rw [if_neg h, if_neg h]
    by_cases hl : j = l.length
    · rw [if_pos (by omega), if_pos (by simpa using hl)]
    · rw [if_neg (show ¬ (j : Int) = (l.length : Int) by omega), if_neg (show ¬ w = 0 by omega), if_neg (show ¬ decide (j = l.length) = true by simpa using hl), bad_fac hw hw2 (by omega) (by omega)]
      have := sq_bound (x := 100 * (w - len44 l i j) / w) (Int.ediv_nonneg (by omega) (by omega))
      rw [wrap_id (by omega) (by omega)]

theorem lineD_bound {l : List S} (h : vp l = true) {i j : Nat} (hij : i < j) (hj : j ≤ l.length) {w : Int} (hw : 1 ≤ w) (hw2 : w ≤ 10000000) : -10000 ≤ lineD l i j w ∧ lineD l i j w ≤ 700040000 := by
  have hb := len44_bound h hij hj
  have hd := bad_bound (d := w - len44 l i j) hw (by omega) (decide (j = l.length))
  have hp := vp_ok h (m := i) (by omega)
  unfold lineD
  rw [rd_nat (by omega)]
  split <;> omega

theorem demLine (l : List S) (hn : l.length ≤ 4611686018427387904) (hw : ∀ p ∈ l, WfP p) (a b w : Int) (k : Nat) (hk : l.length + 2 < k) : demerit_Line.f k l a b w = some (lineS l a b w) := by
  obtain ⟨k, rfl⟩ : ∃ m, k = m + 1 := ⟨k - 1, by omega⟩
  unfold demerit_Line.f lineS
  by_cases hw1 : w < 1
  · rw [if_pos hw1, if_neg (by omega)]
    simp [demerit_Line.j0]
  rw [if_neg hw1]
  simp only [demerit_Line.j0]
  by_cases hw2 : w > 10000000
  · rw [if_pos (by simpa using hw2), if_neg (by omega)]
  rw [if_neg (by simpa using hw2), demLength l hn hw a b k (by omega)]
  simp only [Option.bind_some, lengthS]
  by_cases h : vp l = true
  · rw [if_pos h, if_pos (show vp l = true ∧ 1 ≤ w ∧ w ≤ 10000000 from ⟨h, by omega, by omega⟩)]
    by_cases c : 0 ≤ a ∧ a < b ∧ b ≤ (l.length : Int)
    · rw [if_pos c, if_pos c]
      obtain ⟨i, rfl⟩ : ∃ i : Nat, a = i := ⟨a.toNat, by omega⟩
      obtain ⟨j, rfl⟩ : ∃ j : Nat, b = j := ⟨b.toNat, by omega⟩
      have hij : i < j := by omega
      have hj : j ≤ l.length := by omega
      have hb := len44_bound h hij hj
      have hl := vp_len h
      have hp := vp_ok h (m := i) (by omega)
      have hbd := bad_bound (d := w - len44 l i j) (by omega : 1 ≤ w) (by omega) (decide (j = l.length))
      simp only [Int.toNat_natCast, if_true]
      have key : demerit_Line.j1 k l (i : Int) (j : Int) w (len44 l i j) false = some (lineD l i j w, 0) := by
        obtain ⟨k, rfl⟩ : ∃ m, k = m + 1 := ⟨k - 1, by omega⟩
        simp only [demerit_Line.j1]
        rw [if_neg (by simp), wrap_id (x := w - len44 l i j) (by omega) (by omega), show ((j : Int) == (l.length : Int)) = decide (j = l.length) from by rw [Bool.eq_iff_iff]; simp; omega, dembad (by omega) (by omega) (by omega) (by omega)]
        simp only [Option.bind_some]
        unfold lineD
        by_cases hi : 0 < i
        · rw [if_pos (by omega), if_pos (by omega), if_pos (by omega), if_pos hi, rd_nat (by omega), wrap_id (x := 100 + _) (by omega) (by omega), wrap_id (by omega) (by omega)]
        · rw [if_neg (by omega), if_neg hi, wrap_id (by omega) (by omega), Int.add_zero]
      have key2 : demerit_Line.j1 k l (i : Int) (j : Int) w (len44 l i j) true = some (0, 6) := by
        obtain ⟨k, rfl⟩ : ∃ m, k = m + 1 := ⟨k - 1, by omega⟩
        simp only [demerit_Line.j1, if_true]
      by_cases hlong : len44 l i j > w
      · rw [if_pos hlong, wrap_id (x := (j : Int) - i) (by omega) (by omega)]
        by_cases h1 : (j : Int) - i > 1
        · rw [show decide ((j : Int) - i > 1) = true from by simpa using h1, key2, if_neg (show ¬ legal l i j w = true by simp only [legal, decide_eq_true_eq]; omega)]
        · rw [show decide ((j : Int) - i > 1) = false from by simpa using h1, key, if_pos (show legal l i j w = true by simp only [legal, decide_eq_true_eq]; omega)]
      · rw [if_neg hlong, key, if_pos (show legal l i j w = true by simp only [legal, decide_eq_true_eq]; omega)]
    · rw [if_neg c, if_neg c]
      rfl
  · rw [if_neg h, if_neg (show ¬ (vp l = true ∧ 1 ≤ w ∧ w ≤ 10000000) from fun hh => h hh.1)]
    rfl

theorem refLine (l : List S) (hn : l.length ≤ 4611686018427387904) (a b w : Int) (ha : (Lit.int .i64 a).wf = true) (k : Nat) (hk : l.length + 2 < k) : vinculumref44_Line.f k l a b w = some (lineS l a b w) := by
  rw [wf64] at ha
  unfold vinculumref44_Line.f lineS
  rw [refLength l hn a b k (by omega), refValid l hn k (by omega)]
  simp only [Option.bind_some]
  obtain ⟨k, rfl⟩ : ∃ m, k = m + 1 := ⟨k - 1, by omega⟩
  by_cases h : vp l = true
  · rw [if_pos h, within_f]
    simp only [Option.bind_some, vinculumref44_Line.j0, lengthS, if_pos h]
    by_cases hw : 1 ≤ w ∧ w ≤ 10000000
    · rw [show (!decide (1 ≤ w ∧ w ≤ 10000000)) = false from by simpa using hw, if_neg (by simp), if_pos (show vp l = true ∧ 1 ≤ w ∧ w ≤ 10000000 from ⟨h, hw⟩)]
      by_cases c : 0 ≤ a ∧ a < b ∧ b ≤ (l.length : Int)
      · rw [if_pos c, if_pos c]
        obtain ⟨i, rfl⟩ : ∃ i : Nat, a = i := ⟨a.toNat, by omega⟩
        obtain ⟨j, rfl⟩ : ∃ j : Nat, b = j := ⟨b.toNat, by omega⟩
        have hij : i < j := by omega
        have hj : j ≤ l.length := by omega
        have hb := len44_bound h hij hj
        have hl := vp_len h
        have hp := vp_ok h (m := i) (by omega)
        have hbd := bad_bound (d := w - len44 l i j) (by omega : 1 ≤ w) (by omega) (decide (j = l.length))
        simp only [Int.toNat_natCast, if_true]
        have key : vinculumref44_Line.j1 k l (i : Int) (j : Int) w false = some (lineD l i j w, 0) := by
          obtain ⟨k, rfl⟩ : ∃ m, k = m + 1 := ⟨k - 1, by omega⟩
          simp only [vinculumref44_Line.j1]
          rw [if_neg (by simp), refbad h hij hj hw.1 hw.2 (by omega)]
          simp only [Option.bind_some]
          unfold lineD
          by_cases hi : 0 < i
          · rw [if_pos (by omega), if_pos (by omega), if_pos (by omega), if_pos hi, rd_nat (by omega), wrap_id (x := 100 + _) (by omega) (by omega), wrap_id (by omega) (by omega)]
          · rw [if_neg (by omega), if_neg hi, wrap_id (by omega) (by omega), Int.add_zero]
        have key2 : vinculumref44_Line.j1 k l (i : Int) (j : Int) w true = some (0, 6) := by
          obtain ⟨k, rfl⟩ : ∃ m, k = m + 1 := ⟨k - 1, by omega⟩
          simp only [vinculumref44_Line.j1, if_true]
        by_cases hlong : len44 l i j > w
        · rw [if_pos hlong, wrap_id (x := (i : Int) + 1) (by omega) (by omega)]
          by_cases h1 : (j : Int) > i + 1
          · rw [show decide ((j : Int) > i + 1) = true from by simpa using h1, key2, if_neg (show ¬ legal l i j w = true by simp only [legal, decide_eq_true_eq]; omega)]
          · rw [show decide ((j : Int) > i + 1) = false from by simpa using h1, key, if_pos (show legal l i j w = true by simp only [legal, decide_eq_true_eq]; omega)]
        · rw [if_neg hlong, key, if_pos (show legal l i j w = true by simp only [legal, decide_eq_true_eq]; omega)]
      · rw [if_neg c, if_neg c]
        rfl
    · rw [show (!decide (1 ≤ w ∧ w ≤ 10000000)) = true from by rw [decide_eq_false hw]; rfl, if_pos rfl, if_neg (show ¬ (vp l = true ∧ 1 ≤ w ∧ w ≤ 10000000) from fun hh => hw hh.2)]
  · rw [if_neg h]
    simp only [vinculumref44_Line.j0, if_true]
    rw [if_neg (show ¬ (vp l = true ∧ 1 ≤ w ∧ w ≤ 10000000) from fun hh => h hh.1)]

theorem lineS_zero (l : List S) (a b w : Int) (h : (lineS l a b w).2 ≠ 0) : (lineS l a b w).1 = 0 := by
  unfold lineS at *
  by_cases h1 : vp l = true ∧ 1 ≤ w ∧ w ≤ 10000000
  · rw [if_pos h1] at h ⊢
    by_cases h2 : 0 ≤ a ∧ a < b ∧ b ≤ (l.length : Int)
    · rw [if_pos h2] at h ⊢
      by_cases h3 : legal l a.toNat b.toNat w = true
      · rw [if_pos h3] at h
        exact absurd rfl h
      · rw [if_neg h3]
    · rw [if_neg h2]
  · rw [if_neg h1]
end Go.Proofs.Ytgickognjlapmaa.D44
