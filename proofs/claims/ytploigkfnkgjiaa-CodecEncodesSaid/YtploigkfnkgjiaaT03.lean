/- Layer 3's values as trees: few nodes, what own makes of them, when two are equal. Lemmas only. -/
import Derived.Test.YtploigkfnkgjiaaPEx0
import Derived.Test.YtploigkfnkgjiaaPEx1
import Derived.Test.YtploigkfnkgjiaaPEx10
import Derived.Test.YtploigkfnkgjiaaPEx2
import Derived.Test.YtploigkfnkgjiaaPEx3
import Derived.Test.YtploigkfnkgjiaaPEx4
import Derived.Test.YtploigkfnkgjiaaPEx5
import Derived.Test.YtploigkfnkgjiaaPEx6
import Derived.Test.YtploigkfnkgjiaaPEx7
import Derived.Test.YtploigkfnkgjiaaPEx8
import Derived.Test.YtploigkfnkgjiaaPEx9
namespace Go.Proofs.Ytploigkfnkgjiaa.T03
set_option linter.unusedVariables false
set_option linter.unusedSimpArgs false
open Go.RowKit Go.Proofs.Ytploigkfnkgjiaa.PE Go.Proofs.YtploigkfnkgjiaaW.PrintWords Go.Proofs.YtploigkfnkgjiaaW.PrintMore

abbrev R := S24
abbrev V := S29
theorem len_succ {i : Nat} {n : Nat} (h : i < n) (hn : n ≤ 9223372036854775807) : wrap64 ((i : Int) + 1) = ((i + 1 : Nat) : Int) := by unfold wrap64; omega
theorem rdR {l : List R} {i : Nat} (h : i < l.length) : rd_T24 l (i : Int) = l[i] := by simp [rd_T24, h]
theorem rdV {l : List V} {i : Nat} (h : i < l.length) : rd_T29 l (i : Int) = l[i] := by simp [rd_T29, h]

/-- A tree of at most d levels. -/
def Wf : Nat → R → Prop
  | 0, _ => False
  | d + 1, x => ((Lit.int .i64 x.f0).wf = true) ∧ ((Lit.int .i64 x.f1).wf = true) ∧ (x.f2.size ≤ 140737488351232) ∧ (x.f3.length * 56 ≤ 140737488351232 ∧ x.f3.length ≤ maxLen ∧ ∀ v ∈ x.f3, Wf d v)
theorem Wf.up : ∀ (d : Nat) (x : R), Wf d x → Wf (d + 1) x
  | 0, _, h => h.elim
  | d + 1, x, h => by
    obtain ⟨h1, h2, h3, h4, h5, h6⟩ := h
    exact ⟨h1, h2, h3, h4, h5, fun v hv => Wf.up d v (h6 v hv)⟩
theorem Wf.le {d e : Nat} (h : d ≤ e) {x : R} (hx : Wf d x) : Wf e x := by
  induction h with
  | refl => exact hx
  | step _ ih => exact Wf.up _ _ ih
theorem Wf.common (l : List R) (h : ∀ v ∈ l, ∃ d, Wf d v) : ∃ d, ∀ v ∈ l, Wf d v := by
  induction l with
  | nil => exact ⟨0, fun v hv => by cases hv⟩
  | cons x r ih =>
    obtain ⟨d, hd⟩ := ih (fun v hv => h v (List.mem_cons_of_mem _ hv))
    obtain ⟨e, he⟩ := h x List.mem_cons_self
    refine ⟨d + e, fun v hv => ?_⟩
    rcases List.mem_cons.1 hv with rfl | hv
    · exact he.le (by omega)
    · exact (hd v hv).le (by omega)
def sumN (l : List Nat) : Nat := l.foldr (· + ·) 0
theorem sumN_cons (a : Nat) (l : List Nat) : sumN (a :: l) = a + sumN l := rfl
theorem sumN_len (f : R → Nat) (hf : ∀ x, 1 ≤ f x) (l : List R) : l.length ≤ sumN (l.map f) := by
  induction l with
  | nil => exact Nat.le_refl _
  | cons x r ih => rw [List.map_cons, sumN_cons, List.length_cons]; have := hf x; omega
theorem sumN_mem (f : R → Nat) (l : List R) (x : R) (h : x ∈ l) : f x ≤ sumN (l.map f) := by
  induction l with
  | nil => cases h
  | cons y r ih =>
    rw [List.map_cons, sumN_cons]
    rcases List.mem_cons.1 h with rfl | h
    · omega
    · have := ih h; omega
/-- How many nodes a tree has. -/
def nodes : Nat → R → Nat
  | 0, _ => 1
  | d + 1, x => 1 + sumN (x.f3.map (nodes d))
theorem nodes_pos : ∀ (d : Nat) (x : R), 1 ≤ nodes d x
  | 0, _ => Nat.le_refl _
  | d + 1, x => by simp only [nodes]; omega
def allShort : Nat → R → Bool
  | 0, _ => true
  | d + 1, x => x.f3.all (allShort d) && decide (x.f2.size ≤ 5000)
/-- Few nodes with short texts, of at most d levels. -/
structure Small (d : Nat) (x : R) : Prop where
  wf : Wf d x
  few : nodes d x ≤ 300
  short : allShort d x = true
theorem Small.kid {d : Nat} {x y : R} (h : Small (d + 1) x) (hy : y ∈ x.f3) : Small d y := by
  refine ⟨h.wf.2.2.2.2.2 y hy, ?_, ?_⟩
  · have h1 := h.few
    have h2 := sumN_mem (nodes d) x.f3 y hy
    simp only [nodes] at h1
    omega
  · have h1 := h.short
    simp only [allShort, Bool.and_eq_true] at h1
    exact List.all_eq_true.1 h1.1 y hy
theorem Small.len {d : Nat} {x : R} (h : Small (d + 1) x) : x.f3.length ≤ 299 := by
  have h1 := h.few
  have h2 := sumN_len (nodes d) (nodes_pos d) x.f3
  simp only [nodes] at h1
  omega
theorem Small.text {d : Nat} {x : R} (h : Small (d + 1) x) : x.f2.size ≤ 5000 := by
  have h1 := h.short
  simp only [allShort, Bool.and_eq_true] at h1
  exact of_decide_eq_true h1.2
theorem Small.pos {d : Nat} {x : R} (h : Small d x) : ∃ e, d = e + 1 := by
  cases d with
  | zero => exact h.wf.elim
  | succ e => exact ⟨e, rfl⟩

/-! ### few -/
theorem size_loop (d : Nat) (most : Int) (hm : 1 ≤ most ∧ most ≤ 301) (a b : Int) (c : ByteArray) (l : List R)
    (ih : ∀ x ∈ l, ∀ m : Int, 1 ≤ m → m ≤ 301 → ∃ K r, (∀ k, K ≤ k → vinculumref03_Size.f k x.f0 x.f1 x.f2 x.f3 m = some r) ∧ 1 ≤ r ∧ r ≤ m ∧ (r < m → r = (nodes d x : Int))) (hlen : l.length ≤ 140737488351232) (e : Nat) :
    ∀ (i : Nat) (o : Int), i ≤ l.length → l.length - i = e → 1 ≤ o → o ≤ most → (o < most → o = 1 + (sumN ((l.take i).map (nodes d)) : Int)) →
      ∃ K r, (∀ k, K ≤ k → vinculumref03_Size.l0 k most o (i : Int) a b c l = some r) ∧ 1 ≤ r ∧ r ≤ most ∧ o ≤ r ∧ (r < most → r = 1 + (sumN (l.map (nodes d)) : Int)) := by
  induction e with
  | zero =>
    intro i o hi he h1 h2 h3
    refine ⟨1, o, fun k hk => ?_, h1, h2, Int.le_refl _, fun hlt => ?_⟩
    · obtain ⟨k, rfl⟩ : ∃ m, k = m + 1 := ⟨k - 1, by omega⟩
      simp only [vinculumref03_Size.l0]
      rw [if_neg (by omega)]
    · have := h3 hlt
      rwa [List.take_of_length_le (by omega)] at this
  | succ e ihe =>
    intro i o hi he h1 h2 h3
    have hlt : i < l.length := by omega
    by_cases ho : o < most
    · obtain ⟨K1, r1, hK1, q1, q2, q3⟩ := ih l[i] (List.getElem_mem hlt) (most - o) (by omega) (by omega)
      obtain ⟨K2, r2, hK2, p1, p2, p3, p4⟩ := ihe (i + 1) (o + r1) (by omega) (by omega) (by omega) (by omega) (fun hlt2 => by
        have e1 := h3 (by omega)
        have e2 := q3 (by omega)
        rw [List.take_succ_eq_append_getElem hlt, List.map_append]
        have : ∀ (p q : List Nat), sumN (p ++ q) = sumN p + sumN q := by
          intro p q
          induction p with
          | nil => simp [sumN]
          | cons x r ih => rw [List.cons_append, sumN_cons, sumN_cons, ih]; omega
        rw [this]
        simp only [List.map_cons, List.map_nil, sumN_cons]
        simp only [sumN, List.foldr_nil]
        simp only [sumN] at e1
        omega)
      refine ⟨max K1 K2 + 1, r2, fun k hk => ?_, p1, p2, by omega, p4⟩
      obtain ⟨k, rfl⟩ : ∃ m, k = m + 1 := ⟨k - 1, by omega⟩
      simp only [vinculumref03_Size.l0]
      rw [if_pos (by omega), if_pos ho, if_pos (by omega), rdR hlt, show wrap64 (most - o) = most - o from by unfold wrap64; omega, hK1 k (by omega)]
      simp only [Option.bind_some]
      rw [show wrap64 (o + r1) = o + r1 from by unfold wrap64; omega, len_succ hlt (by omega)]
      exact hK2 k (by omega)
    · refine ⟨1, o, fun k hk => ?_, h1, h2, Int.le_refl _, fun hlt => absurd hlt (by omega)⟩
      obtain ⟨k, rfl⟩ : ∃ m, k = m + 1 := ⟨k - 1, by omega⟩
      simp only [vinculumref03_Size.l0]
      rw [if_pos (by omega), if_neg ho]
theorem size_f : ∀ (d : Nat) (x : R), Wf d x → ∀ m : Int, 1 ≤ m → m ≤ 301 → ∃ K r, (∀ k, K ≤ k → vinculumref03_Size.f k x.f0 x.f1 x.f2 x.f3 m = some r) ∧ 1 ≤ r ∧ r ≤ m ∧ (r < m → r = (nodes d x : Int))
  | 0, x, h, _, _, _ => h.elim
  | d + 1, x, h, m, hm, hm2 => by
    obtain ⟨_, _, _, hl, _, hk⟩ := h
    obtain ⟨K, r, hK, h1, h2, _, h4⟩ := size_loop d m ⟨hm, hm2⟩ x.f0 x.f1 x.f2 x.f3 (fun y hy => size_f d y (hk y hy)) (by omega) x.f3.length 0 1 (by omega) (by omega) (by omega) hm (fun _ => by simp [sumN])
    refine ⟨K + 1, r, fun k hkk => ?_, h1, h2, fun hlt => ?_⟩
    · obtain ⟨k, rfl⟩ : ∃ m, k = m + 1 := ⟨k - 1, by omega⟩
      simp only [vinculumref03_Size.f]
      exact hK k (by omega)
    · have := h4 hlt
      simp only [nodes]
      omega
theorem short_loop (d : Nat) (a b : Int) (c : ByteArray) (l : List R) (K : Nat) (ih : ∀ x ∈ l, ∀ k, K ≤ k → vinculumlaw03_short.f k x.f0 x.f1 x.f2 x.f3 = some (allShort d x)) (hlen : l.length ≤ 300) (e : Nat) :
    ∀ (k i : Nat), i ≤ l.length → l.length - i = e → K + e < k → vinculumlaw03_short.l0 k (i : Int) a b c l = some ((l.drop i).all (allShort d) && decide (c.size ≤ 5000)) := by
  induction e with
  | zero =>
    intro k i hi he hk
    obtain ⟨k, rfl⟩ : ∃ m, k = m + 1 := ⟨k - 1, by omega⟩
    simp only [vinculumlaw03_short.l0]
    rw [if_neg (by omega), List.drop_of_length_le (by omega)]
    simp
    omega
  | succ e ihe =>
    intro k i hi he hk
    obtain ⟨k, rfl⟩ : ∃ m, k = m + 1 := ⟨k - 1, by omega⟩
    have hlt : i < l.length := by omega
    simp only [vinculumlaw03_short.l0]
    rw [if_pos (by omega), if_pos (by omega), rdR hlt, ih l[i] (List.getElem_mem hlt) k (by omega), List.drop_eq_getElem_cons hlt, List.all_cons]
    simp only [Option.bind_some]
    cases hs : allShort d l[i] with
    | false => simp
    | true =>
      rw [if_pos rfl, len_succ hlt (by omega), ihe k (i + 1) (by omega) (by omega) (by omega)]
      simp
theorem short_f : ∀ (d : Nat) (x : R), Wf d x → nodes d x ≤ 300 → ∀ k, 400 * d ≤ k → vinculumlaw03_short.f k x.f0 x.f1 x.f2 x.f3 = some (allShort d x)
  | 0, x, h, _, _, _ => h.elim
  | d + 1, x, h, hn, k, hk => by
    obtain ⟨_, _, _, hl, _, hkk⟩ := h
    have h2 := sumN_len (nodes d) (nodes_pos d) x.f3
    simp only [nodes] at hn
    obtain ⟨k, rfl⟩ : ∃ m, k = m + 1 := ⟨k - 1, by omega⟩
    simp only [vinculumlaw03_short.f]
    have := short_loop d x.f0 x.f1 x.f2 x.f3 (400 * d) (fun y hy k hk2 => short_f d y (hkk y hy) (by have := sumN_mem (nodes d) x.f3 y hy; omega) k hk2) (by omega) x.f3.length k 0 (by omega) (by omega) (by omega)
    rw [show ((0 : Nat) : Int) = 0 from rfl, List.drop_zero] at this
    rw [this]
    rfl
theorem few_f (d : Nat) (x : R) (h : Wf d x) : ∃ K, (∀ k, K ≤ k → vinculumlaw03_few.f k x.f0 x.f1 x.f2 x.f3 = some false) ∨ (Small d x ∧ ∀ k, K ≤ k → vinculumlaw03_few.f k x.f0 x.f1 x.f2 x.f3 = some true) := by
  obtain ⟨K, r, hK, h1, h2, h3⟩ := size_f d x h 301 (by omega) (by omega)
  refine ⟨K + 400 * d, ?_⟩
  by_cases hr : r ≤ 300
  · have hn := h3 (by omega)
    have hs : ∀ k, K + 400 * d ≤ k → vinculumlaw03_few.f k x.f0 x.f1 x.f2 x.f3 = some (allShort d x) := fun k hk => by
      unfold vinculumlaw03_few.f
      rw [hK k (by omega), Option.bind_some, if_pos hr, short_f d x h (by omega) k (by omega)]
      rfl
    cases ha : allShort d x with
    | false => exact .inl (fun k hk => by rw [hs k hk, ha])
    | true => exact .inr ⟨⟨h, by omega, ha⟩, fun k hk => by rw [hs k hk, ha]⟩
  · refine .inl (fun k hk => ?_)
    unfold vinculumlaw03_few.f
    rw [hK k (by omega), Option.bind_some, if_neg hr]

/-! ### own -/
def own : Nat → R → V
  | 0, x => ⟨x.f0, x.f1, x.f2, []⟩
  | d + 1, x => ⟨x.f0, x.f1, x.f2, x.f3.map (own d)⟩
theorem vEta : ∀ v : V, (⟨v.f0, v.f1, v.f2, v.f3⟩ : V) = v
  | ⟨_, _, _, _⟩ => rfl
theorem own_loop (d : Nat) (a b : Int) (c : ByteArray) (l : List R) (p q : Int) (t : ByteArray) (K : Nat) (ih : ∀ x ∈ l, ∀ k, K ≤ k → vinculumlaw03_own.f k x.f0 x.f1 x.f2 x.f3 = some ((own d x).f0, (own d x).f1, (own d x).f2, (own d x).f3)) (hlen : l.length ≤ 300) (e : Nat) :
    ∀ (k i : Nat), i ≤ l.length → l.length - i = e → K + e < k → vinculumlaw03_own.l0 k (i : Int) a b c l p q t ((l.take i).map (own d)) = some (p, q, t, l.map (own d)) := by
  induction e with
  | zero =>
    intro k i hi he hk
    obtain ⟨k, rfl⟩ : ∃ m, k = m + 1 := ⟨k - 1, by omega⟩
    simp only [vinculumlaw03_own.l0]
    rw [if_neg (by omega), List.take_of_length_le (by omega)]
  | succ e ihe =>
    intro k i hi he hk
    obtain ⟨k, rfl⟩ : ∃ m, k = m + 1 := ⟨k - 1, by omega⟩
    have hlt : i < l.length := by omega
    simp only [vinculumlaw03_own.l0]
    rw [if_pos (by omega), if_pos (by omega), rdR hlt, ih l[i] (List.getElem_mem hlt) k (by omega), Option.bind_some, if_pos (by rw [List.length_map, List.length_take]; omega), len_succ hlt (by omega)]
    have := ihe k (i + 1) (by omega) (by omega) (by omega)
    rw [List.take_succ_eq_append_getElem hlt, List.map_append] at this
    dsimp only
    rw [vEta]
    exact this
theorem own_f : ∀ (d : Nat) (x : R), Small d x → ∀ k, 400 * d ≤ k → vinculumlaw03_own.f k x.f0 x.f1 x.f2 x.f3 = some ((own d x).f0, (own d x).f1, (own d x).f2, (own d x).f3)
  | 0, x, h, _, _ => h.wf.elim
  | d + 1, x, h, k, hk => by
    obtain ⟨k, rfl⟩ : ∃ m, k = m + 1 := ⟨k - 1, by omega⟩
    simp only [vinculumlaw03_own.f]
    have := own_loop d x.f0 x.f1 x.f2 x.f3 x.f0 x.f1 x.f2 (400 * d) (fun y hy k hk2 => own_f d y (h.kid hy) k hk2) (by have := h.len; omega) x.f3.length k 0 (by omega) (by omega) (by have := h.len; omega)
    rw [show ((0 : Nat) : Int) = 0 from rfl, List.take_zero] at this
    exact this
/-! ### equality -/
def eqv : Nat → R → R → Bool
  | 0, _, _ => true
  | d + 1, x, y => decide (x.f0 = y.f0) && (decide (x.f1 = y.f1) && (decide (x.f2.toList = y.f2.toList) && (decide (x.f3.length = y.f3.length) && (x.f3.zip y.f3).all (fun p => eqv d p.1 p.2))))
theorem zip_drop {α : Type} {l m : List α} {i : Nat} (h : i < l.length) (h2 : i < m.length) : (l.drop i).zip (m.drop i) = (l[i], m[i]) :: (l.drop (i + 1)).zip (m.drop (i + 1)) := by
  rw [List.drop_eq_getElem_cons h, List.drop_eq_getElem_cons h2, List.zip_cons_cons]
theorem refeq_loop (d : Nat) (a b : Int) (c : ByteArray) (l : List R) (a' b' : Int) (c' : ByteArray) (m : List R) (hlm : l.length = m.length) (K : Nat) (ih : ∀ x ∈ l, ∀ y ∈ m, ∀ k, K ≤ k → vinculumref03_Equal.f k x.f0 x.f1 x.f2 x.f3 y.f0 y.f1 y.f2 y.f3 = some (eqv d x y)) (hlen : l.length ≤ 300) (e : Nat) :
    ∀ (k i : Nat), i ≤ l.length → l.length - i = e → K + e < k → vinculumref03_Equal.l0 k (i : Int) a b c l a' b' c' m = some (((l.drop i).zip (m.drop i)).all (fun p => eqv d p.1 p.2)) := by
  induction e with
  | zero =>
    intro k i hi he hk
    obtain ⟨k, rfl⟩ : ∃ m, k = m + 1 := ⟨k - 1, by omega⟩
    simp only [vinculumref03_Equal.l0]
    rw [if_neg (by omega), List.drop_of_length_le (by omega)]
    simp
  | succ e ihe =>
    intro k i hi he hk
    obtain ⟨k, rfl⟩ : ∃ m, k = m + 1 := ⟨k - 1, by omega⟩
    have hlt : i < l.length := by omega
    have hlt2 : i < m.length := by omega
    simp only [vinculumref03_Equal.l0]
    rw [if_pos (by omega), if_pos (by omega), if_pos (by omega), rdR hlt, rdR hlt2, ih l[i] (List.getElem_mem hlt) m[i] (List.getElem_mem hlt2) k (by omega), Option.bind_some, zip_drop hlt hlt2, List.all_cons]
    cases hs : eqv d l[i] m[i] with
    | false => simp
    | true =>
      rw [if_pos rfl, len_succ hlt (by omega), ihe k (i + 1) (by omega) (by omega) (by omega)]
      simp
theorem refeq_f : ∀ (d : Nat) (x y : R), Small d x → Small d y → ∀ k, 400 * d ≤ k → vinculumref03_Equal.f k x.f0 x.f1 x.f2 x.f3 y.f0 y.f1 y.f2 y.f3 = some (eqv d x y)
  | 0, x, _, h, _, _, _ => h.wf.elim
  | d + 1, x, y, h, h', k, hk => by
    obtain ⟨k, rfl⟩ : ∃ m, k = m + 1 + 1 := ⟨k - 2, by omega⟩
    have hl := h.len
    have hl' := h'.len
    simp only [vinculumref03_Equal.f, eqv]
    by_cases c0 : x.f0 = y.f0
    · rw [if_pos c0, decide_eq_true c0]
      by_cases c1 : x.f1 = y.f1
      · rw [if_pos c1, decide_eq_true c1]
        by_cases c2 : x.f2.toList = y.f2.toList
        · rw [if_pos c2, decide_eq_true c2]
          simp only [vinculumref03_Equal.j0]
          by_cases c3 : x.f3.length = y.f3.length
          · rw [if_neg (by simp [c3]), decide_eq_true c3]
            have := refeq_loop d x.f0 x.f1 x.f2 x.f3 y.f0 y.f1 y.f2 y.f3 c3 (400 * d) (fun u hu v hv k hk2 => refeq_f d u v (h.kid hu) (h'.kid hv) k hk2) (by omega) x.f3.length k 0 (by omega) (by omega) (by omega)
            rw [show ((0 : Nat) : Int) = 0 from rfl, List.drop_zero, List.drop_zero] at this
            rw [this]
            simp
          · rw [if_pos (by simp; omega), decide_eq_false c3]
            simp
        · rw [if_neg c2, decide_eq_false c2]
          simp [vinculumref03_Equal.j0]
      · rw [if_neg c1, decide_eq_false c1]
        simp [vinculumref03_Equal.j0]
    · rw [if_neg c0, decide_eq_false c0]
      simp [vinculumref03_Equal.j0]
theorem eq_loop (d : Nat) (a b : Int) (c : ByteArray) (l : List R) (a' b' : Int) (c' : ByteArray) (m : List R) (hlm : l.length = m.length) (K : Nat) (ih : ∀ x ∈ l, ∀ y ∈ m, ∀ k, K ≤ k → codec_Equal.f k (own d x).f0 (own d x).f1 (own d x).f2 (own d x).f3 (own d y).f0 (own d y).f1 (own d y).f2 (own d y).f3 = some (eqv d x y)) (hlen : l.length ≤ 300) (e : Nat) :
    ∀ (k i : Nat), i ≤ l.length → l.length - i = e → K + e < k → codec_Equal.l0 k (l.length : Int) (i : Int) a b c (l.map (own d)) a' b' c' (m.map (own d)) = some (((l.drop i).zip (m.drop i)).all (fun p => eqv d p.1 p.2)) := by
  induction e with
  | zero =>
    intro k i hi he hk
    obtain ⟨k, rfl⟩ : ∃ m, k = m + 1 := ⟨k - 1, by omega⟩
    simp only [codec_Equal.l0]
    rw [if_neg (by omega), List.drop_of_length_le (by omega)]
    simp
  | succ e ihe =>
    intro k i hi he hk
    obtain ⟨k, rfl⟩ : ∃ m, k = m + 1 := ⟨k - 1, by omega⟩
    have hlt : i < l.length := by omega
    have hlt2 : i < m.length := by omega
    simp only [codec_Equal.l0]
    rw [if_pos (by omega), if_pos (by omega), if_pos (by rw [List.length_map]; omega), if_pos (by rw [List.length_map]; omega), rdV (by rw [List.length_map]; omega), rdV (by rw [List.length_map]; omega), List.getElem_map, List.getElem_map, ih l[i] (List.getElem_mem hlt) m[i] (List.getElem_mem hlt2) k (by omega), Option.bind_some, zip_drop hlt hlt2, List.all_cons]
    cases hs : eqv d l[i] m[i] with
    | false => simp
    | true =>
      rw [if_pos rfl, len_succ hlt (by omega), ihe k (i + 1) (by omega) (by omega) (by omega)]
      simp
theorem eq_f : ∀ (d : Nat) (x y : R), Small d x → Small d y → ∀ k, 400 * d ≤ k → codec_Equal.f k (own d x).f0 (own d x).f1 (own d x).f2 (own d x).f3 (own d y).f0 (own d y).f1 (own d y).f2 (own d y).f3 = some (eqv d x y)
  | 0, x, _, h, _, _, _ => h.wf.elim
  | d + 1, x, y, h, h', k, hk => by
    obtain ⟨k, rfl⟩ : ∃ m, k = m + 1 + 1 := ⟨k - 2, by omega⟩
    have hl := h.len
    have hl' := h'.len
    change codec_Equal.f (k + 1 + 1) x.f0 x.f1 x.f2 (x.f3.map (own d)) y.f0 y.f1 y.f2 (y.f3.map (own d)) = _
    simp only [codec_Equal.f, eqv]
    by_cases c0 : x.f0 = y.f0
    · rw [if_pos c0, decide_eq_true c0]
      by_cases c1 : x.f1 = y.f1
      · rw [if_pos c1, decide_eq_true c1]
        by_cases c2 : x.f2.toList = y.f2.toList
        · rw [if_pos c2, decide_eq_true c2]
          simp only [codec_Equal.j0, List.length_map]
          by_cases c3 : x.f3.length = y.f3.length
          · rw [if_neg (by simp [c3]), decide_eq_true c3]
            have := eq_loop d x.f0 x.f1 x.f2 x.f3 y.f0 y.f1 y.f2 y.f3 c3 (400 * d) (fun u hu v hv k hk2 => eq_f d u v (h.kid hu) (h'.kid hv) k hk2) (by omega) x.f3.length k 0 (by omega) (by omega) (by omega)
            rw [show ((0 : Nat) : Int) = 0 from rfl, List.drop_zero, List.drop_zero] at this
            rw [this]
            simp
          · rw [if_pos (by simp; omega), decide_eq_false c3]
            simp
        · rw [if_neg c2, decide_eq_false c2]
          simp [codec_Equal.j0]
      · rw [if_neg c1, decide_eq_false c1]
        simp [codec_Equal.j0]
    · rw [if_neg c0, decide_eq_false c0]
      simp [codec_Equal.j0]
theorem eqv_self : ∀ (d : Nat) (x : R), eqv d x x = true
  | 0, _ => rfl
  | d + 1, x => by
    have : ∀ l : List R, (l.zip l).all (fun p => eqv d p.1 p.2) = true := by
      intro l
      induction l with
      | nil => rfl
      | cons y r ih => rw [List.zip_cons_cons, List.all_cons, eqv_self d y, ih]; rfl
    simp [eqv, this]
theorem awake03 (k : Nat) (hk : 20 ≤ k) : vinculumlaw03_awake.f k = some true := at_rounds vinculumlaw03_awake.mono hk (by decide +kernel)
end Go.Proofs.Ytploigkfnkgjiaa.T03
