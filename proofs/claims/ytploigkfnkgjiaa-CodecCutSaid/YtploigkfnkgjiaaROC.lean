/- Layer 3's values of few nodes: what own makes of them, and its encoding. Lemmas only. -/
import Derived.Test.YtploigkfnkgjiaaPCx0
import Derived.Test.YtploigkfnkgjiaaPCx1
import Derived.Test.YtploigkfnkgjiaaPCx2
import Derived.Test.YtploigkfnkgjiaaPCx3
import Derived.Test.YtploigkfnkgjiaaPCx4
import Derived.Test.YtploigkfnkgjiaaPCx5
import Derived.Test.YtploigkfnkgjiaaRCC
namespace Go.Proofs.Ytploigkfnkgjiaa.RO
set_option linter.unusedVariables false
set_option linter.unusedSimpArgs false
open Go.RowKit Go.Proofs.Ytploigkfnkgjiaa.PC Go.Proofs.Ytploigkfnkgjiaa.RC Go.Proofs.YtploigkfnkgjiaaW.PrintWords Go.Proofs.YtploigkfnkgjiaaW.PrintMore

abbrev R := S24
theorem rdR {l : List R} {i : Nat} (h : i < l.length) : rd_T24 l (i : Int) = l[i] := by simp [rd_T24, h]
/-- A tree of at most d levels. -/
def Wf : Nat → R → Prop
  | 0, _ => False
  | d + 1, x => ((Lit.int .i64 x.f0).wf = true) ∧ ((Lit.int .i64 x.f1).wf = true) ∧ (x.f2.size ≤ 140737488351232) ∧ (x.f3.length * 56 ≤ 140737488351232 ∧ x.f3.length ≤ maxLen ∧ ∀ v ∈ x.f3, Wf d v)
theorem Wf.up : ∀ (d : Nat) (x : R), Wf d x → Wf (d + 1) x
  | 0, _, h => h.elim
  | d + 1, x, h => by
    obtain ⟨h1, h2, h3, h4, h5, h6⟩ := h
    exact ⟨h1, h2, h3, h4, h5, fun v hv => Wf.up d v (h6 v hv)⟩
theorem Wf.le {d e : Nat} (h : d ≤ e) {x : R} (hx : Wf d x) : Wf e x := by
  induction h with
  | refl => exact hx
  | step _ ih => exact Wf.up _ _ ih
theorem Wf.common (l : List R) (h : ∀ v ∈ l, ∃ d, Wf d v) : ∃ d, ∀ v ∈ l, Wf d v := by
  induction l with
  | nil => exact ⟨0, fun v hv => by cases hv⟩
  | cons x r ih =>
    obtain ⟨d, hd⟩ := ih (fun v hv => h v (List.mem_cons_of_mem _ hv))
    obtain ⟨e, he⟩ := h x List.mem_cons_self
    refine ⟨d + e, fun v hv => ?_⟩
    rcases List.mem_cons.1 hv with rfl | hv
    · exact he.le (by omega)
    · exact (hd v hv).le (by omega)
def sumN (l : List Nat) : Nat := l.foldr (· + ·) 0
theorem sumN_cons (a : Nat) (l : List Nat) : sumN (a :: l) = a + sumN l := rfl
theorem sumN_len (f : R → Nat) (hf : ∀ x, 1 ≤ f x) (l : List R) : l.length ≤ sumN (l.map f) := by
  induction l with
  | nil => exact Nat.le_refl _
  | cons x r ih => rw [List.map_cons, sumN_cons, List.length_cons]; have := hf x; omega
theorem sumN_mem (f : R → Nat) (l : List R) (x : R) (h : x ∈ l) : f x ≤ sumN (l.map f) := by
  induction l with
  | nil => cases h
  | cons y r ih =>
    rw [List.map_cons, sumN_cons]
    rcases List.mem_cons.1 h with rfl | h
    · omega
    · have := ih h; omega
/-- How many nodes a tree has. -/
def nodes : Nat → R → Nat
  | 0, _ => 1
  | d + 1, x => 1 + sumN (x.f3.map (nodes d))
theorem nodes_pos : ∀ (d : Nat) (x : R), 1 ≤ nodes d x
  | 0, _ => Nat.le_refl _
  | d + 1, x => by simp only [nodes]; omega
def allShort : Nat → R → Bool
  | 0, _ => true
  | d + 1, x => x.f3.all (allShort d) && decide (x.f2.size ≤ 5000)
/-- Few nodes with short texts, of at most d levels. -/
structure Small (d : Nat) (x : R) : Prop where
  wf : Wf d x
  few : nodes d x ≤ 300
  short : allShort d x = true
theorem Small.kid {d : Nat} {x y : R} (h : Small (d + 1) x) (hy : y ∈ x.f3) : Small d y := by
  refine ⟨h.wf.2.2.2.2.2 y hy, ?_, ?_⟩
  · have h1 := h.few
    have h2 := sumN_mem (nodes d) x.f3 y hy
    simp only [nodes] at h1
    omega
  · have h1 := h.short
    simp only [allShort, Bool.and_eq_true] at h1
    exact List.all_eq_true.1 h1.1 y hy
theorem Small.len {d : Nat} {x : R} (h : Small (d + 1) x) : x.f3.length ≤ 299 := by
  have h1 := h.few
  have h2 := sumN_len (nodes d) (nodes_pos d) x.f3
  simp only [nodes] at h1
  omega
theorem Small.text {d : Nat} {x : R} (h : Small (d + 1) x) : x.f2.size ≤ 5000 := by
  have h1 := h.short
  simp only [allShort, Bool.and_eq_true] at h1
  exact of_decide_eq_true h1.2
theorem Small.pos {d : Nat} {x : R} (h : Small d x) : ∃ e, d = e + 1 := by
  cases d with
  | zero => exact h.wf.elim
  | succ e => exact ⟨e, rfl⟩

/-! ### few -/
theorem size_loop (d : Nat) (most : Int) (hm : 1 ≤ most ∧ most ≤ 301) (a b : Int) (c : ByteArray) (l : List R)
    (ih : ∀ x ∈ l, ∀ m : Int, 1 ≤ m → m ≤ 301 → ∃ K r, (∀ k, K ≤ k → vinculumref03_Size.f k x.f0 x.f1 x.f2 x.f3 m = some r) ∧ 1 ≤ r ∧ r ≤ m ∧ (r < m → r = (nodes d x : Int))) (hlen : l.length ≤ 140737488351232) (e : Nat) :
    ∀ (i : Nat) (o : Int), i ≤ l.length → l.length - i = e → 1 ≤ o → o ≤ most → (o < most → o = 1 + (sumN ((l.take i).map (nodes d)) : Int)) →
      ∃ K r, (∀ k, K ≤ k → vinculumref03_Size.l0 k most o (i : Int) a b c l = some r) ∧ 1 ≤ r ∧ r ≤ most ∧ o ≤ r ∧ (r < most → r = 1 + (sumN (l.map (nodes d)) : Int)) := by
  induction e with
  | zero =>
    intro i o hi he h1 h2 h3
    refine ⟨1, o, fun k hk => ?_, h1, h2, Int.le_refl _, fun hlt => ?_⟩
    · obtain ⟨k, rfl⟩ : ∃ m, k = m + 1 := ⟨k - 1, by omega⟩
      simp only [vinculumref03_Size.l0]
      rw [if_neg (by omega)]
    · have := h3 hlt
      rwa [List.take_of_length_le (by omega)] at this
  | succ e ihe =>
    intro i o hi he h1 h2 h3
    have hlt : i < l.length := by omega
    by_cases ho : o < most
    · obtain ⟨K1, r1, hK1, q1, q2, q3⟩ := ih l[i] (List.getElem_mem hlt) (most - o) (by omega) (by omega)
      obtain ⟨K2, r2, hK2, p1, p2, p3, p4⟩ := ihe (i + 1) (o + r1) (by omega) (by omega) (by omega) (by omega) (fun hlt2 => by
        have e1 := h3 (by omega)
        have e2 := q3 (by omega)
        rw [List.take_succ_eq_append_getElem hlt, List.map_append]
        have : ∀ (p q : List Nat), sumN (p ++ q) = sumN p + sumN q := by
          intro p q
          induction p with
          | nil => simp [sumN]
          | cons x r ih => rw [List.cons_append, sumN_cons, sumN_cons, ih]; omega
        rw [this]
        simp only [List.map_cons, List.map_nil, sumN_cons]
        simp only [sumN, List.foldr_nil]
        simp only [sumN] at e1
        omega)
      refine ⟨max K1 K2 + 1, r2, fun k hk => ?_, p1, p2, by omega, p4⟩
      obtain ⟨k, rfl⟩ : ∃ m, k = m + 1 := ⟨k - 1, by omega⟩
      simp only [vinculumref03_Size.l0]
      rw [if_pos (by omega), if_pos ho, if_pos (by omega), rdR hlt, show wrap64 (most - o) = most - o from by unfold wrap64; omega, hK1 k (by omega)]
      simp only [Option.bind_some]
      rw [show wrap64 (o + r1) = o + r1 from by unfold wrap64; omega, len_succ hlt (by omega)]
      exact hK2 k (by omega)
    · refine ⟨1, o, fun k hk => ?_, h1, h2, Int.le_refl _, fun hlt => absurd hlt (by omega)⟩
      obtain ⟨k, rfl⟩ : ∃ m, k = m + 1 := ⟨k - 1, by omega⟩
      simp only [vinculumref03_Size.l0]
      rw [if_pos (by omega), if_neg ho]
theorem size_f : ∀ (d : Nat) (x : R), Wf d x → ∀ m : Int, 1 ≤ m → m ≤ 301 → ∃ K r, (∀ k, K ≤ k → vinculumref03_Size.f k x.f0 x.f1 x.f2 x.f3 m = some r) ∧ 1 ≤ r ∧ r ≤ m ∧ (r < m → r = (nodes d x : Int))
  | 0, x, h, _, _, _ => h.elim
  | d + 1, x, h, m, hm, hm2 => by
    obtain ⟨_, _, _, hl, _, hk⟩ := h
    obtain ⟨K, r, hK, h1, h2, _, h4⟩ := size_loop d m ⟨hm, hm2⟩ x.f0 x.f1 x.f2 x.f3 (fun y hy => size_f d y (hk y hy)) (by omega) x.f3.length 0 1 (by omega) (by omega) (by omega) hm (fun _ => by simp [sumN])
    refine ⟨K + 1, r, fun k hkk => ?_, h1, h2, fun hlt => ?_⟩
    · obtain ⟨k, rfl⟩ : ∃ m, k = m + 1 := ⟨k - 1, by omega⟩
      simp only [vinculumref03_Size.f]
      exact hK k (by omega)
    · have := h4 hlt
      simp only [nodes]
      omega
theorem short_loop (d : Nat) (a b : Int) (c : ByteArray) (l : List R) (K : Nat) (ih : ∀ x ∈ l, ∀ k, K ≤ k → vinculumlaw03_short.f k x.f0 x.f1 x.f2 x.f3 = some (allShort d x)) (hlen : l.length ≤ 300) (e : Nat) :
    ∀ (k i : Nat), i ≤ l.length → l.length - i = e → K + e < k → vinculumlaw03_short.l0 k (i : Int) a b c l = some ((l.drop i).all (allShort d) && decide (c.size ≤ 5000)) := by
  induction e with
  | zero =>
    intro k i hi he hk
    obtain ⟨k, rfl⟩ : ∃ m, k = m + 1 := ⟨k - 1, by omega⟩
    simp only [vinculumlaw03_short.l0]
    rw [if_neg (by omega), List.drop_of_length_le (by omega)]
    simp
    omega
  | succ e ihe =>
    intro k i hi he hk
    obtain ⟨k, rfl⟩ : ∃ m, k = m + 1 := ⟨k - 1, by omega⟩
    have hlt : i < l.length := by omega
    simp only [vinculumlaw03_short.l0]
    rw [if_pos (by omega), if_pos (by omega), rdR hlt, ih l[i] (List.getElem_mem hlt) k (by omega), List.drop_eq_getElem_cons hlt, List.all_cons]
    simp only [Option.bind_some]
    cases hs : allShort d l[i] with
    | false => simp
    | true =>
      rw [if_pos rfl, len_succ hlt (by omega), ihe k (i + 1) (by omega) (by omega) (by omega)]
      simp
theorem short_f : ∀ (d : Nat) (x : R), Wf d x → nodes d x ≤ 300 → ∀ k, 400 * d ≤ k → vinculumlaw03_short.f k x.f0 x.f1 x.f2 x.f3 = some (allShort d x)
  | 0, x, h, _, _, _ => h.elim
  | d + 1, x, h, hn, k, hk => by
    obtain ⟨_, _, _, hl, _, hkk⟩ := h
    have h2 := sumN_len (nodes d) (nodes_pos d) x.f3
    simp only [nodes] at hn
    obtain ⟨k, rfl⟩ : ∃ m, k = m + 1 := ⟨k - 1, by omega⟩
    simp only [vinculumlaw03_short.f]
    have := short_loop d x.f0 x.f1 x.f2 x.f3 (400 * d) (fun y hy k hk2 => short_f d y (hkk y hy) (by have := sumN_mem (nodes d) x.f3 y hy; omega) k hk2) (by omega) x.f3.length k 0 (by omega) (by omega) (by omega)
    rw [show ((0 : Nat) : Int) = 0 from rfl, List.drop_zero] at this
    rw [this]
    rfl
theorem few_f (d : Nat) (x : R) (h : Wf d x) : ∃ K, (∀ k, K ≤ k → vinculumlaw03_few.f k x.f0 x.f1 x.f2 x.f3 = some false) ∨ (Small d x ∧ ∀ k, K ≤ k → vinculumlaw03_few.f k x.f0 x.f1 x.f2 x.f3 = some true) := by
  obtain ⟨K, r, hK, h1, h2, h3⟩ := size_f d x h 301 (by omega) (by omega)
  refine ⟨K + 400 * d, ?_⟩
  by_cases hr : r ≤ 300
  · have hn := h3 (by omega)
    have hs : ∀ k, K + 400 * d ≤ k → vinculumlaw03_few.f k x.f0 x.f1 x.f2 x.f3 = some (allShort d x) := fun k hk => by
      unfold vinculumlaw03_few.f
      rw [hK k (by omega), Option.bind_some, if_pos hr, short_f d x h (by omega) k (by omega)]
      rfl
    cases ha : allShort d x with
    | false => exact .inl (fun k hk => by rw [hs k hk, ha])
    | true => exact .inr ⟨⟨h, by omega, ha⟩, fun k hk => by rw [hs k hk, ha]⟩
  · refine .inl (fun k hk => ?_)
    unfold vinculumlaw03_few.f
    rw [hK k (by omega), Option.bind_some, if_neg hr]

/-! ### own -/
def own : Nat → R → V
  | 0, x => ⟨x.f0, x.f1, x.f2, []⟩
  | d + 1, x => ⟨x.f0, x.f1, x.f2, x.f3.map (own d)⟩
theorem own_loop (d : Nat) (a b : Int) (c : ByteArray) (l : List R) (p q : Int) (t : ByteArray) (K : Nat) (ih : ∀ x ∈ l, ∀ k, K ≤ k → vinculumlaw03_own.f k x.f0 x.f1 x.f2 x.f3 = some ((own d x).f0, (own d x).f1, (own d x).f2, (own d x).f3)) (hlen : l.length ≤ 300) (e : Nat) :
    ∀ (k i : Nat), i ≤ l.length → l.length - i = e → K + e < k → vinculumlaw03_own.l0 k (i : Int) a b c l p q t ((l.take i).map (own d)) = some (p, q, t, l.map (own d)) := by
  induction e with
  | zero =>
    intro k i hi he hk
    obtain ⟨k, rfl⟩ : ∃ m, k = m + 1 := ⟨k - 1, by omega⟩
    simp only [vinculumlaw03_own.l0]
    rw [if_neg (by omega), List.take_of_length_le (by omega)]
  | succ e ihe =>
    intro k i hi he hk
    obtain ⟨k, rfl⟩ : ∃ m, k = m + 1 := ⟨k - 1, by omega⟩
    have hlt : i < l.length := by omega
    simp only [vinculumlaw03_own.l0]
    rw [if_pos (by omega), if_pos (by omega), rdR hlt, ih l[i] (List.getElem_mem hlt) k (by omega), Option.bind_some, if_pos (by rw [List.length_map, List.length_take]; omega), len_succ hlt (by omega)]
    have := ihe k (i + 1) (by omega) (by omega) (by omega)
    rw [List.take_succ_eq_append_getElem hlt, List.map_append] at this
    dsimp only
    rw [vEta]
    exact this
theorem own_f : ∀ (d : Nat) (x : R), Small d x → ∀ k, 400 * d ≤ k → vinculumlaw03_own.f k x.f0 x.f1 x.f2 x.f3 = some ((own d x).f0, (own d x).f1, (own d x).f2, (own d x).f3)
  | 0, x, h, _, _ => h.wf.elim
  | d + 1, x, h, k, hk => by
    obtain ⟨k, rfl⟩ : ∃ m, k = m + 1 := ⟨k - 1, by omega⟩
    simp only [vinculumlaw03_own.f]
    have := own_loop d x.f0 x.f1 x.f2 x.f3 x.f0 x.f1 x.f2 (400 * d) (fun y hy k hk2 => own_f d y (h.kid hy) k hk2) (by have := h.len; omega) x.f3.length k 0 (by omega) (by omega) (by have := h.len; omega)
    rw [show ((0 : Nat) : Int) = 0 from rfl, List.take_zero] at this
    exact this
/-! ### depth -/
theorem mx_le {a b c : Int} : mx a b ≤ c ↔ a ≤ c ∧ b ≤ c := by unfold mx; split <;> omega
theorem le_mx (a b : Int) : a ≤ mx a b := by unfold mx; split <;> omega
theorem fold_le (l : List Int) : ∀ a c : Int, l.foldl mx a ≤ c ↔ a ≤ c ∧ ∀ x ∈ l, x ≤ c := by
  induction l with
  | nil => intro a c; simp
  | cons x r ih =>
    intro a c
    rw [List.foldl_cons, ih, mx_le]
    simp only [List.mem_cons, forall_eq_or_imp]
    constructor
    · rintro ⟨⟨h1, h2⟩, h3⟩; exact ⟨h1, h2, h3⟩
    · rintro ⟨h1, h2, h3⟩; exact ⟨⟨h1, h2⟩, h3⟩
theorem fold_ge (l : List Int) : ∀ a : Int, a ≤ l.foldl mx a := fun a => ((fold_le l a _).1 (Int.le_refl _)).1
def depthS : Nat → R → Int
  | 0, _ => 1
  | d + 1, x => if x.f0 = 3 then (x.f3.map (depthS d)).foldl mx 0 + 1 else 1
theorem depth_pos : ∀ (d : Nat) (x : R), 1 ≤ depthS d x
  | 0, _ => Int.le_refl _
  | d + 1, x => by
    simp only [depthS]
    split
    · have := fold_ge (x.f3.map (depthS d)) 0
      omega
    · omega
theorem depth_le : ∀ (d : Nat) (x : R), depthS d x ≤ (nodes d x : Int)
  | 0, _ => by simp [depthS, nodes]
  | d + 1, x => by
    simp only [depthS, nodes]
    split
    · have := (fold_le (x.f3.map (depthS d)) 0 (sumN (x.f3.map (nodes d)) : Int)).2 ⟨by omega, fun y hy => by
        obtain ⟨z, hz, rfl⟩ := List.mem_map.1 hy
        have h1 := depth_le d z
        have h2 := sumN_mem (nodes d) x.f3 z hz
        omega⟩
      omega
    · omega
theorem fold_drop {l : List R} (d : Nat) {i : Nat} (h : i < l.length) (a : Int) : ((l.drop i).map (depthS d)).foldl mx a = ((l.drop (i + 1)).map (depthS d)).foldl mx (mx a (depthS d l[i])) := by
  rw [List.drop_eq_getElem_cons h, List.map_cons, List.foldl_cons]
theorem fold_small {d : Nat} {x : R} (h : Small (d + 1) x) : (x.f3.map (depthS d)).foldl mx 0 ≤ 300 := (fold_le _ _ _).2 ⟨by omega, fun y hy => by
  obtain ⟨z, hz, rfl⟩ := List.mem_map.1 hy
  have h1 := depth_le d z
  have h2 := (h.kid hz).few
  omega⟩
/-! ### proper -/
def nodeS (x : R) : Bool := decide (1 ≤ x.f0 ∧ x.f0 ≤ 3 ∧ (x.f0 ≠ 1 → x.f1 = 0) ∧ (x.f0 ≠ 2 → x.f2.toList = []) ∧ (x.f0 ≠ 3 → x.f3.length = 0))
def properS : Nat → R → Bool
  | 0, _ => false
  | d + 1, x => nodeS x && x.f3.all (properS d)
theorem coproper_loop (d : Nat) (l : List R) (m : Int) (hm : 1 ≤ m ∧ m ≤ 64) (K : Nat) (ih : ∀ x ∈ l, ∀ k, K ≤ k → codec_proper.f k (own d x).f0 (own d x).f1 (own d x).f2 (own d x).f3 (m - 1) = some (properS d x && decide (depthS d x ≤ m - 1))) (hlen : l.length ≤ 300) (e : Nat) :
    ∀ (k i : Nat), i ≤ l.length → l.length - i = e → K + e < k → codec_proper.l0 k m (l.map (own d)) (l.length : Int) (i : Int) = some ((l.drop i).all (fun x => properS d x && decide (depthS d x ≤ m - 1))) := by
  induction e with
  | zero =>
    intro k i hi he hk
    obtain ⟨k, rfl⟩ : ∃ m, k = m + 1 := ⟨k - 1, by omega⟩
    simp only [codec_proper.l0]
    rw [if_neg (by omega), List.drop_of_length_le (by omega)]
    rfl
  | succ e ihe =>
    intro k i hi he hk
    obtain ⟨k, rfl⟩ : ∃ m, k = m + 1 := ⟨k - 1, by omega⟩
    have hlt : i < l.length := by omega
    simp only [codec_proper.l0]
    rw [if_pos (by omega), if_pos (by omega), if_pos (by rw [List.length_map]; omega), rdV (by rw [List.length_map]; omega), List.getElem_map, show wrap64 (m - 1) = m - 1 from by unfold wrap64; omega, ih l[i] (List.getElem_mem hlt) k (by omega), Option.bind_some, List.drop_eq_getElem_cons hlt, List.all_cons]
    cases hs : (properS d l[i] && decide (depthS d l[i] ≤ m - 1)) with
    | false => simp
    | true =>
      rw [if_pos rfl, len_succ hlt (by omega), ihe k (i + 1) (by omega) (by omega) (by omega)]
      simp
theorem all_split (d : Nat) (m : Int) (hm : 1 ≤ m) (l : List R) : l.all (fun x => properS d x && decide (depthS d x ≤ m - 1)) = (l.all (properS d) && decide ((l.map (depthS d)).foldl mx 0 + 1 ≤ m)) := by
  rw [Bool.eq_iff_iff]
  simp only [List.all_eq_true, Bool.and_eq_true, decide_eq_true_eq]
  have hf := fold_le (l.map (depthS d)) 0 (m - 1)
  constructor
  · intro h
    refine ⟨fun x hx => (h x hx).1, ?_⟩
    have := hf.2 ⟨by omega, fun y hy => by obtain ⟨z, hz, rfl⟩ := List.mem_map.1 hy; exact (h z hz).2⟩
    omega
  · rintro ⟨h1, h2⟩ x hx
    exact ⟨h1 x hx, (hf.1 (by omega)).2 _ (List.mem_map.2 ⟨x, hx, rfl⟩)⟩
theorem coproper_f : ∀ (d : Nat) (x : R), Small d x → ∀ (m : Int), 0 ≤ m → m ≤ 64 → ∀ k, 400 * d ≤ k → codec_proper.f k (own d x).f0 (own d x).f1 (own d x).f2 (own d x).f3 m = some (properS d x && decide (depthS d x ≤ m))
  | 0, x, h, _, _, _, _, _ => h.wf.elim
  | d + 1, x, h, m, hm0, hm, k, hk => by
    obtain ⟨k, rfl⟩ : ∃ m, k = m + 1 + 1 := ⟨k - 2, by omega⟩
    have hl := h.len
    change codec_proper.f (k + 1 + 1) x.f0 x.f1 x.f2 (x.f3.map (own d)) m = _
    simp only [codec_proper.f]
    have hpos := depth_pos (d + 1) x
    by_cases cm : m = 0
    · rw [if_pos cm, decide_eq_false (p := depthS (d + 1) x ≤ m) (by omega), Bool.and_false]
    rw [if_neg cm]
    have nil : x.f3.length = 0 → x.f3 = [] := List.length_eq_zero_iff.1
    simp only [properS, nodeS, List.length_map]
    by_cases c1 : x.f0 = 1
    · rw [if_pos c1, decide_eq_true (p := depthS (d + 1) x ≤ m) (by simp only [depthS]; rw [if_neg (show ¬ x.f0 = 3 by omega)]; omega)]
      by_cases c2 : x.f2.toList = []
      · rw [if_pos c2]
        by_cases c3 : x.f3.length = 0
        · rw [decide_eq_true (p := _ ∧ _) ⟨by omega, by omega, fun h => absurd c1 h, fun _ => c2, fun _ => c3⟩, nil c3]
          simp
        · rw [decide_eq_false (p := _ ∧ _) (fun hh => c3 (hh.2.2.2.2 (by omega)))]
          simp [c3]
      · rw [if_neg c2, decide_eq_false (p := _ ∧ _) (fun hh => c2 (hh.2.2.2.1 (by omega)))]
        rfl
    rw [if_neg c1]
    by_cases c2 : x.f0 = 2
    · rw [if_pos c2, decide_eq_true (p := depthS (d + 1) x ≤ m) (by simp only [depthS]; rw [if_neg (show ¬ x.f0 = 3 by omega)]; omega)]
      by_cases c3 : x.f1 = 0
      · rw [if_pos c3]
        by_cases c4 : x.f3.length = 0
        · rw [decide_eq_true (p := _ ∧ _) ⟨by omega, by omega, fun h => c3, fun h => absurd c2 h, fun _ => c4⟩, nil c4]
          simp
        · rw [decide_eq_false (p := _ ∧ _) (fun hh => c4 (hh.2.2.2.2 (by omega)))]
          simp [c4]
      · rw [if_neg c3, decide_eq_false (p := _ ∧ _) (fun hh => c3 (hh.2.2.1 (by omega)))]
        rfl
    rw [if_neg c2]
    by_cases c3 : x.f0 = 3
    · rw [if_pos c3, show depthS (d + 1) x = (x.f3.map (depthS d)).foldl mx 0 + 1 from by simp only [depthS]; rw [if_pos c3]]
      by_cases c4 : x.f1 = 0
      · rw [if_pos c4]
        by_cases c5 : x.f2.toList = []
        · rw [show (x.f2.toList != []) = false from by rw [c5]; rfl, decide_eq_true (p := _ ∧ _) ⟨by omega, by omega, fun h => c4, fun h => c5, fun h => absurd c3 h⟩]
          simp only [codec_proper.j0, List.length_map]
          have := coproper_loop d x.f3 m ⟨by omega, hm⟩ (400 * d) (fun y hy k hk2 => coproper_f d y (h.kid hy) (m - 1) (by omega) (by omega) k hk2) (by omega) x.f3.length k 0 (by omega) (by omega) (by omega)
          rw [show ((0 : Nat) : Int) = 0 from rfl, List.drop_zero, all_split d m (by omega)] at this
          rw [if_neg (by simp), this]
          simp
        · rw [show (x.f2.toList != []) = true from by simp [c5], decide_eq_false (p := _ ∧ _) (fun hh => c5 (hh.2.2.2.1 (by omega)))]
          simp [codec_proper.j0]
      · rw [if_neg c4, decide_eq_false (p := _ ∧ _) (fun hh => c4 (hh.2.2.1 (by omega)))]
        simp [codec_proper.j0]
    · rw [if_neg c3, decide_eq_false (p := _ ∧ _) (fun hh => by have := hh.1; have := hh.2.1; omega)]
      rfl
theorem covalid_f (d : Nat) (x : R) (h : Small d x) (k : Nat) (hk : 400 * d ≤ k) : codec_Valid.f k (own d x).f0 (own d x).f1 (own d x).f2 (own d x).f3 = some (properS d x && decide (depthS d x ≤ 64)) := by
  unfold codec_Valid.f
  rw [coproper_f d x h 64 (by omega) (by omega) k hk]
  rfl
/-! ### own values -/
theorem own_list (d m : Nat) (ih : ∀ y : R, Small d y → properS d y = true → depthS d y ≤ (m : Int) → ∃ f, Enc m (own d y) f ∧ f.length ≤ 6000 * nodes d y) : ∀ (l : List R), (∀ y ∈ l, Small d y ∧ properS d y = true ∧ depthS d y ≤ (m : Int)) → ∃ b, Encs (Enc m) (l.map (own d)) b ∧ b.length ≤ 6000 * sumN (l.map (nodes d))
  | [], _ => ⟨[], rfl, by simp⟩
  | y :: r, h => by
    obtain ⟨h1, h2, h3⟩ := h y List.mem_cons_self
    obtain ⟨f, g1, g2⟩ := ih y h1 h2 h3
    obtain ⟨b, g3, g4⟩ := own_list d m ih r (fun z hz => h z (List.mem_cons_of_mem _ hz))
    refine ⟨f ++ b, ⟨f, b, rfl, g1, g3⟩, ?_⟩
    rw [List.length_append, List.map_cons, sumN_cons]
    omega
theorem toList_nil {s : ByteArray} (h : s.toList = []) : s = ⟨#[]⟩ := by
  refine empty_of_size s ?_
  have e : s.toList = s.data.toList := by first | exact ByteArray.toList_eq s | exact toList_data s | simp
  rw [e] at h
  have := data_length s
  rw [h] at this
  exact this.symm
theorem own_enc : ∀ (d m : Nat) (x : R), Small d x → properS d x = true → depthS d x ≤ (m : Int) → ∃ l, Enc m (own d x) l ∧ l.length ≤ 6000 * nodes d x
  | 0, _, x, h, _, _ => h.wf.elim
  | d + 1, m, x, h, hp, hd => by
    have hpos := depth_pos (d + 1) x
    obtain ⟨m, rfl⟩ : ∃ q, m = q + 1 := ⟨m - 1, by omega⟩
    simp only [properS, Bool.and_eq_true] at hp
    obtain ⟨hn, hk⟩ := hp
    have hn := of_decide_eq_true hn
    obtain ⟨n1, n2, n3, n4, n5⟩ := hn
    have hlen := h.len
    have ht := h.text
    have hw := wf64.1 h.wf.2.1
    have nil : x.f3.length = 0 → x.f3 = [] := List.length_eq_zero_iff.1
    simp only [nodes]
    by_cases k1 : x.f0 = 1
    · obtain ⟨hd, g⟩ := head_ex x.f0 (numI x.f1) (numI_range hw).1 (numI_range hw).2
      refine ⟨hd, ⟨numI x.f1, hd, [], (numI_range hw).1, (numI_range hw).2, g, (List.append_nil _).symm, .inl ⟨k1, hw.1, hw.2, toList_nil (n4 (by omega)), ?_, rfl, rfl⟩⟩, ?_⟩
      · show x.f3.map (own d) = []
        rw [nil (n5 (by omega))]
        rfl
      · have := (head_len g).2
        omega
    by_cases k2 : x.f0 = 2
    · obtain ⟨hd, g⟩ := head_ex x.f0 (x.f2.size : Int) (by omega) (by omega)
      refine ⟨hd ++ bytesOf x.f2, ⟨(x.f2.size : Int), hd, bytesOf x.f2, by omega, by omega, g, rfl, .inr (.inl ⟨k2, n3 (by omega), ?_, rfl, rfl⟩)⟩, ?_⟩
      · show x.f3.map (own d) = []
        rw [nil (n5 (by omega))]
        rfl
      · have := (head_len g).2
        rw [List.length_append, bytesOf_length]
        omega
    · have k3 : x.f0 = 3 := by omega
      simp only [depthS] at hd
      rw [if_pos k3] at hd
      have hkids := (fold_le (x.f3.map (depthS d)) 0 (m : Int)).1 (by omega)
      obtain ⟨b, g1, g2⟩ := own_list d m (fun y hy1 hy2 hy3 => own_enc d m y hy1 hy2 hy3) x.f3 (fun y hy => ⟨h.kid hy, List.all_eq_true.1 hk y hy, hkids.2 _ (List.mem_map.2 ⟨y, hy, rfl⟩)⟩)
      obtain ⟨hd, g⟩ := head_ex x.f0 (x.f3.length : Int) (by omega) (by omega)
      refine ⟨hd ++ b, ⟨(x.f3.length : Int), hd, b, by omega, by omega, g, rfl, .inr (.inr ⟨k3, n3 (by omega), toList_nil (n4 (by omega)), ?_, g1⟩)⟩, ?_⟩
      · show (x.f3.length : Int) = ((x.f3.map (own d)).length : Int)
        rw [List.length_map]
      · have := (head_len g).2
        rw [List.length_append]
        omega
/-- Encode of a value of the program. -/
theorem own_encode (d : Nat) (x : R) (h : Small d x) : ∃ K, (∃ l, Enc 64 (own d x) l ∧ l.length ≤ 1048576 ∧ ∀ k, K ≤ k → codec_Encode.f k (own d x).f0 (own d x).f1 (own d x).f2 (own d x).f3 = some (l, 0)) ∨
    (∃ e, e ≠ 0 ∧ ∀ k, K ≤ k → codec_Encode.f k (own d x).f0 (own d x).f1 (own d x).f2 (own d x).f3 = some ([], e)) := by
  cases hv : (properS d x && decide (depthS d x ≤ 64)) with
  | false =>
    refine ⟨400 * d, .inr ⟨1, by decide, fun k hk => ?_⟩⟩
    unfold codec_Encode.f
    rw [covalid_f d x h k hk, hv, Option.bind_some, if_neg (by decide)]
  | true =>
    simp only [Bool.and_eq_true] at hv
    obtain ⟨l, h1, h2⟩ := own_enc d 64 x h hv.1 (of_decide_eq_true hv.2)
    have := h.few
    obtain ⟨K, h3 | h3⟩ := encode_enc (own d x) l h1 (by omega)
    · exact ⟨K, .inl ⟨l, h1, h3.1, h3.2⟩⟩
    · exact ⟨K, .inr ⟨6, by decide, h3.2⟩⟩
end Go.Proofs.Ytploigkfnkgjiaa.RO
