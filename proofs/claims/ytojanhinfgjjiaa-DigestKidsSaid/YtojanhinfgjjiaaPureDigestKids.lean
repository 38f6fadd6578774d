/- DigestTree and DigestKids: the digest of a tree of at most 200 nodes is the reference's, and that of Join with the digests of its kids. -/
import Derived.Test.YtojanhinfgjjiaaTJ04
namespace Go.Proofs.Ytojanhinfgjjiaa.Pure
set_option linter.unusedVariables false
set_option linter.unusedSimpArgs false
open Go.RowKit Go.Proofs.Ytojanhinfgjjiaa.PT Go.Proofs.Ytojanhinfgjjiaa.J04 Go.Proofs.YtojanhinfgjjiaaW.PrintWords

abbrev S := S38
theorem wf64 {x : Int} : (Lit.int .i64 x).wf = true ↔ -9223372036854775808 ≤ x ∧ x ≤ 9223372036854775807 := by
  simp [Lit.wf, IntKind.min, IntKind.max, IntKind.signed, IntKind.bits]
def Wf38 : Nat → S38 → Prop
  | 0, _ => False
  | d + 1, x => ((Lit.int .i64 x.f0).wf = true) ∧ (x.f1.size ≤ 140737488351232) ∧ ((Lit.int .i64 x.f2).wf = true) ∧ (x.f3.length * 56 ≤ 140737488351232 ∧ x.f3.length ≤ maxLen ∧ ∀ v ∈ x.f3, Wf38 d v)
/-- Both digests of a node come to one and the same number, whatever the rounds from some on. -/
def Same (a : Int) (b : ByteArray) (c : Int) (l : List S) : Prop := ∃ K t, ∀ k, K ≤ k → digest_Tree.f k a b c l = some t ∧ vinculumref04_Tree.f k a b c l = some t
def SameN (x : S) : Prop := Same x.f0 x.f1 x.f2 x.f3
theorem rd_node {l : List S} {i : Nat} (h : i < l.length) : rd_T38 l (i : Int) = l[i] := by simp [rd_T38, h]

/-- A node whose kids' digests are known. -/
theorem same_of (a : Int) (b : ByteArray) (c : Int) (l : List S) (hb : b.size ≤ 140737488351232) (hl : l.length ≤ 300) (hk : ∀ x ∈ l, SameN x) : ∃ ts : List Int, ts.length = l.length ∧ (∃ K, ∀ k, K ≤ k → ∀ i (h : i < l.length), digest_Tree.f k l[i].f0 l[i].f1 l[i].f2 l[i].f3 = ts[i]? ∧ vinculumref04_Tree.f k l[i].f0 l[i].f1 l[i].f2 l[i].f3 = ts[i]?) := by
  induction l with
  | nil => exact ⟨[], rfl, 0, fun k _ i h => absurd h (Nat.not_lt_zero _)⟩
  | cons x r ih =>
    obtain ⟨ts, hts, K, hK⟩ := ih (by simp at hl; omega) (fun y hy => hk y (List.mem_cons_of_mem _ hy))
    obtain ⟨K', t, h'⟩ := hk x List.mem_cons_self
    refine ⟨t :: ts, by simp [hts], max K K', fun k hkk i h => ?_⟩
    cases i with
    | zero => exact h' k (by omega)
    | succ i => exact hK k (by omega) i (by simpa using h)

theorem tree_loop (a : Int) (b : ByteArray) (c : Int) (l : List S) (hb : b.size ≤ 140737488351232) (hl : l.length ≤ 300) (ts : List Int) (hts : ts.length = l.length) (K : Nat) (hK : ∀ k, K ≤ k → ∀ i (h : i < l.length), digest_Tree.f k l[i].f0 l[i].f1 l[i].f2 l[i].f3 = ts[i]? ∧ vinculumref04_Tree.f k l[i].f0 l[i].f1 l[i].f2 l[i].f3 = ts[i]?) (d : Nat) :
    ∀ (k i : Nat), i ≤ l.length → l.length - i = d → K + d + b.size + 4000 < k → digest_Tree.l0 k (ts.take i) l (l.length : Int) (i : Int) a b c l = some (joinS a b c ts) := by
  induction d with
  | zero =>
    intro k i hi hd hk
    obtain ⟨k, rfl⟩ : ∃ m, k = m + 1 := ⟨k - 1, by omega⟩
    simp only [digest_Tree.l0]
    rw [if_neg (by omega), List.take_of_length_le (by omega), join_f a b c ts (by omega) k (by omega)]
    rfl
  | succ d ih =>
    intro k i hi hd hk
    obtain ⟨k, rfl⟩ : ∃ m, k = m + 1 := ⟨k - 1, by omega⟩
    have hlt : i < l.length := by omega
    simp only [digest_Tree.l0]
    rw [if_pos (by omega), if_pos (by omega), if_pos (by omega), rd_node hlt, (hK k (by omega) i hlt).1, List.getElem?_eq_getElem (by omega)]
    simp only [Option.bind_some]
    rw [if_pos (by rw [List.length_take]; omega), len_succ hlt (by omega), List.take_append_getElem (by omega)]
    exact ih k (i + 1) (by omega) (by omega) (by omega)
theorem reftree_loop (a : Int) (b : ByteArray) (c : Int) (l : List S) (hb : b.size ≤ 140737488351232) (hl : l.length ≤ 300) (ts : List Int) (hts : ts.length = l.length) (K : Nat) (hK : ∀ k, K ≤ k → ∀ i (h : i < l.length), digest_Tree.f k l[i].f0 l[i].f1 l[i].f2 l[i].f3 = ts[i]? ∧ vinculumref04_Tree.f k l[i].f0 l[i].f1 l[i].f2 l[i].f3 = ts[i]?) (d : Nat) :
    ∀ (k i : Nat), i ≤ l.length → l.length - i = d → K + d + b.size + 4000 < k → vinculumref04_Tree.l0 k (ts.take i) (i : Int) a b c l = some (joinS a b c ts) := by
  induction d with
  | zero =>
    intro k i hi hd hk
    obtain ⟨k, rfl⟩ : ∃ m, k = m + 1 := ⟨k - 1, by omega⟩
    simp only [vinculumref04_Tree.l0]
    rw [if_neg (by omega), List.take_of_length_le (by omega), refjoin_f a b c ts (by omega) k (by omega)]
    rfl
  | succ d ih =>
    intro k i hi hd hk
    obtain ⟨k, rfl⟩ : ∃ m, k = m + 1 := ⟨k - 1, by omega⟩
    have hlt : i < l.length := by omega
    simp only [vinculumref04_Tree.l0]
    rw [if_pos (by omega), if_pos (by omega), rd_node hlt, (hK k (by omega) i hlt).2, List.getElem?_eq_getElem (by omega)]
    simp only [Option.bind_some]
    rw [if_pos (by rw [List.length_take]; omega), len_succ hlt (by omega), List.take_append_getElem (by omega)]
    exact ih k (i + 1) (by omega) (by omega) (by omega)
theorem node_same (a : Int) (b : ByteArray) (c : Int) (l : List S) (hb : b.size ≤ 140737488351232) (hl : l.length ≤ 300) (hk : ∀ x ∈ l, SameN x) : Same a b c l := by
  obtain ⟨ts, hts, K, hK⟩ := same_of a b c l hb hl hk
  refine ⟨K + l.length + b.size + 5000, joinS a b c ts, fun k hkk => ?_⟩
  obtain ⟨k, rfl⟩ : ∃ m, k = m + 1 := ⟨k - 1, by omega⟩
  have e1 := tree_loop a b c l hb hl ts hts K hK l.length k 0 (by omega) (by omega) (by omega)
  rw [List.take_zero, show ((0 : Nat) : Int) = 0 from rfl] at e1
  have e2 := reftree_loop a b c l hb hl ts hts K hK l.length k 0 (by omega) (by omega) (by omega)
  rw [List.take_zero, show ((0 : Nat) : Int) = 0 from rfl] at e2
  refine ⟨?_, by simp only [vinculumref04_Tree.f]; exact e2⟩
  simp only [digest_Tree.f]
  rw [if_pos (by omega), if_pos (by omega)]
  exact e1

/-- size comes to a number; where it lies below the limit, all kids were counted, and so on down. -/
theorem size_loop (most : Int) (a : Int) (b : ByteArray) (c : Int) (l : List S) (hm : 1 ≤ most ∧ most ≤ 201)
    (ih : ∀ x ∈ l, ∀ m : Int, 1 ≤ m → m ≤ 201 → ∃ K r, (∀ k, K ≤ k → vinculumlaw04_size.f k x.f0 x.f1 x.f2 x.f3 m = some r) ∧ 1 ≤ r ∧ r ≤ m ∧ (r < m → SameN x)) (hlen : l.length ≤ 140737488351232) (d : Nat) :
    ∀ (i : Nat) (o : Int), i ≤ l.length → l.length - i = d → 1 ≤ o → o ≤ most → (i : Int) + 1 ≤ o → (∀ j (h : j < l.length), j < i → o < most → SameN l[j]) →
      ∃ K r, (∀ k, K ≤ k → vinculumlaw04_size.l0 k most o (i : Int) a b c l = some r) ∧ 1 ≤ r ∧ r ≤ most ∧ o ≤ r ∧ (r < most → (l.length : Int) + 1 ≤ r ∧ ∀ x ∈ l, SameN x) := by
  induction d with
  | zero =>
    intro i o hi hd h1 h2 h3 hs
    refine ⟨1, o, fun k hk => ?_, h1, h2, Int.le_refl _, fun hlt => ⟨by omega, fun x hx => ?_⟩⟩
    · obtain ⟨k, rfl⟩ : ∃ m, k = m + 1 := ⟨k - 1, by omega⟩
      simp only [vinculumlaw04_size.l0]
      rw [if_neg (by omega)]
    · obtain ⟨j, hj, rfl⟩ := List.mem_iff_getElem.1 hx
      exact hs j hj (by omega) hlt
  | succ d ihd =>
    intro i o hi hd h1 h2 h3 hs
    have hlt : i < l.length := by omega
    by_cases ho : o < most
    · obtain ⟨K1, r1, hK1, q1, q2, q3⟩ := ih l[i] (List.getElem_mem hlt) (most - o) (by omega) (by omega)
      obtain ⟨K2, r2, hK2, p1, p2, p3, p4⟩ := ihd (i + 1) (o + r1) (by omega) (by omega) (by omega) (by omega) (by omega) (fun j hj hji hom => by
        by_cases e : j = i
        · subst e
          exact q3 (by omega)
        · exact hs j hj (by omega) (by omega))
      refine ⟨max K1 K2 + 1, r2, fun k hk => ?_, p1, p2, by omega, p4⟩
      obtain ⟨k, rfl⟩ : ∃ m, k = m + 1 := ⟨k - 1, by omega⟩
      simp only [vinculumlaw04_size.l0]
      rw [if_pos (by omega), if_pos ho, if_pos (by omega), rd_node hlt, show wrap64 (most - o) = most - o from by unfold wrap64; omega, hK1 k (by omega)]
      simp only [Option.bind_some]
      rw [show wrap64 (o + r1) = o + r1 from by unfold wrap64; omega, len_succ hlt (by omega)]
      exact hK2 k (by omega)
    · refine ⟨1, o, fun k hk => ?_, h1, h2, Int.le_refl _, fun hlt => absurd hlt (by omega)⟩
      obtain ⟨k, rfl⟩ : ∃ m, k = m + 1 := ⟨k - 1, by omega⟩
      simp only [vinculumlaw04_size.l0]
      rw [if_pos (by omega), if_neg ho]

theorem size_node (m : Int) (hm : 1 ≤ m) (hm2 : m ≤ 201) (a : Int) (b : ByteArray) (c : Int) (l : List S) (hb : b.size ≤ 140737488351232) (hlen : l.length ≤ 140737488351232)
    (ih : ∀ x ∈ l, ∀ m : Int, 1 ≤ m → m ≤ 201 → ∃ K r, (∀ k, K ≤ k → vinculumlaw04_size.f k x.f0 x.f1 x.f2 x.f3 m = some r) ∧ 1 ≤ r ∧ r ≤ m ∧ (r < m → SameN x)) :
    ∃ K r, (∀ k, K ≤ k → vinculumlaw04_size.f k a b c l m = some r) ∧ 1 ≤ r ∧ r ≤ m ∧ (r < m → l.length ≤ 300 ∧ (∀ x ∈ l, SameN x) ∧ Same a b c l) := by
  obtain ⟨K, r, hK, h1, h2, _, h4⟩ := size_loop m a b c l ⟨hm, hm2⟩ ih hlen l.length 0 1 (by omega) (by omega) (by omega) hm (by omega) (fun j _ h => absurd h (Nat.not_lt_zero _))
  refine ⟨K + 1, r, fun k hk => ?_, h1, h2, fun hlt => ?_⟩
  · obtain ⟨k, rfl⟩ : ∃ m, k = m + 1 := ⟨k - 1, by omega⟩
    simp only [vinculumlaw04_size.f]
    exact hK k (by omega)
  · obtain ⟨g1, g2⟩ := h4 hlt
    exact ⟨by omega, g2, node_same a b c l hb (by omega) g2⟩

theorem size_tree : ∀ (d : Nat) (x : S), Wf38 d x → ∀ m : Int, 1 ≤ m → m ≤ 201 → ∃ K r, (∀ k, K ≤ k → vinculumlaw04_size.f k x.f0 x.f1 x.f2 x.f3 m = some r) ∧ 1 ≤ r ∧ r ≤ m ∧ (r < m → SameN x)
  | 0, x, h, _, _, _ => h.elim
  | d + 1, x, h, m, hm, hm2 => by
    obtain ⟨_, hb, _, hl, _, hk⟩ := h
    obtain ⟨K, r, h1, h2, h3, h4⟩ := size_node m hm hm2 x.f0 x.f1 x.f2 x.f3 hb (by omega) (fun y hy => size_tree d y (hk y hy))
    exact ⟨K, r, h1, h2, h3, fun hlt => (h4 hlt).2.2⟩

theorem DigestTree (a : Int) (b : ByteArray) (c : Int) (l : List S) (w1 : (Lit.int .i64 a).wf = true) (w2 : b.size ≤ 140737488351232) (w3 : (Lit.int .i64 c).wf = true) (w4 : l.length * 56 ≤ 140737488351232 ∧ l.length ≤ maxLen ∧ ∀ v ∈ l, ∃ d, Wf38 d v) :
    ∃ k, vinculumlaw04_DigestTree.f k a b c l = some true := by
  obtain ⟨hl, _, hk⟩ := w4
  obtain ⟨K, r, hK, h1, h2, h3⟩ := size_node 201 (by omega) (by omega) a b c l w2 (by omega) (fun x hx => by obtain ⟨d, hd⟩ := hk x hx; exact size_tree d x hd)
  by_cases hr : r > 200
  · refine ⟨K + 10, ?_⟩
    unfold vinculumlaw04_DigestTree.f
    rw [awake04 _ (by omega), hK _ (by omega)]
    simp only [Option.bind_some, if_true]
    rw [decide_eq_true hr]
    simp only [vinculumlaw04_DigestTree.j0, if_true]
    rw [awake04 _ (by omega)]
    rfl
  · obtain ⟨_, _, K2, t, hK2⟩ := h3 (by omega)
    refine ⟨K + K2 + 10, ?_⟩
    unfold vinculumlaw04_DigestTree.f
    rw [awake04 _ (by omega), hK _ (by omega)]
    simp only [Option.bind_some, if_true]
    rw [decide_eq_false hr]
    simp only [vinculumlaw04_DigestTree.j0]
    rw [if_neg (by simp), (hK2 _ (by omega)).1, (hK2 _ (by omega)).2]
    simp

theorem kids_loop (a : Int) (b : ByteArray) (c : Int) (l : List S) (hb : b.size ≤ 140737488351232) (hl : l.length ≤ 300) (ts : List Int) (hts : ts.length = l.length) (K : Nat) (hK : ∀ k, K ≤ k → ∀ i (h : i < l.length), digest_Tree.f k l[i].f0 l[i].f1 l[i].f2 l[i].f3 = ts[i]? ∧ vinculumref04_Tree.f k l[i].f0 l[i].f1 l[i].f2 l[i].f3 = ts[i]?) (hT : ∀ k, K + l.length + b.size + 5000 ≤ k → digest_Tree.f k a b c l = some (joinS a b c ts)) (d : Nat) :
    ∀ (k i : Nat), i ≤ l.length → l.length - i = d → K + l.length + d + b.size + 6000 < k → vinculumlaw04_DigestKids.l0 k (ts.take i) l (l.length : Int) (i : Int) a b c l = some true := by
  induction d with
  | zero =>
    intro k i hi hd hk
    obtain ⟨k, rfl⟩ : ∃ m, k = m + 1 := ⟨k - 1, by omega⟩
    simp only [vinculumlaw04_DigestKids.l0]
    rw [if_neg (by omega), List.take_of_length_le (by omega), join_f a b c ts (by omega) k (by omega), hT k (by omega)]
    simp
  | succ d ih =>
    intro k i hi hd hk
    obtain ⟨k, rfl⟩ : ∃ m, k = m + 1 := ⟨k - 1, by omega⟩
    have hlt : i < l.length := by omega
    simp only [vinculumlaw04_DigestKids.l0]
    rw [if_pos (by omega), if_pos (by omega), if_pos (by omega), rd_node hlt, (hK k (by omega) i hlt).1, List.getElem?_eq_getElem (by omega)]
    simp only [Option.bind_some]
    rw [if_pos (by rw [List.length_take]; omega), len_succ hlt (by omega), List.take_append_getElem (by omega)]
    exact ih k (i + 1) (by omega) (by omega) (by omega)

theorem DigestKids (a : Int) (b : ByteArray) (c : Int) (l : List S) (w1 : (Lit.int .i64 a).wf = true) (w2 : b.size ≤ 140737488351232) (w3 : (Lit.int .i64 c).wf = true) (w4 : l.length * 56 ≤ 140737488351232 ∧ l.length ≤ maxLen ∧ ∀ v ∈ l, ∃ d, Wf38 d v) :
    ∃ k, vinculumlaw04_DigestKids.f k a b c l = some true := by
  obtain ⟨hl, _, hk⟩ := w4
  obtain ⟨K, r, hK, h1, h2, h3⟩ := size_node 201 (by omega) (by omega) a b c l w2 (by omega) (fun x hx => by obtain ⟨d, hd⟩ := hk x hx; exact size_tree d x hd)
  by_cases hr : r > 200
  · refine ⟨K + 10, ?_⟩
    unfold vinculumlaw04_DigestKids.f
    rw [awake04 _ (by omega), hK _ (by omega)]
    simp only [Option.bind_some, if_true]
    rw [decide_eq_true hr]
    simp only [vinculumlaw04_DigestKids.j0, if_true]
    rw [awake04 _ (by omega)]
    rfl
  · obtain ⟨hl3, hkids, _⟩ := h3 (by omega)
    obtain ⟨ts, hts, K2, hK2⟩ := same_of a b c l w2 hl3 hkids
    have hT : ∀ k, K2 + l.length + b.size + 5000 ≤ k → digest_Tree.f k a b c l = some (joinS a b c ts) := by
      intro k hkk
      obtain ⟨k, rfl⟩ : ∃ m, k = m + 1 := ⟨k - 1, by omega⟩
      have e1 := tree_loop a b c l w2 hl3 ts hts K2 hK2 l.length k 0 (by omega) (by omega) (by omega)
      rw [List.take_zero, show ((0 : Nat) : Int) = 0 from rfl] at e1
      simp only [digest_Tree.f]
      rw [if_pos (by omega), if_pos (by omega)]
      exact e1
    refine ⟨K + K2 + 2 * l.length + b.size + 7000, ?_⟩
    unfold vinculumlaw04_DigestKids.f
    rw [awake04 _ (by omega), hK _ (by omega)]
    simp only [Option.bind_some, if_true]
    rw [decide_eq_false hr]
    obtain ⟨q, hq⟩ : ∃ q, K + K2 + 2 * l.length + b.size + 7000 = q + 1 := ⟨K + K2 + 2 * l.length + b.size + 6999, rfl⟩
    rw [hq]
    simp only [vinculumlaw04_DigestKids.j0]
    rw [if_neg (by simp)]
    have e := kids_loop a b c l w2 hl3 ts hts K2 hK2 hT l.length q 0 (by omega) (by omega) (by omega)
    rwa [List.take_zero, show ((0 : Nat) : Int) = 0 from rfl] at e
end Go.Proofs.Ytojanhinfgjjiaa.Pure
