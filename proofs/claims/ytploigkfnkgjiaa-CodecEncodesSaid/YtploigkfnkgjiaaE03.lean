/- Layer 3's values: which are valid, how deep they are, and their bytes. Lemmas only. -/
import Derived.Test.YtploigkfnkgjiaaT03
import Derived.Laws.BitsLemmas
namespace Go.Proofs.Ytploigkfnkgjiaa.E03
set_option linter.unusedVariables false
set_option linter.unusedSimpArgs false
open Go.RowKit Go.Proofs.Ytploigkfnkgjiaa.PE Go.Proofs.Ytploigkfnkgjiaa.T03 Go.Proofs.YtploigkfnkgjiaaW.PrintWords Go.Proofs.YtploigkfnkgjiaaW.PrintMore

/-! ### depth -/
theorem mx_le {a b c : Int} : mx a b ≤ c ↔ a ≤ c ∧ b ≤ c := by unfold mx; split <;> omega
theorem le_mx (a b : Int) : a ≤ mx a b := by unfold mx; split <;> omega
theorem fold_le (l : List Int) : ∀ a c : Int, l.foldl mx a ≤ c ↔ a ≤ c ∧ ∀ x ∈ l, x ≤ c := by
  induction l with
  | nil => intro a c; simp
  | cons x r ih =>
    intro a c
    rw [List.foldl_cons, ih, mx_le]
    simp only [List.mem_cons, forall_eq_or_imp]
    constructor
    · rintro ⟨⟨h1, h2⟩, h3⟩; exact ⟨h1, h2, h3⟩
    · rintro ⟨h1, h2, h3⟩; exact ⟨⟨h1, h2⟩, h3⟩
theorem fold_ge (l : List Int) : ∀ a : Int, a ≤ l.foldl mx a := fun a => ((fold_le l a _).1 (Int.le_refl _)).1
def depthS : Nat → R → Int
  | 0, _ => 1
  | d + 1, x => if x.f0 = 3 then (x.f3.map (depthS d)).foldl mx 0 + 1 else 1
theorem depth_pos : ∀ (d : Nat) (x : R), 1 ≤ depthS d x
  | 0, _ => Int.le_refl _
  | d + 1, x => by
    simp only [depthS]
    split
    · have := fold_ge (x.f3.map (depthS d)) 0
      omega
    · omega
theorem depth_le : ∀ (d : Nat) (x : R), depthS d x ≤ (nodes d x : Int)
  | 0, _ => by simp [depthS, nodes]
  | d + 1, x => by
    simp only [depthS, nodes]
    split
    · have := (fold_le (x.f3.map (depthS d)) 0 (sumN (x.f3.map (nodes d)) : Int)).2 ⟨by omega, fun y hy => by
        obtain ⟨z, hz, rfl⟩ := List.mem_map.1 hy
        have h1 := depth_le d z
        have h2 := sumN_mem (nodes d) x.f3 z hz
        omega⟩
      omega
    · omega
theorem fold_drop {l : List R} (d : Nat) {i : Nat} (h : i < l.length) (a : Int) : ((l.drop i).map (depthS d)).foldl mx a = ((l.drop (i + 1)).map (depthS d)).foldl mx (mx a (depthS d l[i])) := by
  rw [List.drop_eq_getElem_cons h, List.map_cons, List.foldl_cons]
theorem fold_small {d : Nat} {x : R} (h : Small (d + 1) x) : (x.f3.map (depthS d)).foldl mx 0 ≤ 300 := (fold_le _ _ _).2 ⟨by omega, fun y hy => by
  obtain ⟨z, hz, rfl⟩ := List.mem_map.1 hy
  have h1 := depth_le d z
  have h2 := (h.kid hz).few
  omega⟩
theorem refdepth_loop (d : Nat) (a b : Int) (c : ByteArray) (l : List R) (K : Nat) (ih : ∀ x ∈ l, ∀ k, K ≤ k → vinculumref03_Depth.f k x.f0 x.f1 x.f2 x.f3 = some (depthS d x)) (hlen : l.length ≤ 300) (e : Nat) :
    ∀ (k i : Nat) (o : Int), i ≤ l.length → l.length - i = e → K + e < k → vinculumref03_Depth.l0 k o (i : Int) a b c l = some (wrap64 (((l.drop i).map (depthS d)).foldl mx o + 1)) := by
  induction e with
  | zero =>
    intro k i o hi he hk
    obtain ⟨k, rfl⟩ : ∃ m, k = m + 1 := ⟨k - 1, by omega⟩
    simp only [vinculumref03_Depth.l0]
    rw [if_neg (by omega), List.drop_of_length_le (by omega)]
    rfl
  | succ e ihe =>
    intro k i o hi he hk
    obtain ⟨k, rfl⟩ : ∃ m, k = m + 1 := ⟨k - 1, by omega⟩
    have hlt : i < l.length := by omega
    simp only [vinculumref03_Depth.l0]
    rw [if_pos (by omega), if_pos (by omega), rdR hlt, ih l[i] (List.getElem_mem hlt) k (by omega), Option.bind_some, len_succ hlt (by omega), ihe k (i + 1) _ (by omega) (by omega) (by omega), fold_drop d hlt]
theorem refdepth_f : ∀ (d : Nat) (x : R), Small d x → ∀ k, 400 * d ≤ k → vinculumref03_Depth.f k x.f0 x.f1 x.f2 x.f3 = some (depthS d x)
  | 0, x, h, _, _ => h.wf.elim
  | d + 1, x, h, k, hk => by
    obtain ⟨k, rfl⟩ : ∃ m, k = m + 1 := ⟨k - 1, by omega⟩
    have hl := h.len
    simp only [vinculumref03_Depth.f, depthS]
    by_cases c : x.f0 = 3
    · rw [if_pos c, if_pos c]
      have := refdepth_loop d x.f0 x.f1 x.f2 x.f3 (400 * d) (fun y hy k hk2 => refdepth_f d y (h.kid hy) k hk2) (by omega) x.f3.length k 0 0 (by omega) (by omega) (by omega)
      rw [show ((0 : Nat) : Int) = 0 from rfl, List.drop_zero] at this
      rw [this]
      have h1 := fold_small h
      have h2 := fold_ge (x.f3.map (depthS d)) 0
      congr 1
      unfold wrap64
      omega
    · rw [if_neg c, if_neg c]
      rfl
theorem codepth_loop (d : Nat) (l : List R) (K : Nat) (ih : ∀ x ∈ l, ∀ k, K ≤ k → codec_Depth.f k (own d x).f0 (own d x).f1 (own d x).f2 (own d x).f3 = some (depthS d x)) (hlen : l.length ≤ 300) (e : Nat) :
    ∀ (k i : Nat) (o : Int), i ≤ l.length → l.length - i = e → K + e < k → codec_Depth.l0 k o (l.map (own d)) (l.length : Int) (i : Int) = some (wrap64 (((l.drop i).map (depthS d)).foldl mx o + 1)) := by
  induction e with
  | zero =>
    intro k i o hi he hk
    obtain ⟨k, rfl⟩ : ∃ m, k = m + 1 := ⟨k - 1, by omega⟩
    simp only [codec_Depth.l0]
    rw [if_neg (by omega), List.drop_of_length_le (by omega)]
    rfl
  | succ e ihe =>
    intro k i o hi he hk
    obtain ⟨k, rfl⟩ : ∃ m, k = m + 1 := ⟨k - 1, by omega⟩
    have hlt : i < l.length := by omega
    simp only [codec_Depth.l0]
    rw [if_pos (by omega), if_pos (by omega), if_pos (by rw [List.length_map]; omega), rdV (by rw [List.length_map]; omega), List.getElem_map, ih l[i] (List.getElem_mem hlt) k (by omega), Option.bind_some, len_succ hlt (by omega), ihe k (i + 1) _ (by omega) (by omega) (by omega), fold_drop d hlt]
theorem codepth_f : ∀ (d : Nat) (x : R), Small d x → ∀ k, 400 * d ≤ k → codec_Depth.f k (own d x).f0 (own d x).f1 (own d x).f2 (own d x).f3 = some (depthS d x)
  | 0, x, h, _, _ => h.wf.elim
  | d + 1, x, h, k, hk => by
    obtain ⟨k, rfl⟩ : ∃ m, k = m + 1 := ⟨k - 1, by omega⟩
    have hl := h.len
    change codec_Depth.f (k + 1) x.f0 x.f1 x.f2 (x.f3.map (own d)) = _
    simp only [codec_Depth.f, depthS]
    by_cases c : x.f0 = 3
    · rw [if_pos c, if_pos c, List.length_map]
      have := codepth_loop d x.f3 (400 * d) (fun y hy k hk2 => codepth_f d y (h.kid hy) k hk2) (by omega) x.f3.length k 0 0 (by omega) (by omega) (by omega)
      rw [show ((0 : Nat) : Int) = 0 from rfl, List.drop_zero] at this
      rw [this]
      have h1 := fold_small h
      have h2 := fold_ge (x.f3.map (depthS d)) 0
      congr 1
      unfold wrap64
      omega
    · rw [if_neg c, if_neg c]
      rfl

/-! ### proper -/
def nodeS (x : R) : Bool := decide (1 ≤ x.f0 ∧ x.f0 ≤ 3 ∧ (x.f0 ≠ 1 → x.f1 = 0) ∧ (x.f0 ≠ 2 → x.f2.toList = []) ∧ (x.f0 ≠ 3 → x.f3.length = 0))
def properS : Nat → R → Bool
  | 0, _ => false
  | d + 1, x => nodeS x && x.f3.all (properS d)
theorem refproper_loop (d : Nat) (a b : Int) (c : ByteArray) (l : List R) (K : Nat) (ih : ∀ x ∈ l, ∀ k, K ≤ k → vinculumref03_proper.f k x.f0 x.f1 x.f2 x.f3 = some (properS d x)) (hlen : l.length ≤ 300) (e : Nat) :
    ∀ (k i : Nat), i ≤ l.length → l.length - i = e → K + e < k → vinculumref03_proper.l0 k (i : Int) a b c l = some ((l.drop i).all (properS d)) := by
  induction e with
  | zero =>
    intro k i hi he hk
    obtain ⟨k, rfl⟩ : ∃ m, k = m + 1 := ⟨k - 1, by omega⟩
    simp only [vinculumref03_proper.l0]
    rw [if_neg (by omega), List.drop_of_length_le (by omega)]
    rfl
  | succ e ihe =>
    intro k i hi he hk
    obtain ⟨k, rfl⟩ : ∃ m, k = m + 1 := ⟨k - 1, by omega⟩
    have hlt : i < l.length := by omega
    simp only [vinculumref03_proper.l0]
    rw [if_pos (by omega), if_pos (by omega), rdR hlt, ih l[i] (List.getElem_mem hlt) k (by omega), Option.bind_some, List.drop_eq_getElem_cons hlt, List.all_cons]
    cases hs : properS d l[i] with
    | false => simp
    | true =>
      rw [if_pos rfl, len_succ hlt (by omega), ihe k (i + 1) (by omega) (by omega) (by omega)]
      simp
theorem refproper_j (k : Nat) (x : R) : vinculumref03_proper.f (k + 1) x.f0 x.f1 x.f2 x.f3 = vinculumref03_proper.j0 k (!nodeS x) x.f0 x.f1 x.f2 x.f3 := by
  simp only [vinculumref03_proper.f]
  have key : ∀ v : Bool, v = !nodeS x → vinculumref03_proper.j0 k v x.f0 x.f1 x.f2 x.f3 = vinculumref03_proper.j0 k (!nodeS x) x.f0 x.f1 x.f2 x.f3 := fun v h => by rw [h]
  repeat' split
  all_goals refine key _ ?_
  all_goals simp only [nodeS]
  all_goals symm
  all_goals first
    | (rw [Bool.not_eq_true']; refine decide_eq_false (fun hh => ?_); obtain ⟨h1, h2, h3, h4, h5⟩ := hh; first | omega | (exact absurd (h4 (by omega)) (by assumption)) | (have := h3 (by omega); omega) | (have := h5 (by omega); omega))
    | (rw [Bool.not_eq_false']; refine decide_eq_true ⟨by omega, by omega, fun _ => by omega, fun _ => by first | assumption | omega, fun _ => by omega⟩)
    | (by_cases hl : x.f3.length = 0
       · rw [decide_eq_false (p := (x.f3.length : Int) > 0) (by omega), Bool.not_eq_false']; exact decide_eq_true ⟨by omega, by omega, fun _ => by omega, fun _ => by first | assumption | omega, fun _ => hl⟩
       · rw [decide_eq_true (p := (x.f3.length : Int) > 0) (by omega), Bool.not_eq_true']; exact decide_eq_false (fun hh => hl (hh.2.2.2.2 (by omega))))
theorem refproper_f : ∀ (d : Nat) (x : R), Small d x → ∀ k, 400 * d ≤ k → vinculumref03_proper.f k x.f0 x.f1 x.f2 x.f3 = some (properS d x)
  | 0, x, h, _, _ => h.wf.elim
  | d + 1, x, h, k, hk => by
    obtain ⟨k, rfl⟩ : ∃ m, k = m + 1 + 1 := ⟨k - 2, by omega⟩
    have hl := h.len
    rw [refproper_j]
    simp only [vinculumref03_proper.j0, properS]
    cases nodeS x with
    | false => simp
    | true =>
      have := refproper_loop d x.f0 x.f1 x.f2 x.f3 (400 * d) (fun y hy k hk2 => refproper_f d y (h.kid hy) k hk2) (by omega) x.f3.length k 0 (by omega) (by omega) (by omega)
      rw [show ((0 : Nat) : Int) = 0 from rfl, List.drop_zero] at this
      rw [if_neg (by simp), this]
      simp
theorem coproper_loop (d : Nat) (l : List R) (m : Int) (hm : 1 ≤ m ∧ m ≤ 64) (K : Nat) (ih : ∀ x ∈ l, ∀ k, K ≤ k → codec_proper.f k (own d x).f0 (own d x).f1 (own d x).f2 (own d x).f3 (m - 1) = some (properS d x && decide (depthS d x ≤ m - 1))) (hlen : l.length ≤ 300) (e : Nat) :
    ∀ (k i : Nat), i ≤ l.length → l.length - i = e → K + e < k → codec_proper.l0 k m (l.map (own d)) (l.length : Int) (i : Int) = some ((l.drop i).all (fun x => properS d x && decide (depthS d x ≤ m - 1))) := by
  induction e with
  | zero =>
    intro k i hi he hk
    obtain ⟨k, rfl⟩ : ∃ m, k = m + 1 := ⟨k - 1, by omega⟩
    simp only [codec_proper.l0]
    rw [if_neg (by omega), List.drop_of_length_le (by omega)]
    rfl
  | succ e ihe =>
    intro k i hi he hk
    obtain ⟨k, rfl⟩ : ∃ m, k = m + 1 := ⟨k - 1, by omega⟩
    have hlt : i < l.length := by omega
    simp only [codec_proper.l0]
    rw [if_pos (by omega), if_pos (by omega), if_pos (by rw [List.length_map]; omega), rdV (by rw [List.length_map]; omega), List.getElem_map, show wrap64 (m - 1) = m - 1 from by unfold wrap64; omega, ih l[i] (List.getElem_mem hlt) k (by omega), Option.bind_some, List.drop_eq_getElem_cons hlt, List.all_cons]
    cases hs : (properS d l[i] && decide (depthS d l[i] ≤ m - 1)) with
    | false => simp
    | true =>
      rw [if_pos rfl, len_succ hlt (by omega), ihe k (i + 1) (by omega) (by omega) (by omega)]
      simp
theorem all_split (d : Nat) (m : Int) (hm : 1 ≤ m) (l : List R) : l.all (fun x => properS d x && decide (depthS d x ≤ m - 1)) = (l.all (properS d) && decide ((l.map (depthS d)).foldl mx 0 + 1 ≤ m)) := by
  rw [Bool.eq_iff_iff]
  simp only [List.all_eq_true, Bool.and_eq_true, decide_eq_true_eq]
  have hf := fold_le (l.map (depthS d)) 0 (m - 1)
  constructor
  · intro h
    refine ⟨fun x hx => (h x hx).1, ?_⟩
    have := hf.2 ⟨by omega, fun y hy => by obtain ⟨z, hz, rfl⟩ := List.mem_map.1 hy; exact (h z hz).2⟩
    omega
  · rintro ⟨h1, h2⟩ x hx
    exact ⟨h1 x hx, (hf.1 (by omega)).2 _ (List.mem_map.2 ⟨x, hx, rfl⟩)⟩
theorem coproper_f : ∀ (d : Nat) (x : R), Small d x → ∀ (m : Int), 0 ≤ m → m ≤ 64 → ∀ k, 400 * d ≤ k → codec_proper.f k (own d x).f0 (own d x).f1 (own d x).f2 (own d x).f3 m = some (properS d x && decide (depthS d x ≤ m))
  | 0, x, h, _, _, _, _, _ => h.wf.elim
  | d + 1, x, h, m, hm0, hm, k, hk => by
    obtain ⟨k, rfl⟩ : ∃ m, k = m + 1 + 1 := ⟨k - 2, by omega⟩
    have hl := h.len
    change codec_proper.f (k + 1 + 1) x.f0 x.f1 x.f2 (x.f3.map (own d)) m = _
    simp only [codec_proper.f]
    have hpos := depth_pos (d + 1) x
    by_cases cm : m = 0
    · rw [if_pos cm, decide_eq_false (p := depthS (d + 1) x ≤ m) (by omega), Bool.and_false]
    rw [if_neg cm]
    have nil : x.f3.length = 0 → x.f3 = [] := List.length_eq_zero_iff.1
    simp only [properS, nodeS, List.length_map]
    by_cases c1 : x.f0 = 1
    · rw [if_pos c1, decide_eq_true (p := depthS (d + 1) x ≤ m) (by simp only [depthS]; rw [if_neg (show ¬ x.f0 = 3 by omega)]; omega)]
      by_cases c2 : x.f2.toList = []
      · rw [if_pos c2]
        by_cases c3 : x.f3.length = 0
        · rw [decide_eq_true (p := _ ∧ _) ⟨by omega, by omega, fun h => absurd c1 h, fun _ => c2, fun _ => c3⟩, nil c3]
          simp
        · rw [decide_eq_false (p := _ ∧ _) (fun hh => c3 (hh.2.2.2.2 (by omega)))]
          simp [c3]
      · rw [if_neg c2, decide_eq_false (p := _ ∧ _) (fun hh => c2 (hh.2.2.2.1 (by omega)))]
        rfl
    rw [if_neg c1]
    by_cases c2 : x.f0 = 2
    · rw [if_pos c2, decide_eq_true (p := depthS (d + 1) x ≤ m) (by simp only [depthS]; rw [if_neg (show ¬ x.f0 = 3 by omega)]; omega)]
      by_cases c3 : x.f1 = 0
      · rw [if_pos c3]
        by_cases c4 : x.f3.length = 0
        · rw [decide_eq_true (p := _ ∧ _) ⟨by omega, by omega, fun h => c3, fun h => absurd c2 h, fun _ => c4⟩, nil c4]
          simp
        · rw [decide_eq_false (p := _ ∧ _) (fun hh => c4 (hh.2.2.2.2 (by omega)))]
          simp [c4]
      · rw [if_neg c3, decide_eq_false (p := _ ∧ _) (fun hh => c3 (hh.2.2.1 (by omega)))]
        rfl
    rw [if_neg c2]
    by_cases c3 : x.f0 = 3
    · rw [if_pos c3, show depthS (d + 1) x = (x.f3.map (depthS d)).foldl mx 0 + 1 from by simp only [depthS]; rw [if_pos c3]]
      by_cases c4 : x.f1 = 0
      · rw [if_pos c4]
        by_cases c5 : x.f2.toList = []
        · rw [show (x.f2.toList != []) = false from by rw [c5]; rfl, decide_eq_true (p := _ ∧ _) ⟨by omega, by omega, fun h => c4, fun h => c5, fun h => absurd c3 h⟩]
          simp only [codec_proper.j0, List.length_map]
          have := coproper_loop d x.f3 m ⟨by omega, hm⟩ (400 * d) (fun y hy k hk2 => coproper_f d y (h.kid hy) (m - 1) (by omega) (by omega) k hk2) (by omega) x.f3.length k 0 (by omega) (by omega) (by omega)
          rw [show ((0 : Nat) : Int) = 0 from rfl, List.drop_zero, all_split d m (by omega)] at this
          rw [if_neg (by simp), this]
          simp
        · rw [show (x.f2.toList != []) = true from by simp [c5], decide_eq_false (p := _ ∧ _) (fun hh => c5 (hh.2.2.2.1 (by omega)))]
          simp [codec_proper.j0]
      · rw [if_neg c4, decide_eq_false (p := _ ∧ _) (fun hh => c4 (hh.2.2.1 (by omega)))]
        simp [codec_proper.j0]
    · rw [if_neg c3, decide_eq_false (p := _ ∧ _) (fun hh => by have := hh.1; have := hh.2.1; omega)]
      rfl
theorem covalid_f (d : Nat) (x : R) (h : Small d x) (k : Nat) (hk : 400 * d ≤ k) : codec_Valid.f k (own d x).f0 (own d x).f1 (own d x).f2 (own d x).f3 = some (properS d x && decide (depthS d x ≤ 64)) := by
  unfold codec_Valid.f
  rw [coproper_f d x h 64 (by omega) (by omega) k hk]
  rfl
theorem refvalid_f (d : Nat) (x : R) (h : Small d x) (k : Nat) (hk : 400 * d ≤ k) : vinculumref03_Valid.f k x.f0 x.f1 x.f2 x.f3 = some (properS d x && decide (depthS d x ≤ 64)) := by
  unfold vinculumref03_Valid.f
  rw [refproper_f d x h k hk, Option.bind_some]
  cases properS d x with
  | false => rfl
  | true =>
    rw [if_pos rfl, refdepth_f d x h k hk]
    simp

/-! ### numbers and heads -/
theorem wf64 {x : Int} : (Lit.int .i64 x).wf = true ↔ -9223372036854775808 ≤ x ∧ x ≤ 9223372036854775807 := by
  simp [Lit.wf, IntKind.min, IntKind.max, IntKind.signed, IntKind.bits]
theorem wu (n : Int) : IntKind.u64.wrap n = n % 18446744073709551616 := by simp [IntKind.wrap, IntKind.bits, IntKind.signed]
theorem xor_all (a : Int) (h0 : 0 ≤ a) (h1 : a < 18446744073709551616) : Go.bits .xor .u64 18446744073709551615 a = 18446744073709551615 - a := by
  have key : ∀ x : BitVec 64, (BitVec.ofInt 64 18446744073709551615 ^^^ x).toNat = 18446744073709551615 - x.toNat := by
    intro x
    rw [show BitVec.ofInt 64 18446744073709551615 = BitVec.allOnes 64 from by decide, BitVec.allOnes_xor, BitVec.toNat_not]
  show IntKind.u64.wrap (((BitVec.ofInt 64 18446744073709551615 ^^^ BitVec.ofInt 64 a).toNat : Nat) : Int) = _
  rw [key, BitVec.toNat_ofInt, wu]
  have e : (a % ((2 ^ 64 : Nat) : Int)) = a := Int.emod_eq_of_lt h0 (by simpa using h1)
  rw [e]
  omega
theorem or_first : ∀ y : Fin 64, Go.bits .or .u8 64 ((y.1 : Nat) : Int) = 64 + y.1 ∧ Go.bits .or .u8 128 ((y.1 : Nat) : Int) = 128 + y.1 ∧ Go.bits .or .u8 192 ((y.1 : Nat) : Int) = 192 + y.1 := by decide +kernel
theorem or_kind (a y : Int) (ha : 1 ≤ a ∧ a ≤ 3) (hy : 0 ≤ y) (hy2 : y < 64) : Go.bits .or .u8 ((wrap64 (a * 64)) % 256) y = 64 * a + y := by
  obtain ⟨n, rfl⟩ : ∃ n : Nat, y = n := ⟨y.toNat, by omega⟩
  obtain ⟨h1, h2, h3⟩ := or_first ⟨n, by omega⟩
  have : a = 1 ∨ a = 2 ∨ a = 3 := by omega
  rcases this with rfl | rfl | rfl
  · rw [show wrap64 (1 * 64) % 256 = 64 from by unfold wrap64; decide]; exact h1
  · rw [show wrap64 (2 * 64) % 256 = 128 from by unfold wrap64; decide]; exact h2
  · rw [show wrap64 (3 * 64) % 256 = 192 from by unfold wrap64; decide]; exact h3
def numS (x : R) : Int := if x.f0 = 1 then (if x.f1 < 0 then -2 * x.f1 - 1 else 2 * x.f1) else if x.f0 = 2 then (x.f2.size : Int) else (x.f3.length : Int)
theorem num_range {d : Nat} {x : R} (h : Small (d + 1) x) : 0 ≤ numS x ∧ numS x < 18446744073709551616 := by
  have h1 := wf64.1 h.wf.2.1
  have h2 := h.len
  have h3 := h.text
  unfold numS
  split
  · split <;> omega
  · split <;> omega
theorem conum_f {d : Nat} {x : R} (h : Small (d + 1) x) (l : List V) (hl : l.length = x.f3.length) : codec_number.f x.f0 x.f1 x.f2 l = some (numS x) := by
  have h1 := wf64.1 h.wf.2.1
  have h2 := h.len
  have h3 := h.text
  unfold codec_number.f numS
  rw [hl]
  by_cases c1 : x.f0 = 1
  · rw [if_pos c1, if_pos c1]
    by_cases c2 : x.f1 < 0
    · rw [if_pos c2, if_pos c2, wu, wu, xor_all _ (by omega) (by omega)]
      congr 1
      omega
    · rw [if_neg c2, if_neg c2, wu, wu]
      congr 1
      omega
  · rw [if_neg c1, if_neg c1]
    by_cases c2 : x.f0 = 2
    · rw [if_pos c2, if_pos c2, wu]
      congr 1
      omega
    · rw [if_neg c2, if_neg c2, wu]
      congr 1
      omega
theorem refnum_f {d : Nat} {x : R} (h : Small (d + 1) x) (hk : 1 ≤ x.f0 ∧ x.f0 ≤ 3) : vinculumref03_Number.f x.f0 x.f1 x.f2 x.f3 = some (numS x) := by
  have h1 := wf64.1 h.wf.2.1
  have h2 := h.len
  have h3 := h.text
  unfold vinculumref03_Number.f numS
  by_cases c1 : x.f0 = 2
  · rw [if_pos c1, if_neg (show ¬ x.f0 = 1 by omega), if_pos c1, wu]
    congr 1
    omega
  · rw [if_neg c1]
    by_cases c2 : x.f0 = 3
    · rw [if_pos c2, if_neg (show ¬ x.f0 = 1 by omega), if_neg c1, wu]
      congr 1
      omega
    · rw [if_neg c2, if_pos (show x.f0 = 1 by omega)]
      by_cases c3 : x.f1 < 0
      · rw [if_pos c3, if_pos c3]
        simp only [wu]
        unfold wrap64
        congr 1
        omega
      · rw [if_neg c3, if_neg c3]
        simp only [wu]
        congr 1
        omega
/-- The powers of 256. -/
def pw : Nat → Int
  | 0 => 1
  | i + 1 => 256 * pw i
theorem pw_pos : ∀ i, 0 < pw i
  | 0 => by decide
  | i + 1 => by have := pw_pos i; simp only [pw]; omega
theorem shr_pw (n : Int) (m : Nat) (h : m ≤ 8) : shr .u64 n (wrap64 (8 * (m : Int))) = n / pw m := by
  have : m = 0 ∨ m = 1 ∨ m = 2 ∨ m = 3 ∨ m = 4 ∨ m = 5 ∨ m = 6 ∨ m = 7 ∨ m = 8 := by omega
  rcases this with rfl | rfl | rfl | rfl | rfl | rfl | rfl | rfl | rfl <;> (unfold shr wrap64; congr 1)
def dn (n : Int) : Nat → List Int
  | 0 => []
  | c + 1 => (n / pw c) % 256 :: dn n c
theorem dn_length (n : Int) : ∀ c, (dn n c).length = c
  | 0 => rfl
  | c + 1 => by simp only [dn, List.length_cons, dn_length n c]
theorem dn_succ (n : Int) : ∀ c, dn n (c + 1) = dn (n / 256) c ++ [n % 256]
  | 0 => by simp [dn, pw]
  | c + 1 => by
    have ih := dn_succ n c
    have e : n / pw (c + 1) = n / 256 / pw c := by simp only [pw]; rw [Int.ediv_ediv_of_nonneg (by omega)]
    rw [show dn n (c + 1 + 1) = (n / pw (c + 1)) % 256 :: dn n (c + 1) from rfl, ih, e]
    rfl
theorem colast (n : Int) : ∀ (m : Nat), m ≤ 8 → ∀ (k : Nat) (b : List Int), m < k → b.length + m < 140737488355328 → codec_head.l1 k b n ((m : Int) - 1) = some (b ++ dn n m) := by
  intro m
  induction m with
  | zero =>
    intro _ k b hk hb
    obtain ⟨k, rfl⟩ : ∃ m, k = m + 1 := ⟨k - 1, by omega⟩
    simp only [codec_head.l1]
    rw [if_neg (by omega)]
    simp [dn]
  | succ m ih =>
    intro hm k b hk hb
    obtain ⟨k, rfl⟩ : ∃ m, k = m + 1 := ⟨k - 1, by omega⟩
    simp only [codec_head.l1]
    rw [show ((m + 1 : Nat) : Int) - 1 = (m : Int) by omega, if_pos (by omega), if_pos (by unfold wrap64; omega), if_pos (by omega), shr_pw n m (by omega), show wrap64 ((m : Int) - 1) = (m : Int) - 1 from by unfold wrap64; omega, ih (by omega) k _ (by omega) (by rw [List.length_append]; simp only [List.length_cons, List.length_nil]; omega)]
    simp [dn]
theorem cofirst (n first : Int) (c : Nat) (hc : c ≤ 8) (hz : ¬ n / pw c > 0) (e : Nat) : ∀ (j k : Nat) (b : List Int), 1 ≤ j → j ≤ c → c - j = e → (∀ i, j ≤ i → i < c → n / pw i > 0) → e + c + 12 < k → b.length + 20 < 140737488355328 →
    codec_head.l0 k b n first (j : Int) = some (b ++ (Go.bits .or .u8 first ((55 + (c : Int)) % 256) :: dn n c)) := by
  induction e with
  | zero =>
    intro j k b h1 h2 he hp hk hb
    obtain ⟨k, rfl⟩ : ∃ m, k = m + 1 + 1 := ⟨k - 2, by omega⟩
    obtain rfl : j = c := by omega
    have hj1 : codec_head.j1 (k + 1) b n first (j : Int) = some (b ++ (Go.bits .or .u8 first ((55 + (j : Int)) % 256) :: dn n j)) := by
      simp only [codec_head.j1]
      rw [if_pos (by omega), show wrap64 ((j : Int) - 1) = (j : Int) - 1 from by unfold wrap64; omega, show wrap64 (55 + (j : Int)) = 55 + (j : Int) from by unfold wrap64; omega, colast n j hc k _ (by omega) (by rw [List.length_append]; simp only [List.length_cons, List.length_nil]; omega)]
      simp
    simp only [codec_head.l0]
    by_cases c8 : (j : Int) < 8
    · rw [if_pos c8, if_pos (by unfold wrap64; omega), shr_pw n j hc, if_neg hz]
      exact hj1
    · rw [if_neg c8]
      exact hj1
  | succ e ih =>
    intro j k b h1 h2 he hp hk hb
    obtain ⟨k, rfl⟩ : ∃ m, k = m + 1 := ⟨k - 1, by omega⟩
    simp only [codec_head.l0]
    rw [if_pos (by omega), if_pos (by unfold wrap64; omega), shr_pw n j (by omega), if_pos (hp j (by omega) (by omega)), show wrap64 ((j : Int) + 1) = ((j + 1 : Nat) : Int) from by unfold wrap64; omega]
    exact ih (j + 1) k b (by omega) (by omega) (by omega) (fun i h3 h4 => hp i (by omega) h4) (by omega) hb
theorem refhead_loop (a0 a1 : Int) (s : ByteArray) (l : List R) (c : Nat) : ∀ (n : Int) (acc : List Int) (k : Nat), 0 ≤ n → n < 18446744073709551616 → (∀ i, i < c → n / pw i > 0) → n / pw c = 0 → c + acc.length ≤ 20 → c < k →
    vinculumref03_Head.l0 k n acc a0 a1 s l = some ((wrap64 (wrap64 (wrap64 (64 * a0) + 55) + ((c + acc.length : Nat) : Int))) % 256 :: (dn n c ++ acc)) := by
  induction c with
  | zero =>
    intro n acc k h0 h1 hp hz hl hk
    obtain ⟨k, rfl⟩ : ∃ m, k = m + 1 := ⟨k - 1, by omega⟩
    simp only [pw] at hz
    rw [Int.ediv_one] at hz
    simp only [vinculumref03_Head.l0]
    rw [if_neg (by omega), Option.bind_some, if_pos (by simp only [List.length_cons, List.length_nil]; omega)]
    simp [dn]
  | succ c ih =>
    intro n acc k h0 h1 hp hz hl hk
    obtain ⟨k, rfl⟩ : ∃ m, k = m + 1 := ⟨k - 1, by omega⟩
    have hn := hp 0 (by omega)
    simp only [pw] at hn
    rw [Int.ediv_one] at hn
    simp only [vinculumref03_Head.l0]
    have ed : ∀ i, n / 256 / pw i = n / pw (i + 1) := fun i => by simp only [pw]; rw [Int.ediv_ediv_of_nonneg (by omega)]
    rw [if_pos hn, Option.bind_some, if_pos (by simp only [List.length_cons, List.length_nil]; omega), Int.tmod_eq_emod_of_nonneg (by omega), Int.tdiv_eq_ediv_of_nonneg (by omega), wu, show n / 256 % 18446744073709551616 = n / 256 from by omega, show n % 256 % 256 = n % 256 from by omega,
      ih (n / 256) _ k (by omega) (by omega) (fun i hi => by rw [ed]; exact hp (i + 1) (by omega)) (by rw [ed]; exact hz) (by rw [List.length_append]; simp only [List.length_cons, List.length_nil]; omega) (by omega), dn_succ]
    simp only [List.length_append, List.length_cons, List.length_nil, List.append_assoc, List.cons_append, List.nil_append]
    congr 5
    omega
theorem cnt_ex (n : Int) (h0 : 1 ≤ n) (h1 : n < 18446744073709551616) : ∃ c, 1 ≤ c ∧ c ≤ 8 ∧ (∀ i, i < c → n / pw i > 0) ∧ n / pw c = 0 := by
  have p0 : pw 0 = 1 := rfl
  have p1 : pw 1 = 256 := rfl
  have p2 : pw 2 = 65536 := rfl
  have p3 : pw 3 = 16777216 := rfl
  have p4 : pw 4 = 4294967296 := rfl
  have p5 : pw 5 = 1099511627776 := rfl
  have p6 : pw 6 = 281474976710656 := rfl
  have p7 : pw 7 = 72057594037927936 := rfl
  have p8 : pw 8 = 18446744073709551616 := rfl
  have go : ∀ c : Nat, 1 ≤ c → c ≤ 8 → n < pw c → pw (c - 1) ≤ n → ∃ c, 1 ≤ c ∧ c ≤ 8 ∧ (∀ i, i < c → n / pw i > 0) ∧ n / pw c = 0 := by
    intro c h2 h3 h4 h5
    refine ⟨c, h2, h3, fun i hi => ?_, Int.ediv_eq_zero_of_lt (by omega) h4⟩
    have mono : ∀ a b : Nat, a ≤ b → pw a ≤ pw b := by
      intro a b hab
      induction hab with
      | refl => exact Int.le_refl _
      | step _ ih => have := pw_pos a; simp only [pw]; omega
    have := mono i (c - 1) (by omega)
    have hp := pw_pos i
    have := Int.le_ediv_of_mul_le hp (show 1 * pw i ≤ n by omega)
    omega
  by_cases c1 : n < 256
  · exact go 1 (by omega) (by omega) (by rw [p1]; omega) (by show pw 0 ≤ n; omega)
  by_cases c2 : n < 65536
  · exact go 2 (by omega) (by omega) (by rw [p2]; omega) (by show pw 1 ≤ n; omega)
  by_cases c3 : n < 16777216
  · exact go 3 (by omega) (by omega) (by rw [p3]; omega) (by show pw 2 ≤ n; omega)
  by_cases c4 : n < 4294967296
  · exact go 4 (by omega) (by omega) (by rw [p4]; omega) (by show pw 3 ≤ n; omega)
  by_cases c5 : n < 1099511627776
  · exact go 5 (by omega) (by omega) (by rw [p5]; omega) (by show pw 4 ≤ n; omega)
  by_cases c6 : n < 281474976710656
  · exact go 6 (by omega) (by omega) (by rw [p6]; omega) (by show pw 5 ≤ n; omega)
  by_cases c7 : n < 72057594037927936
  · exact go 7 (by omega) (by omega) (by rw [p7]; omega) (by show pw 6 ≤ n; omega)
  · exact go 8 (by omega) (by omega) (by rw [p8]; omega) (by show pw 7 ≤ n; omega)
/-- Both heads are one. -/
theorem heads {d : Nat} {x : R} (h : Small (d + 1) x) (hk : 1 ≤ x.f0 ∧ x.f0 ≤ 3) (l : List V) (hl : l.length = x.f3.length) : ∃ hd : List Int, hd.length ≤ 9 ∧
    (∀ k, 40 ≤ k → vinculumref03_Head.f k x.f0 x.f1 x.f2 x.f3 = some hd) ∧ (∀ k b, 40 ≤ k → b.length + 20 < 140737488355328 → codec_head.f k b x.f0 x.f1 x.f2 l = some (b ++ hd)) := by
  obtain ⟨r0, r1⟩ := num_range h
  by_cases c : numS x < 56
  · refine ⟨[64 * x.f0 + numS x], by simp, fun k _ => ?_, fun k b _ hb => ?_⟩
    · unfold vinculumref03_Head.f
      rw [refnum_f h hk, Option.bind_some, if_pos c]
      congr 2
      unfold wrap64
      omega
    · unfold codec_head.f
      rw [conum_f h l hl, Option.bind_some, if_pos c, if_pos (by omega), show numS x % 256 = numS x from by omega, or_kind _ _ hk (by omega) (by omega)]
  · obtain ⟨n, h1, h2, h3, h4⟩ := cnt_ex (numS x) (by omega) r1
    refine ⟨(64 * x.f0 + (55 + (n : Int))) :: dn (numS x) n, by rw [List.length_cons, dn_length]; omega, fun k hkk => ?_, fun k b hkk hb => ?_⟩
    · unfold vinculumref03_Head.f
      rw [refnum_f h hk, Option.bind_some, if_neg c, refhead_loop _ _ _ _ n (numS x) [] k r0 r1 h3 h4 (by simp; omega) (by omega)]
      simp only [List.length_nil, List.append_nil]
      congr 2
      unfold wrap64
      omega
    · unfold codec_head.f
      rw [conum_f h l hl, Option.bind_some, if_neg c, show (1 : Int) = ((1 : Nat) : Int) from rfl, cofirst (numS x) _ n h2 (by omega) (n - 1) 1 k b (by omega) h1 rfl (fun i _ hi => h3 i hi) (by omega) hb, show (55 + (n : Int)) % 256 = 55 + (n : Int) from by omega, or_kind _ _ hk (by omega) (by omega)]
end Go.Proofs.Ytploigkfnkgjiaa.E03
