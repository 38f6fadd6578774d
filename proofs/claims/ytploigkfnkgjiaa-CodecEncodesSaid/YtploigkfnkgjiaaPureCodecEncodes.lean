/- CodecEncodes: Encode, Valid and Depth are the reference's for values of at most 300 nodes. -/
import Derived.Test.YtploigkfnkgjiaaE03
namespace Go.Proofs.Ytploigkfnkgjiaa.Pure
set_option linter.unusedVariables false
set_option linter.unusedSimpArgs false
open Go.RowKit Go.Proofs.Ytploigkfnkgjiaa.PE Go.Proofs.Ytploigkfnkgjiaa.T03 Go.Proofs.Ytploigkfnkgjiaa.E03 Go.Proofs.YtploigkfnkgjiaaW.PrintWords Go.Proofs.YtploigkfnkgjiaaW.PrintMore
def Wf24 : Nat → R → Prop
  | 0, _ => False
  | d + 1, x => ((Lit.int .i64 x.f0).wf = true) ∧ ((Lit.int .i64 x.f1).wf = true) ∧ (x.f2.size ≤ 140737488351232) ∧ (x.f3.length * 56 ≤ 140737488351232 ∧ x.f3.length ≤ maxLen ∧ ∀ v ∈ x.f3, Wf24 d v)
theorem wf_to : ∀ (d : Nat) (x : R), Wf24 d x → T03.Wf d x
  | 0, _, h => h.elim
  | d + 1, x, h => by
    obtain ⟨h1, h2, h3, h4, h5, h6⟩ := h
    exact ⟨h1, h2, h3, h4, h5, fun v hv => wf_to d v (h6 v hv)⟩
theorem root (a b : Int) (s : ByteArray) (l : List R) (wa : (Lit.int .i64 a).wf = true) (wb : (Lit.int .i64 b).wf = true) (ws : s.size ≤ 140737488351232) (wl : l.length * 56 ≤ 140737488351232 ∧ l.length ≤ maxLen ∧ ∀ v ∈ l, ∃ d, Wf24 d v) : ∃ d, T03.Wf d ⟨a, b, s, l⟩ := by
  obtain ⟨h1, h2, h3⟩ := wl
  obtain ⟨d, hd⟩ := T03.Wf.common l (fun v hv => by obtain ⟨d, h⟩ := h3 v hv; exact ⟨d, wf_to d v h⟩)
  exact ⟨d + 1, wa, wb, ws, h1, h2, hd⟩

/-- The bytes of both encodings: full is the reference's; what encode leaves is the same, or too long where the full ones are too long. -/
def Enc (d : Nat) (x : R) : Prop := ∃ full : List Int, full.length ≤ 6000 * nodes d x ∧ (∀ k, 400 * d + 50 ≤ k → vinculumref03_Encode.f k x.f0 x.f1 x.f2 x.f3 = some full) ∧
  ∀ k (b : List Int), 400 * d + 50 ≤ k → b.length ≤ 3000000 → ∃ b', codec_encode.f k b (own d x).f0 (own d x).f1 (own d x).f2 (own d x).f3 = some b' ∧ b'.length ≤ b.length + full.length ∧ (b.length + full.length ≤ 1048576 → b' = b ++ full) ∧ (1048576 < b.length + full.length → 1048576 < b'.length)
theorem enc_kids (d : Nat) (l : List R) (hsum : sumN (l.map (nodes d)) ≤ 299) (ih : ∀ x ∈ l, Enc d x) : ∃ fs : List (List Int), fs.length = l.length ∧ fs.flatten.length ≤ 6000 * sumN (l.map (nodes d)) ∧ ∀ i (h : i < l.length), ∃ f, fs[i]? = some f ∧ f.length ≤ 1800000 ∧ (∀ k, 400 * d + 50 ≤ k → vinculumref03_Encode.f k l[i].f0 l[i].f1 l[i].f2 l[i].f3 = some f) ∧
    ∀ k (b : List Int), 400 * d + 50 ≤ k → b.length ≤ 3000000 → ∃ b', codec_encode.f k b (own d l[i]).f0 (own d l[i]).f1 (own d l[i]).f2 (own d l[i]).f3 = some b' ∧ b'.length ≤ b.length + f.length ∧ (b.length + f.length ≤ 1048576 → b' = b ++ f) ∧ (1048576 < b.length + f.length → 1048576 < b'.length) := by
  induction l with
  | nil => exact ⟨[], rfl, by simp, fun i h => absurd h (Nat.not_lt_zero _)⟩
  | cons x r ihr =>
    rw [List.map_cons, sumN_cons] at hsum
    obtain ⟨fs, h1, h2, h3⟩ := ihr (by omega) (fun y hy => ih y (List.mem_cons_of_mem _ hy))
    obtain ⟨f, g1, g2, g3⟩ := ih x List.mem_cons_self
    refine ⟨f :: fs, by simp [h1], ?_, fun i h => ?_⟩
    · rw [List.flatten_cons, List.length_append, List.map_cons, sumN_cons]
      omega
    · cases i with
      | zero => exact ⟨f, rfl, by omega, g2, g3⟩
      | succ i => exact h3 i (by simpa using h)
theorem flat_drop {fs : List (List Int)} {i : Nat} {f : List Int} (h : fs[i]? = some f) : (fs.drop i).flatten = f ++ (fs.drop (i + 1)).flatten := by
  obtain ⟨h1, h2⟩ := List.getElem?_eq_some_iff.1 h
  rw [List.drop_eq_getElem_cons h1, List.flatten_cons, h2]
theorem refenc_loop (d : Nat) (a b : Int) (c : ByteArray) (l : List R) (hlen : l.length ≤ 300) (fs : List (List Int)) (hfs : fs.length = l.length) (K : Nat)
    (hf : ∀ i (h : i < l.length), ∃ f, fs[i]? = some f ∧ (∀ k, K ≤ k → vinculumref03_Encode.f k l[i].f0 l[i].f1 l[i].f2 l[i].f3 = some f)) (e : Nat) :
    ∀ (k i : Nat) (acc : List Int), i ≤ l.length → l.length - i = e → K + e < k → acc.length + (fs.drop i).flatten.length < 10000000 → vinculumref03_Encode.l0 k acc (i : Int) a b c l = some (acc ++ (fs.drop i).flatten) := by
  induction e with
  | zero =>
    intro k i acc hi he hk hb
    obtain ⟨k, rfl⟩ : ∃ m, k = m + 1 := ⟨k - 1, by omega⟩
    simp only [vinculumref03_Encode.l0]
    rw [if_neg (by omega), List.drop_of_length_le (by omega)]
    simp
  | succ e ih =>
    intro k i acc hi he hk hb
    obtain ⟨k, rfl⟩ : ∃ m, k = m + 1 := ⟨k - 1, by omega⟩
    have hlt : i < l.length := by omega
    obtain ⟨f, h1, h2⟩ := hf i hlt
    rw [flat_drop h1, List.length_append] at hb
    simp only [vinculumref03_Encode.l0]
    rw [if_pos (by omega), if_pos (by omega), rdR hlt, h2 k (by omega), Option.bind_some, if_pos (by omega), len_succ hlt (by omega), ih k (i + 1) _ (by omega) (by omega) (by omega) (by rw [List.length_append]; omega), flat_drop h1, List.append_assoc]
theorem coenc_loop (d : Nat) (l : List R) (hlen : l.length ≤ 300) (fs : List (List Int)) (hfs : fs.length = l.length) (K : Nat)
    (hf : ∀ i (h : i < l.length), ∃ f, fs[i]? = some f ∧ f.length ≤ 1800000 ∧ ∀ k (b : List Int), K ≤ k → b.length ≤ 3000000 → ∃ b', codec_encode.f k b (own d l[i]).f0 (own d l[i]).f1 (own d l[i]).f2 (own d l[i]).f3 = some b' ∧ b'.length ≤ b.length + f.length ∧ (b.length + f.length ≤ 1048576 → b' = b ++ f) ∧ (1048576 < b.length + f.length → 1048576 < b'.length)) (e : Nat) :
    ∀ (k i : Nat) (b : List Int), i ≤ l.length → l.length - i = e → K + e < k → b.length ≤ 3010000 → ∃ b', codec_encode.l0 k b (l.map (own d)) (i : Int) = some b' ∧ b'.length ≤ b.length + (fs.drop i).flatten.length ∧ (b.length + (fs.drop i).flatten.length ≤ 1048576 → b' = b ++ (fs.drop i).flatten) ∧ (1048576 < b.length + (fs.drop i).flatten.length → 1048576 < b'.length) := by
  induction e with
  | zero =>
    intro k i b hi he hk hb
    obtain ⟨k, rfl⟩ : ∃ m, k = m + 1 := ⟨k - 1, by omega⟩
    simp only [codec_encode.l0]
    rw [if_neg (by rw [List.length_map]; omega), List.drop_of_length_le (by omega)]
    exact ⟨b, rfl, by simp, by simp, by simp⟩
  | succ e ih =>
    intro k i b hi he hk hb
    obtain ⟨k, rfl⟩ : ∃ m, k = m + 1 := ⟨k - 1, by omega⟩
    have hlt : i < l.length := by omega
    obtain ⟨f, h1, h2, h3⟩ := hf i hlt
    simp only [codec_encode.l0]
    rw [if_pos (by rw [List.length_map]; omega), if_pos (by omega), flat_drop h1, List.length_append]
    by_cases c : (b.length : Int) > 1048576
    · rw [if_pos c]
      exact ⟨b, rfl, by omega, fun h => by omega, fun _ => by omega⟩
    · rw [if_neg c, rdV (by rw [List.length_map]; omega), List.getElem_map]
      obtain ⟨b1, p1, p2, p3, p4⟩ := h3 k b (by omega) (by omega)
      obtain ⟨b2, q1, q2, q3, q4⟩ := ih k (i + 1) b1 (by omega) (by omega) (by omega) (by omega)
      rw [p1, Option.bind_some, len_succ hlt (by omega)]
      refine ⟨b2, q1, by omega, fun h => ?_, fun h => ?_⟩
      · have e1 := p3 (by omega)
        rw [q3 (by rw [e1, List.length_append]; omega), e1, List.append_assoc]
      · by_cases c2 : b.length + f.length ≤ 1048576
        · have e1 := p3 c2
          have e2 : b1.length = b.length + f.length := by rw [e1, List.length_append]
          exact q4 (by omega)
        · have e1 := p4 (by omega)
          exact q4 (by omega)
theorem enc : ∀ (d : Nat) (x : R), Small d x → properS d x = true → Enc d x
  | 0, x, h, _ => h.wf.elim
  | d + 1, x, h, hp => by
    simp only [properS, Bool.and_eq_true] at hp
    obtain ⟨hn, hk⟩ := hp
    have hn := of_decide_eq_true hn
    have hl := h.len
    have ht := h.text
    have hfew := h.few
    simp only [nodes] at hfew
    obtain ⟨fs, f1, f2, f3⟩ := enc_kids d x.f3 (by omega) (fun y hy => enc d y (h.kid hy) (List.all_eq_true.1 hk y hy))
    obtain ⟨hd, g1, g2, g3⟩ := heads h ⟨hn.1, hn.2.1⟩ (x.f3.map (own d)) (List.length_map _)
    have hbl : (bytesOf x.f2).length = x.f2.size := bytesOf_length _
    refine ⟨hd ++ bytesOf x.f2 ++ fs.flatten, ?_, fun k hkk => ?_, fun k b hkk hb => ?_⟩
    · simp only [nodes, List.length_append, hbl]
      omega
    · obtain ⟨k, rfl⟩ : ∃ m, k = m + 1 := ⟨k - 1, by omega⟩
      simp only [vinculumref03_Encode.f]
      have := refenc_loop d x.f0 x.f1 x.f2 x.f3 (by omega) fs f1 (400 * d + 50) (fun i hi => by obtain ⟨f, a1, _, a2, _⟩ := f3 i hi; exact ⟨f, a1, a2⟩) x.f3.length k 0 (hd ++ bytesOf x.f2) (by omega) (by omega) (by omega) (by rw [List.drop_zero, List.length_append, hbl]; omega)
      rw [show ((0 : Nat) : Int) = 0 from rfl, List.drop_zero] at this
      rw [g2 k (by omega), Option.bind_some, if_pos (by omega), this]
    · obtain ⟨k, rfl⟩ : ∃ m, k = m + 1 := ⟨k - 1, by omega⟩
      change ∃ b', codec_encode.f (k + 1) b x.f0 x.f1 x.f2 (x.f3.map (own d)) = some b' ∧ _
      simp only [codec_encode.f]
      rw [g3 k b (by omega) (by omega), Option.bind_some, if_pos (by rw [List.length_append]; omega)]
      obtain ⟨b', p1, p2, p3, p4⟩ := coenc_loop d x.f3 (by omega) fs f1 (400 * d + 50) (fun i hi => by obtain ⟨f, a1, a0, _, a2⟩ := f3 i hi; exact ⟨f, a1, a0, a2⟩) x.f3.length k 0 (b ++ hd ++ bytesOf x.f2) (by omega) (by omega) (by omega) (by simp only [List.length_append, hbl]; omega)
      rw [show ((0 : Nat) : Int) = 0 from rfl] at p1
      rw [List.drop_zero] at p2 p3 p4
      simp only [List.length_append, hbl] at p2 p3 p4 ⊢
      refine ⟨b', p1, by omega, fun h => ?_, fun h => p4 (by omega)⟩
      rw [p3 (by omega)]
      simp only [List.append_assoc]
theorem CodecEncodes (a b : Int) (s : ByteArray) (l : List R) (wa : (Lit.int .i64 a).wf = true) (wb : (Lit.int .i64 b).wf = true) (ws : s.size ≤ 140737488351232) (wl : l.length * 56 ≤ 140737488351232 ∧ l.length ≤ maxLen ∧ ∀ v ∈ l, ∃ d, Wf24 d v) :
    ∃ k, vinculumlaw03_CodecEncodes.f k a b s l = some true := by
  obtain ⟨d, hd⟩ := root a b s l wa wb ws wl
  obtain ⟨K, h⟩ := few_f d _ hd
  refine ⟨K + 400 * d + 100, ?_⟩
  unfold vinculumlaw03_CodecEncodes.f
  rw [awake03 _ (by omega), Option.bind_some, if_pos rfl]
  rcases h with h | ⟨hs, h⟩
  · rw [h _ (by omega), Option.bind_some, if_neg (by simp)]
  · rw [h _ (by omega), Option.bind_some, if_pos rfl]
    have o1 := own_f d ⟨a, b, s, l⟩ hs (K + 400 * d + 100) (by omega)
    have v1 := covalid_f d ⟨a, b, s, l⟩ hs (K + 400 * d + 100) (by omega)
    have v2 := refvalid_f d ⟨a, b, s, l⟩ hs (K + 400 * d + 100) (by omega)
    have v3 := refvalid_f d ⟨a, b, s, l⟩ hs (K + 400 * d + 99) (by omega)
    have d1 := codepth_f d ⟨a, b, s, l⟩ hs (K + 400 * d + 100) (by omega)
    have d2 := refdepth_f d ⟨a, b, s, l⟩ hs (K + 400 * d + 100) (by omega)
    dsimp only at o1 v2 v3 d2
    rw [o1, Option.bind_some]
    dsimp only
    unfold codec_Encode.f
    rw [v1, Option.bind_some, v2, d1, d2]
    cases hv : (properS d ⟨a, b, s, l⟩ && decide (depthS d ⟨a, b, s, l⟩ ≤ 64)) with
    | false =>
      rw [hv] at v3
      simp [vinculumlaw03_CodecEncodes.j0, v3]
    | true =>
      rw [hv] at v3
      simp only [Bool.and_eq_true] at hv
      obtain ⟨full, e1, e2, e3⟩ := enc d _ hs hv.1
      obtain ⟨b', p1, p2, p3, p4⟩ := e3 (K + 400 * d + 100) [] (by omega) (by simp)
      have e4 := e2 (K + 400 * d + 99) (by omega)
      dsimp only at e4
      rw [if_pos rfl, p1, Option.bind_some]
      rw [List.length_nil, Nat.zero_add] at p2 p3 p4
      by_cases c : full.length ≤ 1048576
      · have e := p3 c
        rw [e, List.nil_append, if_neg (by omega)]
        have : ¬ (full.length : Int) > 1048576 := by omega
        simp [vinculumlaw03_CodecEncodes.j0, v3, e4, this]
      · have := p4 (by omega)
        rw [if_pos (by omega)]
        have : (full.length : Int) > 1048576 := by omega
        simp [vinculumlaw03_CodecEncodes.j0, v3, e4, this]
end Go.Proofs.Ytploigkfnkgjiaa.Pure
