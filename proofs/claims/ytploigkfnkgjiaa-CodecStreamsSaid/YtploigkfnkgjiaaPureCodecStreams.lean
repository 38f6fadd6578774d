/- CodecStreams: the encodings of several values, one after the other, are read one by one. -/
import Derived.Test.YtploigkfnkgjiaaROF
namespace Go.Proofs.Ytploigkfnkgjiaa.Pure
set_option linter.unusedVariables false
set_option linter.unusedSimpArgs false
open Go.RowKit Go.Proofs.Ytploigkfnkgjiaa.PF Go.Proofs.Ytploigkfnkgjiaa.RC Go.Proofs.Ytploigkfnkgjiaa.RO Go.Proofs.YtploigkfnkgjiaaW.PrintWords Go.Proofs.YtploigkfnkgjiaaW.PrintMore
def Wf24 : Nat → R → Prop
  | 0, _ => False
  | d + 1, x => ((Lit.int .i64 x.f0).wf = true) ∧ ((Lit.int .i64 x.f1).wf = true) ∧ (x.f2.size ≤ 140737488351232) ∧ (x.f3.length * 56 ≤ 140737488351232 ∧ x.f3.length ≤ maxLen ∧ ∀ v ∈ x.f3, Wf24 d v)
theorem wf_to : ∀ (d : Nat) (x : R), Wf24 d x → RO.Wf d x
  | 0, _, h => h.elim
  | d + 1, x, h => by
    obtain ⟨h1, h2, h3, h4, h5, h6⟩ := h
    exact ⟨h1, h2, h3, h4, h5, fun v hv => wf_to d v (h6 v hv)⟩
def P (x : V) (f : List Int) : Prop := Enc 64 x f ∧ f.length ≤ 1048576
theorem Encs.snoc {P : V → List Int → Prop} {x : V} {f : List Int} (hx : P x f) : ∀ (xs : List V) (b : List Int), Encs P xs b → Encs P (xs ++ [x]) (b ++ f)
  | [], b, h => by
    obtain rfl : b = [] := h
    exact ⟨f, [], by simp, hx, rfl⟩
  | y :: r, b, h => by
    obtain ⟨g, b', rfl, h1, h2⟩ := h
    exact ⟨g, b' ++ f, by rw [List.append_assoc], h1, Encs.snoc hx r b' h2⟩
theorem Encs.short : ∀ (xs : List V) (b : List Int), Encs P xs b → b.length ≤ 1048576 * xs.length
  | [], b, h => by
    obtain rfl : b = [] := h
    simp
  | y :: r, b, h => by
    obtain ⟨g, b', rfl, h1, h2⟩ := h
    have := Encs.short r b' h2
    have := h1.2
    rw [List.length_append, List.length_cons]
    omega
theorem next_front {x : V} {p rest : List Int} (hx : P x p) (hr : Bytes rest) (hl : rest.length ≤ 100000000) : ∃ K, ∀ k, K ≤ k → codec_Next.f k (p ++ rest) = some (x.f0, x.f1, x.f2, x.f3, rest, 0) := by
  obtain ⟨K, hK⟩ := read_enc 64 x p hx.1 hx.2 64 (by decide) (by decide) rest
  refine ⟨K, fun k hk => ?_⟩
  unfold codec_Next.f
  rw [if_pos (allBytes_of (fun y hy => (List.mem_append.1 hy).elim (fun h => Enc.bytes _ _ _ hx.1 y h) (fun h => hr y h))), hK k hk, Option.bind_some, if_pos rfl, if_pos (by dsimp only; omega)]
/-- The second loop. -/
theorem back_loop (d : Nat) (l : List R) (hs : ∀ x ∈ l, Small d x) (hl : l.length ≤ 6) (e : Nat) : ∀ (i : Nat) (b : List Int), i ≤ l.length → l.length - i = e → Encs P ((l.drop i).map (own d)) b →
    ∃ K, ∀ k, K ≤ k → vinculumlaw03_CodecStreams.l1 k l b (i : Int) = some true := by
  induction e with
  | zero =>
    intro i b hi he h
    rw [List.drop_of_length_le (by omega)] at h
    obtain rfl : b = [] := h
    refine ⟨1, fun k hk => ?_⟩
    obtain ⟨k, rfl⟩ : ∃ m, k = m + 1 := ⟨k - 1, by omega⟩
    simp only [vinculumlaw03_CodecStreams.l1]
    rw [if_neg (by omega)]
    rfl
  | succ e ih =>
    intro i b hi he h
    have hlt : i < l.length := by omega
    rw [List.drop_eq_getElem_cons hlt, List.map_cons] at h
    obtain ⟨f, b', rfl, h1, h2⟩ := h
    have hsi := hs l[i] (List.getElem_mem hlt)
    have hbb : Bytes b' := Encs.bytes (fun x f h => Enc.bytes _ _ _ h.1) _ _ h2
    have hbl := Encs.short _ _ h2
    rw [List.length_map, List.length_drop] at hbl
    obtain ⟨K1, k1⟩ := next_front h1 hbb (by omega)
    obtain ⟨K2, k2⟩ := ih (i + 1) b' (by omega) (by omega) h2
    have o := own_f d l[i] hsi
    have e3 := eq_f d l[i] l[i] hsi hsi
    rw [eqv_self] at e3
    have hp := Enc.pos h1.1
    refine ⟨K1 + K2 + 400 * d + 1, fun k hk => ?_⟩
    obtain ⟨k, rfl⟩ : ∃ m, k = m + 1 := ⟨k - 1, by omega⟩
    simp only [vinculumlaw03_CodecStreams.l1]
    rw [if_pos (by omega), k1 k (by omega), Option.bind_some]
    dsimp only
    rw [if_pos rfl, if_pos (by omega), rdR hlt, o k (by omega), Option.bind_some]
    dsimp only
    rw [e3 k (by omega), Option.bind_some, if_pos rfl, if_neg (by rw [List.length_append]; omega), len_succ hlt (by omega), k2 k (by omega)]
/-- The first loop. -/
theorem first_loop (d : Nat) (l : List R) (hw : ∀ x ∈ l, RO.Wf d x) (hl : l.length ≤ 6) (e : Nat) : ∀ (i : Nat) (b : List Int), i ≤ l.length → l.length - i = e → (∀ j (h : j < l.length), j < i → Small d l[j]) → Encs P ((l.take i).map (own d)) b →
    ∃ K, ∀ k, K ≤ k → vinculumlaw03_CodecStreams.l0 k l b (i : Int) = some true := by
  induction e with
  | zero =>
    intro i b hi he hs h
    rw [List.take_of_length_le (by omega)] at h
    obtain ⟨K, hK⟩ := back_loop d l (fun x hx => by obtain ⟨j, hj, rfl⟩ := List.getElem_of_mem hx; exact hs j hj (by omega)) hl l.length 0 b (by omega) (by omega) h
    refine ⟨K + 1, fun k hk => ?_⟩
    obtain ⟨k, rfl⟩ : ∃ m, k = m + 1 := ⟨k - 1, by omega⟩
    simp only [vinculumlaw03_CodecStreams.l0]
    rw [if_neg (by omega)]
    exact hK k (by omega)
  | succ e ih =>
    intro i b hi he hs h
    have hlt : i < l.length := by omega
    have hbl := Encs.short _ _ h
    rw [List.length_map, List.length_take] at hbl
    obtain ⟨K, g⟩ := few_f d l[i] (hw _ (List.getElem_mem hlt))
    rcases g with g | ⟨hsi, g⟩
    · refine ⟨K + 1, fun k hk => ?_⟩
      obtain ⟨k, rfl⟩ : ∃ m, k = m + 1 := ⟨k - 1, by omega⟩
      simp only [vinculumlaw03_CodecStreams.l0]
      rw [if_pos (by omega), if_pos (by omega), rdR hlt, g k (by omega), Option.bind_some, if_neg (by decide)]
    · have o := own_f d l[i] hsi
      obtain ⟨K1, ⟨f, hf1, hf2, h1⟩ | ⟨er, he', h1⟩⟩ := own_encode d l[i] hsi
      · have hn : Encs P ((l.take (i + 1)).map (own d)) (b ++ f) := by
          rw [List.take_succ_eq_append_getElem hlt, List.map_append]
          exact Encs.snoc ⟨hf1, hf2⟩ _ _ h
        obtain ⟨K2, h2⟩ := ih (i + 1) (b ++ f) (by omega) (by omega) (fun j hj hji => by
          by_cases c : j = i
          · subst c; exact hsi
          · exact hs j hj (by omega)) hn
        refine ⟨K + K1 + K2 + 400 * d + 1, fun k hk => ?_⟩
        obtain ⟨k, rfl⟩ : ∃ m, k = m + 1 := ⟨k - 1, by omega⟩
        simp only [vinculumlaw03_CodecStreams.l0]
        rw [if_pos (by omega), if_pos (by omega), rdR hlt, g k (by omega), Option.bind_some, if_pos rfl, o k (by omega), Option.bind_some]
        dsimp only
        rw [h1 k (by omega), Option.bind_some]
        dsimp only
        rw [if_pos rfl, if_pos (by omega), len_succ hlt (by omega), h2 k (by omega)]
      · refine ⟨K + K1 + 400 * d + 1, fun k hk => ?_⟩
        obtain ⟨k, rfl⟩ : ∃ m, k = m + 1 := ⟨k - 1, by omega⟩
        simp only [vinculumlaw03_CodecStreams.l0]
        rw [if_pos (by omega), if_pos (by omega), rdR hlt, g k (by omega), Option.bind_some, if_pos rfl, o k (by omega), Option.bind_some]
        dsimp only
        rw [h1 k (by omega), Option.bind_some]
        dsimp only
        rw [if_neg he']
theorem CodecStreams (l : List R) (wl : l.length * 56 ≤ 140737488351232 ∧ l.length ≤ maxLen ∧ ∀ v ∈ l, ∃ d, Wf24 d v) : ∃ k, vinculumlaw03_CodecStreams.f k l = some true := by
  obtain ⟨_, _, h3⟩ := wl
  obtain ⟨d, hd⟩ := RO.Wf.common l (fun v hv => by obtain ⟨d, h⟩ := h3 v hv; exact ⟨d, wf_to d v h⟩)
  by_cases c : (l.length : Int) > 6
  · refine ⟨30, ?_⟩
    unfold vinculumlaw03_CodecStreams.f
    rw [awake03 _ (by omega), Option.bind_some, if_pos rfl, if_pos c]
  · obtain ⟨K, hK⟩ := first_loop d l hd (by omega) l.length 0 [] (by omega) (by omega) (fun j _ h => absurd h (Nat.not_lt_zero _)) rfl
    refine ⟨K + 30, ?_⟩
    unfold vinculumlaw03_CodecStreams.f
    rw [awake03 _ (by omega), Option.bind_some, if_pos rfl, if_neg c]
    exact hK _ (by omega)
end Go.Proofs.Ytploigkfnkgjiaa.Pure
