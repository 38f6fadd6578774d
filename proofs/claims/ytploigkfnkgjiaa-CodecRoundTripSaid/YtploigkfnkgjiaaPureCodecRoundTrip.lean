/- CodecRoundTrip: what is encoded is decoded, and what is decoded is encoded to the same bytes. -/
import Derived.Test.YtploigkfnkgjiaaROF
namespace Go.Proofs.Ytploigkfnkgjiaa.Pure
set_option linter.unusedVariables false
set_option linter.unusedSimpArgs false
open Go.RowKit Go.Proofs.Ytploigkfnkgjiaa.PF Go.Proofs.Ytploigkfnkgjiaa.RC Go.Proofs.Ytploigkfnkgjiaa.RO Go.Proofs.YtploigkfnkgjiaaW.PrintWords Go.Proofs.YtploigkfnkgjiaaW.PrintMore
def Wf24 : Nat → R → Prop
  | 0, _ => False
  | d + 1, x => ((Lit.int .i64 x.f0).wf = true) ∧ ((Lit.int .i64 x.f1).wf = true) ∧ (x.f2.size ≤ 140737488351232) ∧ (x.f3.length * 56 ≤ 140737488351232 ∧ x.f3.length ≤ maxLen ∧ ∀ v ∈ x.f3, Wf24 d v)
theorem wf_to : ∀ (d : Nat) (x : R), Wf24 d x → RO.Wf d x
  | 0, _, h => h.elim
  | d + 1, x, h => by
    obtain ⟨h1, h2, h3, h4, h5, h6⟩ := h
    exact ⟨h1, h2, h3, h4, h5, fun v hv => wf_to d v (h6 v hv)⟩
theorem root (a b : Int) (s : ByteArray) (l : List R) (wa : (Lit.int .i64 a).wf = true) (wb : (Lit.int .i64 b).wf = true) (ws : s.size ≤ 140737488351232) (wl : l.length * 56 ≤ 140737488351232 ∧ l.length ≤ maxLen ∧ ∀ v ∈ l, ∃ d, Wf24 d v) : ∃ d, RO.Wf d ⟨a, b, s, l⟩ := by
  obtain ⟨h1, h2, h3⟩ := wl
  obtain ⟨d, hd⟩ := RO.Wf.common l (fun v hv => by obtain ⟨d, h⟩ := h3 v hv; exact ⟨d, wf_to d v h⟩)
  exact ⟨d + 1, wa, wb, ws, h1, h2, hd⟩
theorem wf8 {x : Int} : (Lit.int .u8 x).wf = true ↔ 0 ≤ x ∧ x ≤ 255 := by
  simp [Lit.wf, IntKind.min, IntKind.max, IntKind.signed, IntKind.bits]
theorem bytes_wf {l : List Int} (h : ∀ x ∈ l, (Lit.int .u8 x).wf = true) : Bytes l := fun x hx => by
  have := wf8.1 (h x hx)
  omega
theorem second (l : List Int) (hb : Bytes l) (hl : l.length ≤ 3000) : ∃ K, ∀ k, K ≤ k → vinculumlaw03_CodecRoundTrip.j1 k l = some true := by
  obtain ⟨K, ⟨_, x, hx, hK⟩ | ⟨_, hK⟩⟩ := dec_any l hb (by omega)
  · obtain ⟨K2, h2⟩ := valid_enc x l hx (by omega)
    obtain ⟨K3, ⟨_, h3⟩ | ⟨h3, _⟩⟩ := encode_enc x l hx (by omega)
    · refine ⟨K + K2 + K3 + 1, fun k hk => ?_⟩
      obtain ⟨k, rfl⟩ : ∃ q, k = q + 1 := ⟨k - 1, by omega⟩
      simp only [vinculumlaw03_CodecRoundTrip.j1]
      rw [hK k (by omega), Option.bind_some]
      dsimp only
      rw [if_pos rfl, h3 k (by omega), Option.bind_some]
      dsimp only
      rw [if_pos rfl, if_pos rfl, h2 k (by omega), Option.bind_some]
    · omega
  · refine ⟨K + 1, fun k hk => ?_⟩
    obtain ⟨k, rfl⟩ : ∃ q, k = q + 1 := ⟨k - 1, by omega⟩
    simp only [vinculumlaw03_CodecRoundTrip.j1]
    rw [hK k (by omega), Option.bind_some]
    dsimp only
    rw [if_neg (by decide)]
    rfl
theorem first (d : Nat) (x : R) (hs : Small d x) (l : List Int) (hb : Bytes l) (hl : l.length ≤ 3000) : ∃ K, ∀ k, K ≤ k → vinculumlaw03_CodecRoundTrip.j0 k l false x.f0 x.f1 x.f2 x.f3 = some true := by
  obtain ⟨K0, h0⟩ := second l hb hl
  have o := own_f d x hs
  obtain ⟨K1, ⟨b, hb1, hb2, h1⟩ | ⟨e, he, h1⟩⟩ := own_encode d x hs
  · have hbb := Enc.bytes _ _ _ hb1
    obtain ⟨K2, ⟨_, y, hy, h2⟩ | ⟨h2, _⟩⟩ := dec_any b hbb (by omega)
    · obtain ⟨rfl, _, _⟩ := unique (r := []) (s := []) hb1 hy hb2 hb2 rfl
      have e3 := eq_f d x x hs hs
      rw [eqv_self] at e3
      refine ⟨K0 + K1 + K2 + 400 * d + 1, fun k hk => ?_⟩
      obtain ⟨k, rfl⟩ : ∃ q, k = q + 1 := ⟨k - 1, by omega⟩
      simp only [vinculumlaw03_CodecRoundTrip.j0]
      rw [if_neg (by decide), o k (by omega), Option.bind_some]
      dsimp only
      rw [h1 k (by omega), Option.bind_some]
      dsimp only
      rw [if_pos rfl, h2 k (by omega), Option.bind_some]
      dsimp only
      rw [if_pos rfl, Option.bind_some]
      dsimp only
      rw [e3 k (by omega), Option.bind_some, if_pos rfl, h0 k (by omega)]
    · exact absurd hb1 (h2 _ hb2)
  · refine ⟨K0 + K1 + 400 * d + 1, fun k hk => ?_⟩
    obtain ⟨k, rfl⟩ : ∃ q, k = q + 1 := ⟨k - 1, by omega⟩
    simp only [vinculumlaw03_CodecRoundTrip.j0]
    rw [if_neg (by decide), o k (by omega), Option.bind_some]
    dsimp only
    rw [h1 k (by omega), Option.bind_some]
    dsimp only
    rw [if_neg he, h0 k (by omega)]
theorem CodecRoundTrip (a b : Int) (s : ByteArray) (l : List R) (l1 : List Int) (wa : (Lit.int .i64 a).wf = true) (wb : (Lit.int .i64 b).wf = true) (ws : s.size ≤ 140737488351232) (wl : l.length * 56 ≤ 140737488351232 ∧ l.length ≤ maxLen ∧ ∀ v ∈ l, ∃ d, Wf24 d v)
    (w1 : l1.length * 1 ≤ 140737488351232 ∧ l1.length ≤ maxLen ∧ ∀ v ∈ l1, (Lit.int .u8 v).wf = true) : ∃ k, vinculumlaw03_CodecRoundTrip.f k a b s l l1 = some true := by
  obtain ⟨d, hd⟩ := root a b s l wa wb ws wl
  obtain ⟨K, h⟩ := few_f d _ hd
  have j : ∀ k, 0 < k → vinculumlaw03_CodecRoundTrip.j0 k l1 true a b s l = some true := fun k hk => by
    obtain ⟨k, rfl⟩ : ∃ m, k = m + 1 := ⟨k - 1, by omega⟩
    simp [vinculumlaw03_CodecRoundTrip.j0]
  rcases h with h | ⟨hs, h⟩
  · refine ⟨K + 30, ?_⟩
    unfold vinculumlaw03_CodecRoundTrip.f
    rw [awake03 _ (by omega), Option.bind_some, if_pos rfl, h _ (by omega), Option.bind_some, if_neg (by simp), j _ (by omega)]
  · by_cases c : (l1.length : Int) > 3000
    · refine ⟨K + 30, ?_⟩
      unfold vinculumlaw03_CodecRoundTrip.f
      rw [awake03 _ (by omega), Option.bind_some, if_pos rfl, h _ (by omega), Option.bind_some, if_pos rfl, decide_eq_true c, j _ (by omega)]
    · obtain ⟨K1, h1⟩ := first d ⟨a, b, s, l⟩ hs l1 (bytes_wf w1.2.2) (by omega)
      refine ⟨K + K1 + 30, ?_⟩
      unfold vinculumlaw03_CodecRoundTrip.f
      rw [awake03 _ (by omega), Option.bind_some, if_pos rfl, h _ (by omega), Option.bind_some, if_pos rfl, decide_eq_false c, h1 _ (by omega)]
end Go.Proofs.Ytploigkfnkgjiaa.Pure
