/- CodecDecodes: Decode returns the value of an encoding, or ErrForm, as the reference does. -/
import Derived.Test.YtploigkfnkgjiaaRRD
namespace Go.Proofs.Ytploigkfnkgjiaa.Pure
set_option linter.unusedVariables false
set_option linter.unusedSimpArgs false
open Go.RowKit Go.Proofs.Ytploigkfnkgjiaa.PD Go.Proofs.Ytploigkfnkgjiaa.RC Go.Proofs.Ytploigkfnkgjiaa.RR Go.Proofs.YtploigkfnkgjiaaW.PrintWords Go.Proofs.YtploigkfnkgjiaaW.PrintMore
theorem wf8 {x : Int} : (Lit.int .u8 x).wf = true ↔ 0 ≤ x ∧ x ≤ 255 := by
  simp [Lit.wf, IntKind.min, IntKind.max, IntKind.signed, IntKind.bits]
theorem bytes_wf {l : List Int} (h : ∀ x ∈ l, (Lit.int .u8 x).wf = true) : Bytes l := fun x hx => by
  have := wf8.1 (h x hx)
  omega
theorem refdec (l : List Int) (hl : l.length ≤ 3000) {a b : Int} {s : ByteArray} {r : List R} {u : Int} (h : Evt (fun k => vinculumref03_Read.f k l 64) (a, b, s, r, u)) :
    Evt (fun k => vinculumref03_Decode.f k l) (if u = 0 then (0, 0, ⟨#[]⟩, [], 4) else if u = (l.length : Int) then (a, b, s, r, 0) else (0, 0, ⟨#[]⟩, [], 4)) := by
  obtain ⟨K, h⟩ := h
  refine ⟨K, fun k hk => ?_⟩
  have h' := h k hk
  dsimp only at h' ⊢
  unfold vinculumref03_Decode.f
  rw [h', Option.bind_some]
  dsimp only
  by_cases c : u = 0
  · rw [if_pos c, if_pos c]
  · rw [if_neg c, if_neg c]
    by_cases c2 : u = (l.length : Int)
    · rw [if_pos c2, if_pos c2, if_neg (by omega)]
    · rw [if_neg c2, if_neg c2]
theorem CodecDecodes : vinculumlaw03_CodecDecodes.Pure := by
  intro l0 hm hl hw
  have hb := bytes_wf hw
  by_cases c : (l0.length : Int) > 3000
  · refine ⟨30, ?_⟩
    unfold vinculumlaw03_CodecDecodes.f
    rw [awake03 _ (by omega), Option.bind_some, if_pos rfl, if_pos c]
  have fin : ∀ (x0 x1 : Int) (x2 : ByteArray) (x3 : List V) (e : Int) (y0 y1 : Int) (y2 : ByteArray) (y3 : List R), Evt (fun k => codec_Decode.f k l0) (x0, x1, x2, x3, e) → Evt (fun k => vinculumref03_Decode.f k l0) (y0, y1, y2, y3, e) →
      Evt (fun k => vinculumlaw03_back.f k x0 x1 x2 x3 3000) (y0, y1, y2, y3, true) → Evt (fun k => vinculumref03_Equal.f k y0 y1 y2 y3 y0 y1 y2 y3) true → ∃ k, vinculumlaw03_CodecDecodes.f k l0 = some true := by
    intro x0 x1 x2 x3 e y0 y1 y2 y3 ⟨K1, h1⟩ ⟨K2, h2⟩ ⟨K3, h3⟩ ⟨K4, h4⟩
    refine ⟨K1 + K2 + K3 + K4 + 30, ?_⟩
    have g1 := h1 (K1 + K2 + K3 + K4 + 30) (by omega)
    have g2 := h2 (K1 + K2 + K3 + K4 + 30) (by omega)
    have g3 := h3 (K1 + K2 + K3 + K4 + 30) (by omega)
    have g4 := h4 (K1 + K2 + K3 + K4 + 30) (by omega)
    dsimp only at g1 g2 g3 g4
    unfold vinculumlaw03_CodecDecodes.f
    rw [awake03 _ (by omega), Option.bind_some, if_pos rfl, if_neg c, Option.bind_some, if_pos (by rw [List.length_nil]; omega), Option.bind_some, List.nil_append, g1, Option.bind_some, g2, Option.bind_some]
    dsimp only
    rw [g3, Option.bind_some]
    dsimp only
    rw [if_pos rfl, if_pos rfl, g4, Option.bind_some, if_pos rfl]
    simp
  obtain ⟨K, hd⟩ := dec_any l0 hb (by omega)
  have ht : Tells 64 l0 := tells 64 (Nat.le_refl _) l0 hb (by omega)
  have zero : Evt (fun k => codec_Decode.f k l0) (0, 0, ⟨#[]⟩, [], 4) → Evt (fun k => vinculumref03_Decode.f k l0) (0, 0, ⟨#[]⟩, [], 4) → ∃ k, vinculumlaw03_CodecDecodes.f k l0 = some true := fun h1 h2 => fin _ _ _ _ _ _ _ _ _ h1 h2 zero_back zero_same
  rcases hd with ⟨h1, x, h2, h3⟩ | ⟨h1, h2⟩
  · rcases ht with ⟨y, p, rest, e1, e2, e3⟩ | ⟨e1, _⟩
    · have hp : p.length + rest.length = l0.length := by rw [e1, List.length_append]
      obtain ⟨rfl, rfl, rfl⟩ := unique (r := []) (s := rest) h2 e2 h1 (by omega) (by rw [List.append_nil]; exact e1)
      have g := refdec l0 (by omega) e3
      rw [if_neg (by have := Enc.pos h2; omega), if_pos rfl] at g
      obtain ⟨t0, t1, t2⟩ := toR_f 64 x
      have b := back_enc 64 x l0 h2 (by omega)
      have s := same_enc 64 x l0 h2 (by omega)
      rw [t0, t1, t2] at b s
      exact fin _ _ _ _ _ _ _ _ _ ⟨K, h3⟩ g b s
    · exact absurd h2 (e1 x l0 [] (List.append_nil _).symm)
  · rcases ht with ⟨y, p, rest, e1, e2, e3⟩ | ⟨e1, e2⟩
    · have hp : p.length + rest.length = l0.length := by rw [e1, List.length_append]
      have g := refdec l0 (by omega) e3
      rw [if_neg (by have := Enc.pos e2; omega), if_neg (fun h => by
        have : rest = [] := List.eq_nil_of_length_eq_zero (by omega)
        subst this
        rw [List.append_nil] at e1
        subst e1
        exact h1 y (by omega) e2)] at g
      exact zero ⟨K, h2⟩ g
    · have g := refdec l0 (by omega) e2
      rw [if_pos rfl] at g
      exact zero ⟨K, h2⟩ g
end Go.Proofs.Ytploigkfnkgjiaa.Pure
