/- CodecNext: Next returns the value with whose encoding the bytes begin, and the rest, or ErrForm, as the reference does. -/
import Derived.Test.YtploigkfnkgjiaaRRN
namespace Go.Proofs.Ytploigkfnkgjiaa.Pure
set_option linter.unusedVariables false
set_option linter.unusedSimpArgs false
open Go.RowKit Go.Proofs.Ytploigkfnkgjiaa.PN Go.Proofs.Ytploigkfnkgjiaa.RC Go.Proofs.Ytploigkfnkgjiaa.RR Go.Proofs.YtploigkfnkgjiaaW.PrintWords Go.Proofs.YtploigkfnkgjiaaW.PrintMore
theorem wf8 {x : Int} : (Lit.int .u8 x).wf = true ↔ 0 ≤ x ∧ x ≤ 255 := by
  simp [Lit.wf, IntKind.min, IntKind.max, IntKind.signed, IntKind.bits]
theorem bytes_wf {l : List Int} (h : ∀ x ∈ l, (Lit.int .u8 x).wf = true) : Bytes l := fun x hx => by
  have := wf8.1 (h x hx)
  omega
theorem zero_equal : Evt (fun k => codec_Equal.f k 0 0 ⟨#[]⟩ [] 0 0 ⟨#[]⟩ []) true := ⟨3, fun k hk => by
  obtain ⟨k, rfl⟩ : ∃ q, k = q + 1 + 1 + 1 := ⟨k - 3, by omega⟩
  simp [codec_Equal.f, codec_Equal.j0, codec_Equal.l0]⟩
theorem CodecNext : vinculumlaw03_CodecNext.Pure := by
  intro l0 hm hl hw
  have hb := bytes_wf hw
  by_cases c : (l0.length : Int) > 3000
  · refine ⟨30, ?_⟩
    unfold vinculumlaw03_CodecNext.f
    rw [awake03 _ (by omega), Option.bind_some, if_pos rfl, if_pos c]
  obtain ⟨K, hd⟩ := next_any l0 hb (by omega)
  have ht : Tells 64 l0 := tells 64 (Nat.le_refl _) l0 hb (by omega)
  rcases hd with ⟨x, p, rest, e0, h2, h3⟩ | ⟨h1, h2⟩
  · have hp0 : p.length + rest.length = l0.length := by rw [e0, List.length_append]
    rcases ht with ⟨y, q, s, e1, e2, e3⟩ | ⟨e1, _⟩
    · have hp : q.length + s.length = l0.length := by rw [e1, List.length_append]
      obtain ⟨rfl, rfl, rfl⟩ := unique (r := rest) (s := s) h2 e2 (by omega) (by omega) (by rw [← e0, ← e1])
      obtain ⟨t0, t1, t2⟩ := toR_f 64 x
      have b := back_enc 64 x p h2 (by omega)
      have s := same_enc 64 x p h2 (by omega)
      rw [t0, t1, t2] at b s
      obtain ⟨K2, e3⟩ := e3
      obtain ⟨K3, b⟩ := b
      obtain ⟨K4, s⟩ := s
      refine ⟨K + K2 + K3 + K4 + 30, ?_⟩
      have g1 := h3 (K + K2 + K3 + K4 + 30) (by omega)
      have g2 := e3 (K + K2 + K3 + K4 + 30) (by omega)
      have g3 := b (K + K2 + K3 + K4 + 30) (by omega)
      have g4 := s (K + K2 + K3 + K4 + 30) (by omega)
      have g2 : vinculumref03_Read.f (K + K2 + K3 + K4 + 30) l0 64 = some (x.f0, x.f1, x.f2, (toR 64 x).f3, (p.length : Int)) := g2
      dsimp only at g1 g3 g4
      have hpos := Enc.pos h2
      have hdr : l0.drop p.length = rest := by rw [e0, List.drop_append_of_le_length (Nat.le_refl _), List.drop_of_length_le (Nat.le_refl _), List.nil_append]
      unfold vinculumlaw03_CodecNext.f
      rw [awake03 _ (by omega), Option.bind_some, if_pos rfl, if_neg c, g1, Option.bind_some, g2, Option.bind_some]
      dsimp only
      rw [if_neg (by omega), g3, Option.bind_some]
      dsimp only
      rw [if_pos rfl, if_pos rfl, g4, Option.bind_some, if_pos rfl, if_pos (by omega), if_pos (by omega), Int.toNat_natCast, hdr]
      simp
    · exact absurd h2 (e1 x p rest e0)
  · rcases ht with ⟨y, p, rest, e1, e2, e3⟩ | ⟨e1, e2⟩
    · have hp : p.length + rest.length = l0.length := by rw [e1, List.length_append]
      exact absurd e2 (h1 y p rest e1 (by omega))
    · obtain ⟨K2, e2⟩ := e2
      obtain ⟨K3, e3⟩ := zero_equal
      refine ⟨K + K2 + K3 + 30, ?_⟩
      have g1 := h2 (K + K2 + K3 + 30) (by omega)
      have g2 : vinculumref03_Read.f (K + K2 + K3 + 30) l0 64 = some (0, 0, ⟨#[]⟩, [], 0) := e2 (K + K2 + K3 + 30) (by omega)
      have g3 := e3 (K + K2 + K3 + 30) (by omega)
      dsimp only at g3
      unfold vinculumlaw03_CodecNext.f
      rw [awake03 _ (by omega), Option.bind_some, if_pos rfl, if_neg c, g1, Option.bind_some, g2, Option.bind_some]
      dsimp only
      rw [if_pos rfl, if_pos rfl, g3, Option.bind_some, if_pos rfl]
      rfl
end Go.Proofs.Ytploigkfnkgjiaa.Pure
