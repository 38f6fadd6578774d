/- CodecCut: no proper beginning of an encoding is decoded, and nothing longer that begins with it. -/
import Derived.Test.YtploigkfnkgjiaaROC
namespace Go.Proofs.Ytploigkfnkgjiaa.Pure
set_option linter.unusedVariables false
set_option linter.unusedSimpArgs false
open Go.RowKit Go.Proofs.Ytploigkfnkgjiaa.PC Go.Proofs.Ytploigkfnkgjiaa.RC Go.Proofs.Ytploigkfnkgjiaa.RO Go.Proofs.YtploigkfnkgjiaaW.PrintWords Go.Proofs.YtploigkfnkgjiaaW.PrintMore
def Wf24 : Nat → R → Prop
  | 0, _ => False
  | d + 1, x => ((Lit.int .i64 x.f0).wf = true) ∧ ((Lit.int .i64 x.f1).wf = true) ∧ (x.f2.size ≤ 140737488351232) ∧ (x.f3.length * 56 ≤ 140737488351232 ∧ x.f3.length ≤ maxLen ∧ ∀ v ∈ x.f3, Wf24 d v)
theorem wf_to : ∀ (d : Nat) (x : R), Wf24 d x → RO.Wf d x
  | 0, _, h => h.elim
  | d + 1, x, h => by
    obtain ⟨h1, h2, h3, h4, h5, h6⟩ := h
    exact ⟨h1, h2, h3, h4, h5, fun v hv => wf_to d v (h6 v hv)⟩
theorem root (a b : Int) (s : ByteArray) (l : List R) (wa : (Lit.int .i64 a).wf = true) (wb : (Lit.int .i64 b).wf = true) (ws : s.size ≤ 140737488351232) (wl : l.length * 56 ≤ 140737488351232 ∧ l.length ≤ maxLen ∧ ∀ v ∈ l, ∃ d, Wf24 d v) : ∃ d, RO.Wf d ⟨a, b, s, l⟩ := by
  obtain ⟨h1, h2, h3⟩ := wl
  obtain ⟨d, hd⟩ := RO.Wf.common l (fun v hv => by obtain ⟨d, h⟩ := h3 v hv; exact ⟨d, wf_to d v h⟩)
  exact ⟨d + 1, wa, wb, ws, h1, h2, hd⟩
theorem wf8 {x : Int} : (Lit.int .u8 x).wf = true ↔ 0 ≤ x ∧ x ≤ 255 := by
  simp [Lit.wf, IntKind.min, IntKind.max, IntKind.signed, IntKind.bits]
theorem wf16 {x : Int} : (Lit.int .u16 x).wf = true ↔ 0 ≤ x ∧ x ≤ 65535 := by
  simp [Lit.wf, IntKind.min, IntKind.max, IntKind.signed, IntKind.bits]
theorem bytes_wf {l : List Int} (h : ∀ x ∈ l, (Lit.int .u8 x).wf = true) : Bytes l := fun x hx => by
  have := wf8.1 (h x hx)
  omega
theorem cut (x : V) (l more : List Int) (a : Int) (ha : 0 ≤ a ∧ a ≤ 65535) (hx : Enc 64 x l) (hl : l.length ≤ 1048576) (hm : Bytes more) (hml : more.length ≤ 100) : ∃ K, ∀ k, K ≤ k → vinculumlaw03_CodecCut.j1 k a more l 0 false = some true := by
  have hb := Enc.bytes _ _ _ hx
  have hp := Enc.pos hx
  obtain ⟨n, hn⟩ : ∃ n : Nat, Int.tmod (wrap64 a) (l.length : Int) = n ∧ n < l.length := by
    rw [show wrap64 a = a from by unfold wrap64; omega, Int.tmod_eq_emod_of_nonneg ha.1]
    have h1 := Int.emod_nonneg a (show (l.length : Int) ≠ 0 by omega)
    have h2 := Int.emod_lt_of_pos a (show (0 : Int) < (l.length : Int) by omega)
    exact ⟨(a % (l.length : Int)).toNat, by omega, by omega⟩
  obtain ⟨hn, hnl⟩ := hn
  have hbt : Bytes (l.take n) := fun y hy => hb y (List.mem_of_mem_take hy)
  have htl : (l.take n).length = n := by rw [List.length_take]; omega
  obtain ⟨K1, ⟨q1, y, q2, _⟩ | ⟨_, h1⟩⟩ := dec_any (l.take n) hbt (by omega)
  · have := (unique (r := l.drop n) (s := []) q2 hx q1 hl (by rw [List.append_nil, List.take_append_drop])).2.1
    rw [this] at htl
    omega
  have hbm : Bytes (l ++ more) := fun y hy => (List.mem_append.1 hy).elim (hb y) (hm y)
  have hlm : (l ++ more).length = l.length + more.length := List.length_append
  have fin : ∀ K2 (z : V) (e : Int), (∀ k, K2 ≤ k → codec_Decode.f k (l ++ more) = some (z.f0, z.f1, z.f2, z.f3, e)) → ((e == 0) == ((more.length : Int) == 0)) = true → ∃ K, ∀ k, K ≤ k → vinculumlaw03_CodecCut.j1 k a more l 0 false = some true := fun K2 z e h2 he => by
    refine ⟨K1 + K2 + 1, fun k hk => ?_⟩
    obtain ⟨k, rfl⟩ : ∃ q, k = q + 1 := ⟨k - 1, by omega⟩
    simp only [vinculumlaw03_CodecCut.j1]
    rw [if_neg (by decide), if_neg (by omega), hn, if_pos (by omega), if_pos (by omega), Int.toNat_natCast, h1 k (by omega), Option.bind_some, Option.bind_some, if_pos (by rw [List.length_nil]; omega), Option.bind_some, List.nil_append, if_pos (by omega), h2 k (by omega), Option.bind_some]
    dsimp only
    rw [if_pos rfl, he]
  obtain ⟨K2, ⟨q1, y, q2, q3⟩ | ⟨q1, q2⟩⟩ := dec_any (l ++ more) hbm (by omega)
  · have h := (unique (r := more) (s := []) hx q2 hl q1 (by rw [List.append_nil])).2.1
    have : more.length = 0 := by
      have e := congrArg List.length h
      omega
    exact fin K2 y 0 q3 (by rw [this]; rfl)
  · by_cases c : more.length = 0
    · have hnil := List.eq_nil_of_length_eq_zero c
      subst hnil
      exact absurd (show Enc 64 x (l ++ []) by rw [List.append_nil]; exact hx) (q1 x (by omega))
    · exact fin K2 ⟨0, 0, ⟨#[]⟩, []⟩ 4 q2 (by
        have : ((more.length : Int) == 0) = false := beq_eq_false_iff_ne.2 (by omega)
        rw [this]
        rfl)
theorem CodecCut (a b : Int) (s : ByteArray) (l : List R) (a1 : Int) (l2 : List Int) (wa : (Lit.int .i64 a).wf = true) (wb : (Lit.int .i64 b).wf = true) (ws : s.size ≤ 140737488351232) (wl : l.length * 56 ≤ 140737488351232 ∧ l.length ≤ maxLen ∧ ∀ v ∈ l, ∃ d, Wf24 d v)
    (w1 : (Lit.int .u16 a1).wf = true) (w2 : l2.length * 1 ≤ 140737488351232 ∧ l2.length ≤ maxLen ∧ ∀ v ∈ l2, (Lit.int .u8 v).wf = true) : ∃ k, vinculumlaw03_CodecCut.f k a b s l a1 l2 = some true := by
  obtain ⟨d, hd⟩ := root a b s l wa wb ws wl
  obtain ⟨K, h⟩ := few_f d _ hd
  have j : ∀ k, 0 < k → vinculumlaw03_CodecCut.j0 k a1 l2 true a b s l = some true := fun k hk => by
    obtain ⟨k, rfl⟩ : ∃ m, k = m + 1 := ⟨k - 1, by omega⟩
    simp [vinculumlaw03_CodecCut.j0]
  rcases h with h | ⟨hs, h⟩
  · refine ⟨K + 30, ?_⟩
    unfold vinculumlaw03_CodecCut.f
    rw [awake03 _ (by omega), Option.bind_some, if_pos rfl, h _ (by omega), Option.bind_some, if_neg (by simp), j _ (by omega)]
  · by_cases c : (l2.length : Int) > 100
    · refine ⟨K + 30, ?_⟩
      unfold vinculumlaw03_CodecCut.f
      rw [awake03 _ (by omega), Option.bind_some, if_pos rfl, h _ (by omega), Option.bind_some, if_pos rfl, decide_eq_true c, j _ (by omega)]
    · have o := own_f d ⟨a, b, s, l⟩ hs
      obtain ⟨K1, ⟨f, hf1, hf2, h1⟩ | ⟨er, he', h1⟩⟩ := own_encode d ⟨a, b, s, l⟩ hs
      · obtain ⟨K2, h2⟩ := cut _ f l2 a1 (wf16.1 w1) hf1 hf2 (bytes_wf w2.2.2) (by omega)
        have hp := Enc.pos hf1
        refine ⟨K + K1 + K2 + 400 * d + 31, ?_⟩
        unfold vinculumlaw03_CodecCut.f
        rw [awake03 _ (by omega), Option.bind_some, if_pos rfl, h _ (by omega), Option.bind_some, if_pos rfl, decide_eq_false c]
        simp only [vinculumlaw03_CodecCut.j0]
        have o' := o (K + K1 + K2 + 400 * d + 30) (by omega)
        dsimp only at o'
        rw [if_neg (by decide), o', Option.bind_some]
        dsimp only
        rw [h1 _ (by omega), Option.bind_some]
        dsimp only
        rw [if_pos rfl, show ((f.length : Int) == 0) = false from beq_eq_false_iff_ne.2 (by omega), h2 _ (by omega)]
      · refine ⟨K + K1 + 400 * d + 32, ?_⟩
        unfold vinculumlaw03_CodecCut.f
        rw [awake03 _ (by omega), Option.bind_some, if_pos rfl, h _ (by omega), Option.bind_some, if_pos rfl, decide_eq_false c]
        simp only [vinculumlaw03_CodecCut.j0]
        have o' := o (K + K1 + 400 * d + 31) (by omega)
        dsimp only at o'
        rw [if_neg (by decide), o', Option.bind_some]
        dsimp only
        rw [h1 _ (by omega), Option.bind_some]
        dsimp only
        rw [if_neg he']
        simp only [vinculumlaw03_CodecCut.j1]
        rw [if_pos trivial]
        simp [he']
end Go.Proofs.Ytploigkfnkgjiaa.Pure
