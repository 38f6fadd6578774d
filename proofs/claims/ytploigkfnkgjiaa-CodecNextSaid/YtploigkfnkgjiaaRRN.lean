/- Layer 3's reference reads what the program reads. Lemmas only. -/
import Derived.Test.YtploigkfnkgjiaaPNx0
import Derived.Test.YtploigkfnkgjiaaPNx1
import Derived.Test.YtploigkfnkgjiaaPNx2
import Derived.Test.YtploigkfnkgjiaaPNx3
import Derived.Test.YtploigkfnkgjiaaPNx4
import Derived.Test.YtploigkfnkgjiaaPNx5
import Derived.Test.YtploigkfnkgjiaaPNx6
import Derived.Test.YtploigkfnkgjiaaPNx7
import Derived.Test.YtploigkfnkgjiaaPNx8
import Derived.Test.YtploigkfnkgjiaaRCN
namespace Go.Proofs.Ytploigkfnkgjiaa.RR
set_option linter.unusedVariables false
set_option linter.unusedSimpArgs false
open Go.RowKit Go.Proofs.Ytploigkfnkgjiaa.PN Go.Proofs.Ytploigkfnkgjiaa.RC Go.Proofs.YtploigkfnkgjiaaW.PrintWords Go.Proofs.YtploigkfnkgjiaaW.PrintMore

abbrev R := S24
theorem rdR {l : List R} {i : Nat} (h : i < l.length) : rd_T24 l (i : Int) = l[i] := by simp [rd_T24, h]
def Evt {α : Type} (f : Nat → Option α) (r : α) : Prop := ∃ K, ∀ k, K ≤ k → f k = some r
theorem Evt.const {α : Type} (r : α) : Evt (fun _ => some r) r := ⟨0, fun _ _ => rfl⟩
theorem Evt.step {α : Type} {f g : Nat → Option α} {r : α} (h : Evt g r) (e : ∀ k, f (k + 1) = g k) : Evt f r := by
  obtain ⟨K, h⟩ := h
  refine ⟨K + 1, fun k hk => ?_⟩
  obtain ⟨k, rfl⟩ : ∃ q, k = q + 1 := ⟨k - 1, by omega⟩
  rw [e, h k (by omega)]
theorem Evt.bind {α β : Type} {f : Nat → Option α} {g : Nat → α → Option β} {a : α} {r : β} (h : Evt f a) (e : Evt (fun k => g k a) r) : Evt (fun k => (f k).bind (g k)) r := by
  obtain ⟨K1, h⟩ := h
  obtain ⟨K2, e⟩ := e
  exact ⟨K1 + K2, fun k hk => by dsimp only; rw [h k (by omega)]; exact e k (by omega)⟩
theorem Evt.uniq {α : Type} {f : Nat → Option α} {a b : α} (h : Evt f a) (g : Evt f b) : a = b := by
  obtain ⟨K1, h⟩ := h
  obtain ⟨K2, g⟩ := g
  have := h (K1 + K2) (by omega)
  rw [g (K1 + K2) (by omega)] at this
  exact (Option.some.inj this).symm
def toR : Nat → V → R
  | 0, x => ⟨x.f0, x.f1, x.f2, []⟩
  | d + 1, x => ⟨x.f0, x.f1, x.f2, x.f3.map (toR d)⟩
theorem toR_f (d : Nat) (x : V) : (toR d x).f0 = x.f0 ∧ (toR d x).f1 = x.f1 ∧ (toR d x).f2 = x.f2 := by cases d <;> exact ⟨rfl, rfl, rfl⟩

/-! ### what stands in front -/
theorem uniqueD {d : Nat} (hd : d ≤ 64) {x y : V} {p q r s : List Int} (hx : Enc d x p) (hy : Enc d y q) (hp : p.length ≤ 1048576) (hq : q.length ≤ 1048576) (h : p ++ r = q ++ s) : x = y ∧ p = q ∧ r = s := by
  obtain ⟨K1, h1⟩ := read_enc d x p hx hp (d : Int) (Int.le_refl _) (by omega) r
  obtain ⟨K2, h2⟩ := read_enc d y q hy hq (d : Int) (Int.le_refl _) (by omega) s
  have e1 := h1 (K1 + K2) (by omega)
  have e2 := h2 (K1 + K2) (by omega)
  rw [h, e2] at e1
  simp only [Option.some.injEq, Prod.mk.injEq] at e1
  obtain ⟨rfl, _, rfl⟩ := e1
  exact ⟨rfl, List.append_cancel_right h, rfl⟩
theorem enc_head {d : Nat} {x : V} {p rest : List Int} (h : Enc (d + 1) x p) : ∃ (n : Int) (body : List Int), rheadS (p ++ rest) = (x.f0, n, true, body ++ rest) ∧
      ((x.f0 = 1 ∧ -9223372036854775808 ≤ x.f1 ∧ x.f1 ≤ 9223372036854775807 ∧ x.f2 = ⟨#[]⟩ ∧ x.f3 = [] ∧ n = numI x.f1 ∧ body = []) ∨
       (x.f0 = 2 ∧ x.f1 = 0 ∧ x.f3 = [] ∧ n = (x.f2.size : Int) ∧ body = bytesOf x.f2) ∨
       (x.f0 = 3 ∧ x.f1 = 0 ∧ x.f2 = ⟨#[]⟩ ∧ n = (x.f3.length : Int) ∧ Encs (Enc d) x.f3 body)) := by
  have hk := Enc.kind h
  obtain ⟨n, hd, body, h0, _, hh, rfl, hc⟩ := h
  exact ⟨n, body, by rw [List.append_assoc, read_head hk h0 hh], hc⟩

/-! ### the head -/
abbrev Res := Int × Int × ByteArray × List R × Int
def zR : Res := (0, 0, ⟨#[]⟩, [], 0)
theorem rd_succ (x : Int) (r : List Int) (j : Nat) : rd (x :: r) ((j : Int) + 1) = rd r (j : Int) := by
  unfold rd
  rw [show ((j : Int) + 1).toNat = j + 1 from by omega, Int.toNat_natCast, List.getD_cons_succ]
theorem fold_small (o : List Int) (hb : Bytes o) (h : o.length ≤ 8) : 0 ≤ foldB o ∧ foldB o < 18446744073709551616 := by
  obtain ⟨_, h2⟩ := dn_fold o.length o rfl hb
  have h3 := foldB_nonneg o hb
  have h4 : pw o.length ≤ pw 8 := pw_mono h
  have h5 : pw 8 = 18446744073709551616 := rfl
  have h6 := pw_pos o.length
  refine ⟨h3, ?_⟩
  have : foldB o < pw o.length := by
    by_cases c : foldB o < pw o.length
    · exact c
    · have := Int.le_ediv_of_mul_le h6 (show 1 * pw o.length ≤ foldB o by omega)
      omega
  omega
theorem head_loop (x : Int) (r : List Int) (hb : Bytes r) (hr : r.length ≤ 100000) (m : Int) (c : Nat) (hc : c ≤ 8) (hcr : c ≤ r.length) (at_ kd : Int) (res : Res) (e : Nat) :
    ∀ j : Nat, j ≤ c → c - j = e → (56 ≤ foldB (r.take c) → Evt (fun k => vinculumref03_Read.j3 k (x :: r) m (foldB (r.take c)) at_ kd 0 ⟨#[]⟩) res) → (foldB (r.take c) < 56 → res = zR) →
      Evt (fun k => vinculumref03_Read.l0 k (x :: r) m (foldB (r.take j)) at_ (c : Int) ((j : Int) + 1) kd 0 ⟨#[]⟩) res := by
  induction e with
  | zero =>
    intro j hj he h1 h2
    obtain rfl : j = c := by omega
    by_cases h56 : foldB (r.take j) < 56
    · rw [h2 h56]
      exact (Evt.const zR).step fun k => by simp only [vinculumref03_Read.l0]; rw [if_neg (by omega), if_pos h56]; rfl
    · exact (h1 (by omega)).step fun k => by simp only [vinculumref03_Read.l0]; rw [if_neg (by omega), if_neg h56]
  | succ e ih =>
    intro j hj he h1 h2
    refine (ih (j + 1) (by omega) (by omega) h1 h2).step fun k => ?_
    have hlt : j < r.length := by omega
    have e1 := foldB_succ r j hlt
    have b0 := fold_small (r.take j) (fun y hy => hb y (List.mem_of_mem_take hy)) (by rw [List.length_take]; omega)
    have b1 := fold_small (r.take (j + 1)) (fun y hy => hb y (List.mem_of_mem_take hy)) (by rw [List.length_take]; omega)
    have hrd : 0 ≤ rd r (j : Int) ∧ rd r (j : Int) < 256 := by
      have : rd r (j : Int) = r[j] := by simp [rd, hlt]
      rw [this]
      exact hb _ (List.getElem_mem hlt)
    have hw : IntKind.u64.wrap ((IntKind.u64.wrap (256 * foldB (r.take j))) + (IntKind.u64.wrap (rd r (j : Int)))) = foldB (r.take (j + 1)) := by
      rw [wu, wu, wu]
      omega
    simp only [vinculumref03_Read.l0]
    rw [if_pos (by omega), if_pos (by omega), if_pos (by rw [List.length_cons]; omega), rd_succ, hw, show wrap64 ((j : Int) + 1 + 1) = ((j + 1 : Nat) : Int) + 1 from by unfold wrap64; omega]
theorem ref_head (l : List Int) (hb : Bytes l) (hl : l.length ≤ 100000) (m : Int) (hm : ¬ m = 0) (kd n : Int) (rest : List Int) (ok : Bool) (hh : rheadS l = (kd, n, ok, rest)) (res : Res)
    (h1 : ok = true → 1 ≤ kd → ∀ at_ : Nat, at_ + rest.length = l.length → l.drop at_ = rest → Evt (fun k => vinculumref03_Read.j3 k l m n (at_ : Int) kd 0 ⟨#[]⟩) res) (h2 : ¬ (ok = true ∧ 1 ≤ kd) → res = zR) :
    Evt (fun k => vinculumref03_Read.f k l m) res := by
  cases l with
  | nil =>
    simp only [rheadS, Prod.mk.injEq] at hh
    obtain ⟨rfl, rfl, rfl, rfl⟩ := hh
    rw [h2 (by simp)]
    refine ⟨2, fun k hk => ?_⟩
    obtain ⟨k, rfl⟩ : ∃ q, k = q + 1 + 1 := ⟨k - 2, by omega⟩
    simp only [vinculumref03_Read.f]
    rw [if_pos (by simp)]
    simp only [vinculumref03_Read.j0]
    rw [if_pos trivial]
    rfl
  | cons x r =>
    have hx := hb x List.mem_cons_self
    have hbr : Bytes r := fun y hy => hb y (List.mem_cons_of_mem _ hy)
    have hrd : rd (x :: r) 0 = x := rfl
    rw [List.length_cons] at hl
    have hf : ∀ k, vinculumref03_Read.f (k + 1) (x :: r) m = vinculumref03_Read.j0 k (x :: r) m (decide (x < 64)) := fun k => by
      simp only [vinculumref03_Read.f]
      rw [if_neg (by rw [List.length_cons]; omega), if_neg hm, if_pos (by rw [List.length_cons]; omega), hrd]
    refine Evt.step ?_ hf
    simp only [rheadS] at hh
    by_cases c0 : x < 64
    · have hkd : kd = 0 := by
        split at hh
        · simp only [Prod.mk.injEq] at hh; omega
        · split at hh
          · simp only [Prod.mk.injEq] at hh; omega
          · split at hh <;> (simp only [Prod.mk.injEq] at hh; omega)
      rw [h2 (by omega)]
      exact (Evt.const zR).step fun k => by simp only [vinculumref03_Read.j0]; rw [if_pos (decide_eq_true c0)]; rfl
    have hd0 : decide (x < 64) = false := decide_eq_false c0
    have e0 : IntKind.u64.wrap (Int.tmod x 64) = x % 64 := by rw [Int.tmod_eq_emod_of_nonneg (by omega), wu]; omega
    have e1 : wrap64 (Int.tdiv (wrap64 x) 64) = x / 64 := by rw [show wrap64 x = x from by unfold wrap64; omega, Int.tdiv_eq_ediv_of_nonneg (by omega)]; unfold wrap64; omega
    by_cases c1 : x % 64 < 56
    · rw [if_pos c1] at hh
      simp only [Prod.mk.injEq] at hh
      obtain ⟨rfl, rfl, rfl, rfl⟩ := hh
      refine (h1 rfl (by omega) 1 (by rw [List.length_cons]; omega) rfl).step fun k => ?_
      simp only [vinculumref03_Read.j0]
      rw [hd0, if_neg (by decide), if_pos (by rw [List.length_cons]; omega), hrd, e0, e1, if_neg (by omega)]
      rfl
    rw [if_neg c1] at hh
    have e2 : wrap64 (wrap64 (x % 64) - 55) = x % 64 - 55 := by rw [show wrap64 (x % 64) = x % 64 from by unfold wrap64; omega]; unfold wrap64; omega
    obtain ⟨c, hc⟩ : ∃ c : Nat, x % 64 - 55 = c := ⟨(x % 64 - 55).toNat, by omega⟩
    rw [hc] at hh e2
    have e3 : wrap64 (1 + (c : Int)) = 1 + (c : Int) := by unfold wrap64; omega
    by_cases c2 : (c : Int) > (r.length : Int)
    · rw [if_pos c2] at hh
      simp only [Prod.mk.injEq] at hh
      obtain ⟨_, _, rfl, _⟩ := hh
      rw [h2 (by simp)]
      refine Evt.step (g := fun k => vinculumref03_Read.j1 k (x :: r) m (c : Int) true (x / 64) 0 ⟨#[]⟩) ?_ fun k => ?_
      · exact (Evt.const zR).step fun k => by simp only [vinculumref03_Read.j1]; rw [if_pos trivial]; rfl
      · simp only [vinculumref03_Read.j0]
        rw [hd0, if_neg (by decide), if_pos (by rw [List.length_cons]; omega), hrd, e0, e1, e2, e3, if_pos (by omega), if_pos (by rw [List.length_cons]; omega)]
    rw [if_neg c2] at hh
    have hr1 : rd (x :: r) 1 = rd r 0 := rd_succ x r 0
    refine Evt.step (g := fun k => vinculumref03_Read.j1 k (x :: r) m (c : Int) (rd r 0 == 0) (x / 64) 0 ⟨#[]⟩) ?_ fun k => ?_
    · by_cases c3 : rd r 0 = 0
      · rw [if_pos (.inl c3)] at hh
        simp only [Prod.mk.injEq] at hh
        obtain ⟨_, _, rfl, _⟩ := hh
        rw [h2 (by simp)]
        exact (Evt.const zR).step fun k => by simp only [vinculumref03_Read.j1]; rw [if_pos (beq_iff_eq.2 c3)]; rfl
      · refine Evt.step (g := fun k => vinculumref03_Read.l0 k (x :: r) m (foldB (r.take 0)) (1 + (c : Int)) (c : Int) (((0 : Nat) : Int) + 1) (x / 64) 0 ⟨#[]⟩) ?_ fun k => ?_
        · obtain ⟨q, rfl⟩ : ∃ q, c = q + 1 := ⟨c - 1, by omega⟩
          cases r with
          | nil => simp at c2
          | cons y r' =>
            have hy := hbr y List.mem_cons_self
            have hyd : rd (y :: r') 0 = y := rfl
            rw [hyd] at c3 hh
            have hl' := fold_lead (r'.take q) (fun z hz => hbr z (List.mem_cons_of_mem _ (List.mem_of_mem_take hz))) y (by omega)
            have hq : (r'.take q).length = q := by rw [List.length_take]; rw [List.length_cons] at c2; omega
            rw [hq] at hl'
            have htk : (y :: r').take (q + 1) = y :: r'.take q := List.take_succ_cons
            refine head_loop x (y :: r') hbr (by omega) m (q + 1) (by omega) (by omega) _ _ res (q + 1) 0 (by omega) (by omega) (fun h56 => ?_) (fun h56 => ?_)
            · rw [if_neg (by
                rintro (e | ⟨e1, e2⟩)
                · exact c3 e
                · obtain rfl : q = 0 := by omega
                  rw [htk, List.take_zero] at h56
                  have : foldB [y] = y := by show (0 : Int) * 256 + y = y; omega
                  omega)] at hh
              simp only [Prod.mk.injEq] at hh
              obtain ⟨rfl, rfl, rfl, rfl⟩ := hh
              have := h1 rfl (by omega) (1 + (q + 1)) (by simp only [List.length_cons, List.length_drop, Int.toNat_natCast] at c2 ⊢; omega) (by rw [Int.toNat_natCast, Nat.add_comm 1, List.drop_succ_cons])
              rw [Int.toNat_natCast] at this
              exact this
            · have hc1 : q = 0 := by
                by_cases hq0 : q = 0
                · exact hq0
                · have : pw 1 ≤ pw q := pw_mono (by omega)
                  have e : pw 1 = 256 := rfl
                  rw [htk] at h56
                  omega
              subst hc1
              rw [htk, List.take_zero] at h56
              have : foldB [y] = y := by show (0 : Int) * 256 + y = y; omega
              rw [if_pos (.inr ⟨rfl, by omega⟩)] at hh
              simp only [Prod.mk.injEq] at hh
              exact h2 (by rw [← hh.2.2.1]; simp)
        · simp only [vinculumref03_Read.j1]
          rw [if_neg (by simpa using c3), e3]
          rfl
    · simp only [vinculumref03_Read.j0]
      rw [hd0, if_neg (by decide), if_pos (by rw [List.length_cons]; omega), hrd, e0, e1, e2, e3, if_pos (by omega), if_neg (by rw [List.length_cons]; omega), if_pos (by rw [List.length_cons]; omega), hr1]

/-! ### values -/
/-- Either an encoding stands in front, and is read, or none does. -/
def Tells (d : Nat) (l : List Int) : Prop :=
  (∃ x p rest, l = p ++ rest ∧ Enc d x p ∧ Evt (fun k => vinculumref03_Read.f k l (d : Int)) (x.f0, x.f1, x.f2, (toR d x).f3, (p.length : Int))) ∨
  ((∀ x p rest, l = p ++ rest → ¬ Enc d x p) ∧ Evt (fun k => vinculumref03_Read.f k l (d : Int)) zR)
theorem rEta : ∀ v : R, (⟨v.f0, v.f1, v.f2, v.f3⟩ : R) = v
  | ⟨_, _, _, _⟩ => rfl
theorem list_loop (d : Nat) (hd : d + 1 ≤ 64) (ih : ∀ l : List Int, Bytes l → l.length ≤ 100000 → Tells d l) (l : List Int) (hb : Bytes l) (hl : l.length ≤ 100000) (N : Int) (hN : 0 ≤ N ∧ N ≤ 100000) (e : Nat) :
    ∀ (i at_ : Nat) (acc : List R), (i : Int) ≤ N → N - i = e → at_ ≤ l.length → acc.length = i →
      (∃ xs b rest, l.drop at_ = b ++ rest ∧ Encs (Enc d) xs b ∧ xs.length = e ∧ Evt (fun k => vinculumref03_Read.l1 k l ((d + 1 : Nat) : Int) N (at_ : Int) (i : Int) 3 0 ⟨#[]⟩ acc) (3, 0, ⟨#[]⟩, acc ++ xs.map (toR d), ((at_ + b.length : Nat) : Int))) ∨
      ((∀ xs b rest, l.drop at_ = b ++ rest → xs.length = e → ¬ Encs (Enc d) xs b) ∧ Evt (fun k => vinculumref03_Read.l1 k l ((d + 1 : Nat) : Int) N (at_ : Int) (i : Int) 3 0 ⟨#[]⟩ acc) zR) := by
  have hw : wrap64 N = N := by unfold wrap64; omega
  induction e with
  | zero =>
    intro i at_ acc hi he hat ha
    refine .inl ⟨[], [], l.drop at_, rfl, rfl, rfl, ?_⟩
    refine (Evt.const _).step fun k => ?_
    simp only [vinculumref03_Read.l1]
    rw [hw, if_neg (by omega)]
    simp
  | succ e ihe =>
    intro i at_ acc hi he hat ha
    have hbd : Bytes (l.drop at_) := fun y hy => hb y (List.mem_of_mem_drop hy)
    have hm : wrap64 (((d + 1 : Nat) : Int) - 1) = (d : Int) := by unfold wrap64; omega
    rcases ih (l.drop at_) hbd (by rw [List.length_drop]; omega) with ⟨x, p, rest, e1, e2, e3⟩ | ⟨e1, e2⟩
    · have hp := Enc.pos e2
      have hlen : l.length - at_ = p.length + rest.length := by rw [← List.length_drop, e1, List.length_append]
      have hdr : l.drop (at_ + p.length) = rest := by rw [← List.drop_drop, e1, List.drop_append_of_le_length (Nat.le_refl _), List.drop_of_length_le (Nat.le_refl _), List.nil_append]
      have hstep : ∀ r, Evt (fun k => vinculumref03_Read.l1 k l ((d + 1 : Nat) : Int) N ((at_ + p.length : Nat) : Int) ((i + 1 : Nat) : Int) 3 0 ⟨#[]⟩ (acc ++ [toR d x])) r → Evt (fun k => vinculumref03_Read.l1 k l ((d + 1 : Nat) : Int) N (at_ : Int) (i : Int) 3 0 ⟨#[]⟩ acc) r := fun r h => by
        obtain ⟨K1, h⟩ := h
        obtain ⟨K2, e3⟩ := e3
        refine ⟨K1 + K2 + 1, fun k hk => ?_⟩
        obtain ⟨k, rfl⟩ : ∃ q, k = q + 1 := ⟨k - 1, by omega⟩
        have h' := h k (by omega)
        have e3' := e3 k (by omega)
        dsimp only at h' e3' ⊢
        simp only [vinculumref03_Read.l1]
        obtain ⟨t0, t1, t2⟩ := toR_f d x
        rw [hw, if_pos (by omega), if_pos (by omega), if_pos (by omega), Int.toNat_natCast, hm, e3', Option.bind_some]
        dsimp only
        rw [if_neg (by omega), if_pos (by omega), ← t0, ← t1, ← t2, rEta, show wrap64 ((at_ : Int) + (p.length : Int)) = ((at_ + p.length : Nat) : Int) from by unfold wrap64; omega, show wrap64 ((i : Int) + 1) = ((i + 1 : Nat) : Int) from by unfold wrap64; omega]
        exact h'
      rcases ihe (i + 1) (at_ + p.length) (acc ++ [toR d x]) (by omega) (by omega) (by omega) (by rw [List.length_append, ha]; rfl) with ⟨xs, b, rest', g1, g2, g3, g4⟩ | ⟨g1, g2⟩
      · refine .inl ⟨x :: xs, p ++ b, rest', ?_, ⟨p, b, rfl, e2, g2⟩, by rw [List.length_cons, g3], ?_⟩
        · rw [e1, List.append_assoc, ← g1, hdr]
        · have := hstep _ g4
          rw [List.append_assoc] at this
          rw [List.length_append, ← Nat.add_assoc]
          exact this
      · refine .inr ⟨fun xs b rest' q1 q2 q3 => ?_, hstep _ g2⟩
        cases xs with
        | nil => simp at q2
        | cons y ys =>
          obtain ⟨f, b', rfl, q4, q5⟩ := q3
          have ql : f.length + b'.length + rest'.length = l.length - at_ := by rw [← List.length_drop, q1]; simp only [List.length_append]
          obtain ⟨_, _, u3⟩ := uniqueD (by omega) e2 q4 (by omega) (by omega) (show p ++ rest = f ++ (b' ++ rest') by rw [← e1, q1, List.append_assoc])
          exact g1 ys b' rest' (by rw [hdr, u3]) (by simpa using q2) q5
    · refine .inr ⟨fun xs b rest' q1 q2 q3 => ?_, ?_⟩
      · cases xs with
        | nil => simp at q2
        | cons y ys =>
          obtain ⟨f, b', rfl, q4, q5⟩ := q3
          exact e1 y f (b' ++ rest') (by rw [q1, List.append_assoc]) q4
      · obtain ⟨K2, e2⟩ := e2
        refine ⟨K2 + 1, fun k hk => ?_⟩
        obtain ⟨k, rfl⟩ : ∃ q, k = q + 1 := ⟨k - 1, by omega⟩
        have e2' := e2 k (by omega)
        dsimp only at e2' ⊢
        simp only [vinculumref03_Read.l1]
        rw [hw, if_pos (by omega), if_pos (by omega), if_pos (by omega), Int.toNat_natCast, hm, e2', Option.bind_some]
        simp only [zR]
        rw [if_pos trivial]
theorem tells : ∀ (d : Nat), d ≤ 64 → ∀ l : List Int, Bytes l → l.length ≤ 100000 → Tells d l
  | 0, _, l, hb, hl => by
    refine .inr ⟨fun x p rest _ h => h.elim, 2, fun k hk => ?_⟩
    obtain ⟨k, rfl⟩ : ∃ q, k = q + 1 + 1 := ⟨k - 2, by omega⟩
    simp only [vinculumref03_Read.f]
    have hz : vinculumref03_Read.j0 (k + 1) l ((0 : Nat) : Int) true = some zR := by
      simp only [vinculumref03_Read.j0]
      rw [if_pos trivial]
      rfl
    by_cases c : (l.length : Int) = 0
    · rw [if_pos c, hz]
    · rw [if_neg c, if_pos (by rfl), hz]
  | d + 1, hd, l, hb, hl => by
    obtain ⟨kd, n, ok, rest, hh⟩ : ∃ kd n ok rest, rheadS l = (kd, n, ok, rest) := ⟨_, _, _, _, rfl⟩
    have hm : ¬ ((d + 1 : Nat) : Int) = 0 := by omega
    have hf := rhead_facts l hb
    rw [hh] at hf
    dsimp only at hf
    obtain ⟨hbr, hn0, hn1⟩ := hf
    by_cases c0 : ok = true ∧ 1 ≤ kd
    · obtain ⟨rfl, hkd⟩ := c0
      obtain ⟨hd', p1, p2, _, _, _, p3⟩ := head_back l hb kd n rest hh
      have hhl := head_len p1
      have hll : l.length = hd'.length + rest.length := by rw [p2, List.length_append]
      -- what j3 comes to decides
      have go : ∀ res, (∀ at_ : Nat, at_ + rest.length = l.length → l.drop at_ = rest → Evt (fun k => vinculumref03_Read.j3 k l ((d + 1 : Nat) : Int) n (at_ : Int) kd 0 ⟨#[]⟩) res) → Evt (fun k => vinculumref03_Read.f k l ((d + 1 : Nat) : Int)) res := fun res h => ref_head l hb hl _ hm kd n rest true hh res (fun _ _ => h) (fun h => absurd ⟨rfl, hkd⟩ h)
      have hno : ∀ x p s, l = p ++ s → Enc (d + 1) x p → ∃ body, rest = body ++ s ∧ x.f0 = kd ∧
          ((x.f0 = 1 ∧ -9223372036854775808 ≤ x.f1 ∧ x.f1 ≤ 9223372036854775807 ∧ x.f2 = ⟨#[]⟩ ∧ x.f3 = [] ∧ n = numI x.f1 ∧ body = []) ∨
           (x.f0 = 2 ∧ x.f1 = 0 ∧ x.f3 = [] ∧ n = (x.f2.size : Int) ∧ body = bytesOf x.f2) ∨
           (x.f0 = 3 ∧ x.f1 = 0 ∧ x.f2 = ⟨#[]⟩ ∧ n = (x.f3.length : Int) ∧ Encs (Enc d) x.f3 body)) := fun x p s e1 e2 => by
        obtain ⟨n', body, q1, q2⟩ := enc_head (rest := s) e2
        rw [← e1, hh] at q1
        simp only [Prod.mk.injEq] at q1
        obtain ⟨q3, rfl, _, q4⟩ := q1
        exact ⟨body, q4, q3.symm, q2⟩
      have hlr : (rest.length : Int) ≤ 100000 := by omega
      by_cases k1 : kd = 1
      · subst k1
        obtain ⟨a, a0, a1, a2, _⟩ := int_of n hn0 hn1
        refine .inl ⟨⟨1, a, ⟨#[]⟩, []⟩, hd', rest, p2, ⟨n, hd', [], hn0, hn1, p1, (List.append_nil _).symm, .inl ⟨rfl, a0, a1, rfl, rfl, a2.symm, rfl⟩⟩, go _ fun at_ h1 h2 => ?_⟩
        refine (Evt.const _).step fun k => ?_
        simp only [vinculumref03_Read.j3]
        rw [if_pos trivial, Int.tmod_eq_emod_of_nonneg hn0, Int.tdiv_eq_ediv_of_nonneg hn0]
        have hat : at_ = hd'.length := by omega
        subst hat
        unfold numI at a2
        by_cases c : n % 2 = 1
        · rw [if_pos c]
          have : a = -(n / 2) - 1 := by split at a2 <;> omega
          subst this
          have e : wrap64 (wrap64 (-(wrap64 (IntKind.u64.wrap (n / 2)))) - 1) = -(n / 2) - 1 := by
            rw [wu]
            unfold wrap64
            omega
          rw [e]
          rfl
        · rw [if_neg c]
          have : a = n / 2 := by split at a2 <;> omega
          subst this
          have e : wrap64 (IntKind.u64.wrap (n / 2)) = n / 2 := by
            rw [wu]
            unfold wrap64
            omega
          rw [e]
          rfl
      have hrange : ∀ at_ : Nat, at_ + rest.length = l.length → IntKind.u64.wrap (wrap64 ((l.length : Int) - (at_ : Int))) = (rest.length : Int) := fun at_ h => by
        rw [show wrap64 ((l.length : Int) - (at_ : Int)) = (rest.length : Int) from by unfold wrap64; omega, wu]
        omega
      by_cases k2 : kd = 2
      · subst k2
        by_cases c : n > (rest.length : Int)
        · refine .inr ⟨fun x p s e1 e2 => ?_, go _ fun at_ h1 h2 => ?_⟩
          · obtain ⟨body, q1, q2, q3⟩ := hno x p s e1 e2
            rcases q3 with q3 | ⟨_, _, _, rfl, rfl⟩ | q3
            · omega
            · have : rest.length = x.f2.size + s.length := by rw [q1, List.length_append, bytesOf_length]
              omega
            · omega
          · refine (Evt.const zR).step fun k => ?_
            simp only [vinculumref03_Read.j3]
            rw [if_neg (by decide), if_pos trivial, hrange at_ h1, if_pos c]
            rfl
        · obtain ⟨q, rfl⟩ : ∃ q : Nat, n = q := ⟨n.toNat, by omega⟩
          have hbt : Bytes (rest.take q) := fun y hy => hbr y (List.mem_of_mem_take hy)
          have hbb := bytes_back _ hbt
          have hsz : (strOfNums (rest.take q)).size = q := by
            have e := bytesOf_length (strOfNums (rest.take q))
            rw [hbb, List.length_take] at e
            omega
          refine .inl ⟨⟨2, 0, strOfNums (rest.take q), []⟩, hd' ++ rest.take q, rest.drop q, by rw [List.append_assoc, List.take_append_drop, ← p2], ⟨q, hd', rest.take q, hn0, hn1, p1, rfl, .inr (.inl ⟨rfl, rfl, rfl, ?_, hbb.symm⟩)⟩, go _ fun at_ h1 h2 => ?_⟩
          · show (q : Int) = ((strOfNums (rest.take q)).size : Int)
            rw [hsz]
          · refine (Evt.const _).step fun k => ?_
            have hat : at_ = hd'.length := by omega
            subst hat
            have e1 : wrap64 ((hd'.length : Int) + wrap64 (q : Int)) = ((hd'.length + q : Nat) : Int) := by
              rw [show wrap64 (q : Int) = (q : Int) from by unfold wrap64; omega]
              unfold wrap64
              omega
            simp only [vinculumref03_Read.j3]
            rw [if_neg (by decide), if_pos trivial, hrange _ h1, if_neg c, e1, if_pos (by omega), if_pos (by omega), if_pos (by omega), Int.toNat_natCast, Int.toNat_natCast, ← List.take_drop, h2]
            rw [List.length_append, List.length_take, Nat.min_eq_left (by omega)]
            rfl
      · have k3 : kd = 3 := by omega
        subst k3
        by_cases c : n > (rest.length : Int)
        · refine .inr ⟨fun x p s e1 e2 => ?_, go _ fun at_ h1 h2 => ?_⟩
          · obtain ⟨body, q1, q2, q3⟩ := hno x p s e1 e2
            rcases q3 with q3 | q3 | ⟨_, _, _, rfl, q4⟩
            · omega
            · omega
            · have := Encs.len (fun x l h => Enc.pos h) _ _ q4
              have : rest.length = body.length + s.length := by rw [q1, List.length_append]
              omega
          · refine (Evt.const zR).step fun k => ?_
            simp only [vinculumref03_Read.j3]
            rw [if_neg (by decide), if_neg (by decide), hrange at_ h1, if_pos c]
            rfl
        · have hdrop : l.drop hd'.length = rest := by rw [p2, List.drop_append_of_le_length (Nat.le_refl _), List.drop_of_length_le (Nat.le_refl _), List.nil_append]
          have step : ∀ res, Evt (fun k => vinculumref03_Read.l1 k l ((d + 1 : Nat) : Int) n (hd'.length : Int) ((0 : Nat) : Int) 3 0 ⟨#[]⟩ []) res → Evt (fun k => vinculumref03_Read.f k l ((d + 1 : Nat) : Int)) res := fun res h => go res fun at_ h1 h2 => by
            obtain rfl : at_ = hd'.length := by omega
            refine h.step fun k => ?_
            simp only [vinculumref03_Read.j3]
            rw [if_neg (by decide), if_neg (by decide), hrange _ h1, if_neg c]
            rfl
          rcases list_loop d hd (fun l' hb' hl' => tells d (by omega) l' hb' hl') l hb hl n ⟨hn0, by omega⟩ n.toNat 0 hd'.length [] (by omega) (by omega) (by omega) rfl with ⟨xs, b, s, g1, g2, g3, g4⟩ | ⟨g1, g2⟩
          · rw [hdrop] at g1
            refine .inl ⟨⟨3, 0, ⟨#[]⟩, xs⟩, hd' ++ b, s, by rw [List.append_assoc, ← g1, ← p2], ⟨n, hd', b, hn0, hn1, p1, rfl, .inr (.inr ⟨rfl, rfl, rfl, ?_, g2⟩)⟩, ?_⟩
            · show n = (xs.length : Int)
              omega
            · rw [List.length_append]
              exact step _ g4
          · rw [hdrop] at g1
            refine .inr ⟨fun x p s e1 e2 => ?_, step _ g2⟩
            obtain ⟨body, q1, q2, q3⟩ := hno x p s e1 e2
            rcases q3 with q3 | q3 | ⟨_, _, _, q5, q4⟩
            · omega
            · omega
            · exact g1 x.f3 body s q1 (by omega) q4
    · refine .inr ⟨fun x p s e1 e2 => ?_, ref_head l hb hl _ hm kd n rest ok hh zR (fun h1 h2 => absurd ⟨h1, h2⟩ c0) (fun _ => rfl)⟩
      have hk := Enc.kind e2
      obtain ⟨n', body, q1, _⟩ := enc_head (rest := s) e2
      rw [← e1, hh] at q1
      simp only [Prod.mk.injEq] at q1
      exact c0 ⟨q1.2.2.1, by omega⟩

/-! ### back, and equality with itself -/
theorem back_list (P : V → List Int → Prop) (d : Nat) (hP : ∀ x l, P x l → Evt (fun k => vinculumlaw03_back.f k x.f0 x.f1 x.f2 x.f3 3000) ((toR d x).f0, (toR d x).f1, (toR d x).f2, (toR d x).f3, true)) (all : List V) (hall : all.length ≤ 3000) (a b : Int) (s : ByteArray) (a' b' : Int) (s' : ByteArray) : ∀ (xs : List V) (l : List Int), Encs P xs l → ∀ (i : Nat) (acc : List R), i + xs.length = all.length → all.drop i = xs → acc.length = i →
    Evt (fun k => vinculumlaw03_back.l0 k 3000 (i : Int) a b s all a' b' s' acc) (a', b', s', acc ++ xs.map (toR d), true)
  | [], l, h, i, acc, hi, hd, ha => by
    refine (Evt.const _).step fun k => ?_
    simp only [vinculumlaw03_back.l0]
    rw [if_neg (by rw [List.length_nil] at hi; omega)]
    simp
  | x :: r, l, h, i, acc, hi, hd, ha => by
    obtain ⟨f, l', rfl, h1, h2⟩ := h
    rw [List.length_cons] at hi
    have hlt : i < all.length := by omega
    have hx : all[i] = x ∧ all.drop (i + 1) = r := by
      rw [List.drop_eq_getElem_cons hlt] at hd
      injection hd with h1 h2
      exact ⟨h1, h2⟩
    obtain ⟨K1, hK1⟩ := hP x f h1
    obtain ⟨K2, hK2⟩ := back_list P d hP all hall a b s a' b' s' r l' h2 (i + 1) (acc ++ [toR d x]) (by omega) hx.2 (by rw [List.length_append, ha]; rfl)
    refine ⟨K1 + K2 + 1, fun k hk => ?_⟩
    obtain ⟨k, rfl⟩ : ∃ q, k = q + 1 := ⟨k - 1, by omega⟩
    have g1 := hK1 k (by omega)
    have g2 := hK2 k (by omega)
    dsimp only at g1 g2 ⊢
    simp only [vinculumlaw03_back.l0]
    rw [if_pos (by omega), if_pos (by omega), rdV hlt, hx.1, g1, Option.bind_some]
    dsimp only
    rw [if_pos rfl, if_pos (by omega), rEta, len_succ hlt (by omega), g2, List.append_assoc]
    rfl
theorem back_enc : ∀ (d : Nat) (x : V) (l : List Int), Enc d x l → l.length ≤ 3000 → Evt (fun k => vinculumlaw03_back.f k x.f0 x.f1 x.f2 x.f3 3000) ((toR d x).f0, (toR d x).f1, (toR d x).f2, (toR d x).f3, true)
  | 0, _, _, h, _ => h.elim
  | d + 1, x, l, h, hl => by
    obtain ⟨n, hd, body, h0, h1, hh, rfl, hc⟩ := h
    rw [List.length_append] at hl
    have hlist : ∃ tl, tl.length ≤ body.length ∧ Encs (Enc d) x.f3 tl := by
      rcases hc with ⟨k1, i0, i1, e2, e3, rfl, rfl⟩ | ⟨k2, e1, e3, rfl, rfl⟩ | ⟨k3, e1, e2, rfl, he⟩
      · exact ⟨[], by simp, by rw [e3]; rfl⟩
      · exact ⟨[], by simp, by rw [e3]; rfl⟩
      · exact ⟨body, Nat.le_refl _, he⟩
    obtain ⟨tl, htl, he⟩ := hlist
    have hn3 := Encs.len (fun x l h => Enc.pos h) _ _ he
    have key : ∀ (xs : List V) (b : List Int), Encs (Enc d) xs b → b.length ≤ 3000 → Encs (fun y f => Enc d y f ∧ f.length ≤ 3000) xs b := by
      intro xs
      induction xs with
      | nil => intro b h _; exact h
      | cons y r ih =>
        rintro b ⟨f, b', rfl, g1, g2⟩ hb
        rw [List.length_append] at hb
        exact ⟨f, b', rfl, ⟨g1, by omega⟩, ih b' g2 (by omega)⟩
    have := back_list (fun y f => Enc d y f ∧ f.length ≤ 3000) d (fun y f hy => back_enc d y f hy.1 hy.2) x.f3 (by omega) x.f0 x.f1 x.f2 x.f0 x.f1 x.f2 x.f3 tl (key _ _ he (by omega)) 0 [] (by omega) List.drop_zero rfl
    refine this.step fun k => ?_
    simp only [vinculumlaw03_back.f]
    rw [if_neg (by omega)]
    rfl
theorem same_list (P : V → List Int → Prop) (d : Nat) (hP : ∀ x l, P x l → Evt (fun k => vinculumref03_Equal.f k (toR d x).f0 (toR d x).f1 (toR d x).f2 (toR d x).f3 (toR d x).f0 (toR d x).f1 (toR d x).f2 (toR d x).f3) true) (all : List V) (hall : all.length ≤ 3000) (a b : Int) (s : ByteArray) (a' b' : Int) (s' : ByteArray) : ∀ (xs : List V) (l : List Int), Encs P xs l → ∀ (i : Nat), i + xs.length = all.length → all.drop i = xs →
    Evt (fun k => vinculumref03_Equal.l0 k (i : Int) a b s (all.map (toR d)) a' b' s' (all.map (toR d))) true
  | [], l, h, i, hi, hd => by
    refine (Evt.const _).step fun k => ?_
    simp only [vinculumref03_Equal.l0]
    rw [if_neg (by rw [List.length_nil] at hi; rw [List.length_map]; omega)]
  | x :: r, l, h, i, hi, hd => by
    obtain ⟨f, l', rfl, h1, h2⟩ := h
    rw [List.length_cons] at hi
    have hlt : i < all.length := by omega
    have hx : all[i] = x ∧ all.drop (i + 1) = r := by
      rw [List.drop_eq_getElem_cons hlt] at hd
      injection hd with h1 h2
      exact ⟨h1, h2⟩
    obtain ⟨K1, hK1⟩ := hP x f h1
    obtain ⟨K2, hK2⟩ := same_list P d hP all hall a b s a' b' s' r l' h2 (i + 1) (by omega) hx.2
    refine ⟨K1 + K2 + 1, fun k hk => ?_⟩
    obtain ⟨k, rfl⟩ : ∃ q, k = q + 1 := ⟨k - 1, by omega⟩
    have g1 := hK1 k (by omega)
    have g2 := hK2 k (by omega)
    dsimp only at g1 g2 ⊢
    simp only [vinculumref03_Equal.l0]
    rw [if_pos (by rw [List.length_map]; omega), if_pos (by omega), if_pos (by rw [List.length_map]; omega), rdR (by rw [List.length_map]; omega), List.getElem_map, hx.1, g1, Option.bind_some, if_pos rfl, len_succ hlt (by omega), g2]
theorem same_enc : ∀ (d : Nat) (x : V) (l : List Int), Enc d x l → l.length ≤ 3000 → Evt (fun k => vinculumref03_Equal.f k (toR d x).f0 (toR d x).f1 (toR d x).f2 (toR d x).f3 (toR d x).f0 (toR d x).f1 (toR d x).f2 (toR d x).f3) true
  | 0, _, _, h, _ => h.elim
  | d + 1, x, l, h, hl => by
    obtain ⟨n, hd, body, h0, h1, hh, rfl, hc⟩ := h
    rw [List.length_append] at hl
    have hlist : ∃ tl, tl.length ≤ body.length ∧ Encs (Enc d) x.f3 tl := by
      rcases hc with ⟨k1, i0, i1, e2, e3, rfl, rfl⟩ | ⟨k2, e1, e3, rfl, rfl⟩ | ⟨k3, e1, e2, rfl, he⟩
      · exact ⟨[], by simp, by rw [e3]; rfl⟩
      · exact ⟨[], by simp, by rw [e3]; rfl⟩
      · exact ⟨body, Nat.le_refl _, he⟩
    obtain ⟨tl, htl, he⟩ := hlist
    have hn3 := Encs.len (fun x l h => Enc.pos h) _ _ he
    have key : ∀ (xs : List V) (b : List Int), Encs (Enc d) xs b → b.length ≤ 3000 → Encs (fun y f => Enc d y f ∧ f.length ≤ 3000) xs b := by
      intro xs
      induction xs with
      | nil => intro b h _; exact h
      | cons y r ih =>
        rintro b ⟨f, b', rfl, g1, g2⟩ hb
        rw [List.length_append] at hb
        exact ⟨f, b', rfl, ⟨g1, by omega⟩, ih b' g2 (by omega)⟩
    have hs := same_list (fun y f => Enc d y f ∧ f.length ≤ 3000) d (fun y f hy => same_enc d y f hy.1 hy.2) x.f3 (by omega) x.f0 x.f1 x.f2 x.f0 x.f1 x.f2 x.f3 tl (key _ _ he (by omega)) 0 (by omega) List.drop_zero
    refine Evt.step (g := fun k => vinculumref03_Equal.j0 k false x.f0 x.f1 x.f2 (x.f3.map (toR d)) x.f0 x.f1 x.f2 (x.f3.map (toR d))) (hs.step fun k => ?_) fun k => ?_
    · simp only [vinculumref03_Equal.j0]
      rw [if_neg (by decide)]
      rfl
    · simp only [vinculumref03_Equal.f, toR]
      rw [if_pos trivial, if_pos trivial, if_pos trivial]
      simp
theorem zero_back : Evt (fun k => vinculumlaw03_back.f k 0 0 ⟨#[]⟩ [] 3000) (0, 0, ⟨#[]⟩, [], true) := ⟨2, fun k hk => by
  obtain ⟨k, rfl⟩ : ∃ q, k = q + 1 + 1 := ⟨k - 2, by omega⟩
  simp [vinculumlaw03_back.f, vinculumlaw03_back.l0]⟩
theorem zero_same : Evt (fun k => vinculumref03_Equal.f k 0 0 ⟨#[]⟩ [] 0 0 ⟨#[]⟩ []) true := ⟨3, fun k hk => by
  obtain ⟨k, rfl⟩ : ∃ q, k = q + 1 + 1 + 1 := ⟨k - 3, by omega⟩
  simp [vinculumref03_Equal.f, vinculumref03_Equal.j0, vinculumref03_Equal.l0]⟩
end Go.Proofs.Ytploigkfnkgjiaa.RR
