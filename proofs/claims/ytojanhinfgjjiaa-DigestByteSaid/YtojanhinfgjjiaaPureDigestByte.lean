/- DigestByte: if one byte of a byte string is changed, the digest changes; different beginnings lead to different digests. -/
import Derived.Test.YtojanhinfgjjiaaPJx3
namespace Go.Proofs.Ytojanhinfgjjiaa.Pure
set_option linter.unusedVariables false
set_option linter.unusedSimpArgs false
open Go.RowKit Go.Proofs.Ytojanhinfgjjiaa.PJ Go.Proofs.YtojanhinfgjjiaaW.PrintWords

theorem awake04 (k : Nat) (hk : 2 ≤ k) : vinculumlaw04_awake.f k = some true := at_rounds vinculumlaw04_awake.mono hk (by decide +kernel)
theorem wrap_step {i : Int} {n : Nat} (h0 : 0 ≤ i) (h : i < (n : Int)) (hn : n ≤ 140737488351232) : wrap64 (i + 1) = i + 1 := by
  unfold wrap64
  omega
theorem wfu64 {x : Int} : (Lit.int .u64 x).wf = true ↔ 0 ≤ x ∧ x < 18446744073709551616 := by
  simp [Lit.wf, IntKind.min, IntKind.max, IntKind.signed, IntKind.bits]
  omega
theorem wfu8 {x : Int} : (Lit.int .u8 x).wf = true ↔ 0 ≤ x ∧ x < 256 := by
  simp [Lit.wf, IntKind.min, IntKind.max, IntKind.signed, IntKind.bits]
  omega
theorem wrapu64 (n : Int) : IntKind.u64.wrap n = n % 18446744073709551616 := by simp [IntKind.wrap, IntKind.bits, IntKind.signed]
theorem xor64 (a b : Nat) (ha : a < 2 ^ 64) (hb : b < 2 ^ 64) : Go.bits .xor .u64 (a : Int) (b : Int) = ((a ^^^ b : Nat) : Int) := by
  have ha' : a % 2 ^ IntKind.u64.bits = a := Nat.mod_eq_of_lt ha
  have hb' : b % 2 ^ IntKind.u64.bits = b := Nat.mod_eq_of_lt hb
  simp only [Go.bits, BitVec.ofInt_natCast, BitVec.toNat_xor, BitVec.toNat_ofNat, ha', hb', wrapu64]
  have := Nat.xor_lt_two_pow (x := a) (y := b) ha hb
  omega

/-- One step of the digest. -/
def step (h x : Int) : Int := IntKind.u64.wrap (Go.bits .xor .u64 h (IntKind.u64.wrap x) * 1099511628211)
theorem step_nat (a b : Nat) (ha : a < 2 ^ 64) (hb : b < 256) : step (a : Int) (b : Int) = (((a ^^^ b) * 1099511628211 % 18446744073709551616 : Nat) : Int) := by
  unfold step
  rw [wrapu64 (b : Int), show (b : Int) % 18446744073709551616 = (b : Int) by omega, xor64 a b ha (by omega), wrapu64]
  omega
/-- The multiplication can be undone. -/
theorem mul_back (a : Nat) (ha : a < 18446744073709551616) : a * 1099511628211 % 18446744073709551616 * 14886173955864302971 % 18446744073709551616 = a := by
  have h : a * 1099511628211 * 14886173955864302971 % 18446744073709551616 = a := by
    rw [Nat.mul_assoc, Nat.mul_mod, show 1099511628211 * 14886173955864302971 % 18446744073709551616 = 1 by decide, Nat.mul_one, Nat.mod_mod, Nat.mod_eq_of_lt ha]
  rw [Nat.mul_mod, Nat.mod_mod, ← Nat.mul_mod, h]
theorem step_range (h x : Int) : 0 ≤ step h x ∧ step h x < 18446744073709551616 := by unfold step; rw [wrapu64]; omega
theorem mul_inj (u v : Nat) (hu : u < 18446744073709551616) (hv : v < 18446744073709551616) (e : u * 1099511628211 % 18446744073709551616 = v * 1099511628211 % 18446744073709551616) : u = v := by
  have h1 := mul_back u hu
  rw [e, mul_back v hv] at h1
  exact h1.symm
theorem step_inj_nat (a b a' b' : Nat) (ha : a < 2 ^ 64) (ha' : a' < 2 ^ 64) (hb : b < 256) (hb' : b' < 256) (e : step (a : Int) (b : Int) = step (a' : Int) (b' : Int)) : a ^^^ b = a' ^^^ b' := by
  rw [step_nat a b ha hb, step_nat a' b' ha' hb'] at e
  exact mul_inj _ _ (Nat.xor_lt_two_pow (n := 64) ha (Nat.lt_of_lt_of_le hb (by decide))) (Nat.xor_lt_two_pow (n := 64) ha' (Nat.lt_of_lt_of_le hb' (by decide))) (Int.ofNat_inj.1 e)
theorem xor_right {a b c : Nat} (h : a ^^^ c = b ^^^ c) : a = b := by
  have h1 : (a ^^^ c) ^^^ c = (b ^^^ c) ^^^ c := by rw [h]
  rwa [Nat.xor_assoc, Nat.xor_assoc, Nat.xor_self, Nat.xor_zero, Nat.xor_zero] at h1
theorem xor_left {a b c : Nat} (h : c ^^^ a = c ^^^ b) : a = b := by
  rw [Nat.xor_comm c a, Nat.xor_comm c b] at h
  exact xor_right h
theorem step_inj1 {h h' x : Int} (hh : 0 ≤ h ∧ h < 18446744073709551616) (hh' : 0 ≤ h' ∧ h' < 18446744073709551616) (hx : 0 ≤ x ∧ x < 256) (e : step h x = step h' x) : h = h' := by
  obtain ⟨a, ea⟩ := Int.eq_ofNat_of_zero_le hh.1
  obtain ⟨a', ea'⟩ := Int.eq_ofNat_of_zero_le hh'.1
  obtain ⟨b, eb⟩ := Int.eq_ofNat_of_zero_le hx.1
  rw [ea, ea', eb] at e
  have := xor_right (step_inj_nat a b a' b (by clear e; omega) (by clear e; omega) (by clear e; omega) (by clear e; omega) e)
  rw [ea, ea', this]
theorem step_inj2 {h x x' : Int} (hh : 0 ≤ h ∧ h < 18446744073709551616) (hx : 0 ≤ x ∧ x < 256) (hx' : 0 ≤ x' ∧ x' < 256) (e : step h x = step h x') : x = x' := by
  obtain ⟨a, ea⟩ := Int.eq_ofNat_of_zero_le hh.1
  obtain ⟨b', eb'⟩ := Int.eq_ofNat_of_zero_le hx'.1
  obtain ⟨b, eb⟩ := Int.eq_ofNat_of_zero_le hx.1
  rw [ea, eb', eb] at e
  have := xor_left (step_inj_nat a b a b' (by clear e; omega) (by clear e; omega) (by clear e; omega) (by clear e; omega) e)
  rw [eb, eb', this]
/-- The digest of a list of bytes, begun with h. -/
def dig (h : Int) (l : List Int) : Int := l.foldl step h
theorem dig_range {h : Int} (hh : 0 ≤ h ∧ h < 18446744073709551616) : ∀ (l : List Int), 0 ≤ dig h l ∧ dig h l < 18446744073709551616 := by
  intro l
  induction l generalizing h with
  | nil => exact hh
  | cons x r ih => exact ih (step_range h x)
theorem dig_inj : ∀ (l : List Int) {h h' : Int}, (∀ x ∈ l, 0 ≤ x ∧ x < 256) → (0 ≤ h ∧ h < 18446744073709551616) → (0 ≤ h' ∧ h' < 18446744073709551616) → dig h l = dig h' l → h = h'
  | [], h, h', _, _, _, e => e
  | x :: r, h, h', hl, hh, hh', e => by
    have e1 := dig_inj r (fun y hy => hl y (List.mem_cons_of_mem _ hy)) (step_range h x) (step_range h' x) e
    exact step_inj1 hh hh' (hl x List.mem_cons_self) e1
theorem dig_append (h : Int) (a b : List Int) : dig h (a ++ b) = dig (dig h a) b := by simp [dig]
theorem dig_set {h : Int} (hh : 0 ≤ h ∧ h < 18446744073709551616) {l : List Int} (hl : ∀ x ∈ l, 0 ≤ x ∧ x < 256) {i : Nat} (hi : i < l.length) {x : Int} (hx : 0 ≤ x ∧ x < 256) : dig h (l.set i x) = dig h l ↔ l[i] = x := by
  constructor
  · intro e
    have e0 : l = l.take i ++ l[i] :: l.drop (i + 1) := by rw [← List.drop_eq_getElem_cons hi, List.take_append_drop]
    rw [List.set_eq_take_append_cons_drop, if_pos hi] at e
    have e' : dig h (l.take i ++ l[i] :: l.drop (i + 1)) = dig h l := by rw [← e0]
    rw [← e', dig_append, dig_append] at e
    have hp := dig_range hh (l.take i)
    have e1 := dig_inj (l.drop (i + 1)) (fun y hy => hl y (List.mem_of_mem_drop hy)) (step_range _ _) (step_range _ _) e
    exact (step_inj2 hp hx (hl _ (List.getElem_mem hi)) e1).symm
  · intro e
    rw [← e, List.set_getElem_self]

theorem update_loop (l : List Int) (hn : l.length ≤ 140737488351232) (d : Nat) : ∀ (k i : Nat) (h : Int), i ≤ l.length → l.length - i = d → d < k →
    digest_Update.l0 k h l (l.length : Int) (i : Int) = some (dig h (l.drop i)) := by
  induction d with
  | zero =>
    intro k i h hi hd hk
    obtain ⟨k, rfl⟩ : ∃ m, k = m + 1 := ⟨k - 1, by omega⟩
    simp only [digest_Update.l0]
    rw [if_neg (by omega), List.drop_of_length_le (by omega)]
    rfl
  | succ d ih =>
    intro k i h hi hd hk
    obtain ⟨k, rfl⟩ : ∃ m, k = m + 1 := ⟨k - 1, by omega⟩
    have hlt : i < l.length := by omega
    have hr : rd l (i : Int) = l[i] := by simp [rd, hlt]
    simp only [digest_Update.l0]
    rw [if_pos (by omega), if_pos (by omega), if_pos (by omega), wrap_step (by omega) (by omega) hn, hr, show ((i : Int) + 1) = ((i + 1 : Nat) : Int) by omega, ih k (i + 1) _ (by omega) (by omega) (by omega), List.drop_eq_getElem_cons hlt]
    rfl
theorem update_f (l : List Int) (hn : l.length ≤ 140737488351232) (h : Int) (k : Nat) (hk : l.length < k) : digest_Update.f k h l = some (dig h l) := by
  have := update_loop l hn l.length k 0 h (by omega) (by omega) hk
  simpa [digest_Update.f] using this
theorem bytes_f (l : List Int) (hn : l.length ≤ 140737488351232) (k : Nat) (hk : l.length < k) : digest_Bytes.f k l = some (dig 14695981039346656037 l) := by
  unfold digest_Bytes.f
  rw [update_f l hn _ k hk]
  rfl

theorem DigestByte (l0 : List Int) (a b h0 h1 : Int) (w0 : l0.length * 1 ≤ 140737488351232 ∧ l0.length ≤ maxLen ∧ ∀ v ∈ l0, (Lit.int .u8 v).wf = true) (wa : (Lit.int .u8 a).wf = true) (wb : (Lit.int .u8 b).wf = true) (wh0 : (Lit.int .u64 h0).wf = true) (wh1 : (Lit.int .u64 h1).wf = true) :
    ∃ k, vinculumlaw04_DigestByte.f k l0 a b h0 h1 = some true := by
  obtain ⟨hn, _, hw⟩ := w0
  have hn : l0.length ≤ 140737488351232 := by omega
  have hl : ∀ x ∈ l0, 0 ≤ x ∧ x < 256 := fun x hx => wfu8.1 (hw x hx)
  rw [wfu8] at wa wb
  rw [wfu64] at wh0 wh1
  refine ⟨l0.length + 10, ?_⟩
  unfold vinculumlaw04_DigestByte.f
  rw [awake04 _ (by omega), update_f l0 hn _ _ (by omega), update_f l0 hn _ _ (by omega)]
  simp only [Option.bind_some, if_true]
  have e : ((dig h0 l0 == dig h1 l0) != (h0 == h1)) = false := by
    by_cases hh : h0 = h1
    · subst hh; simp
    · have : ¬ dig h0 l0 = dig h1 l0 := fun e => hh (dig_inj l0 hl wh0 wh1 e)
      rw [beq_eq_false_iff_ne.2 hh, beq_eq_false_iff_ne.2 this]
      rfl
  rw [e]
  simp only [vinculumlaw04_DigestByte.j0]
  rw [if_neg (by simp)]
  by_cases hz : (l0.length : Int) = 0
  · rw [if_pos hz]
  rw [if_neg hz]
  simp only [Option.bind_some, List.length_nil, Nat.zero_add, List.nil_append]
  rw [if_pos (by omega)]
  have ew : wrap64 a = a := by unfold wrap64; omega
  rw [ew, Int.tmod_eq_emod_of_nonneg wa.1]
  have r0 : 0 ≤ a % (l0.length : Int) := Int.emod_nonneg _ hz
  have r1 : a % (l0.length : Int) < (l0.length : Int) := Int.emod_lt_of_pos _ (by omega)
  obtain ⟨i, hi⟩ : ∃ i : Nat, a % (l0.length : Int) = i := ⟨(a % (l0.length : Int)).toNat, by omega⟩
  rw [hi] at r0 r1 ⊢
  have hlt : i < l0.length := by omega
  rw [if_pos r0, if_pos r1, Int.toNat_natCast, bytes_f _ (by rw [List.length_set]; exact hn) _ (by rw [List.length_set]; omega), bytes_f l0 hn _ (by omega)]
  simp only [Option.bind_some]
  have hr : rd l0 (i : Int) = l0[i] := by simp [rd, hlt]
  rw [if_pos r1, hr]
  have key := dig_set (h := 14695981039346656037) (by omega) hl hlt wb
  rw [show (dig 14695981039346656037 (l0.set i b) == dig 14695981039346656037 l0) = (l0[i] == b) from by rw [Bool.eq_iff_iff, beq_iff_eq, beq_iff_eq]; exact key]
  simp

end Go.Proofs.Ytojanhinfgjjiaa.Pure
