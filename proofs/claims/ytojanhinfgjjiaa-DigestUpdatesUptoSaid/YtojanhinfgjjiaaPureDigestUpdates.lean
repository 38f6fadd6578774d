/- DigestUpdates: the digest of two rows after each other is the digest of the second, begun with the first's. -/
import Derived.Test.YtojanhinfgjjiaaPUx0
import Derived.Test.YtojanhinfgjjiaaPUx1
namespace Go.Proofs.Ytojanhinfgjjiaa.Pure
set_option linter.unusedVariables false
set_option linter.unusedSimpArgs false
open Go.RowKit Go.Proofs.Ytojanhinfgjjiaa.PU Go.Proofs.YtojanhinfgjjiaaW.PrintWords Go.Proofs.YtojanhinfgjjiaaW.PrintMore
theorem awake04 (k : Nat) (hk : 2 ≤ k) : vinculumlaw04_awake.f k = some true := at_rounds vinculumlaw04_awake.mono hk (by decide +kernel)
theorem len_succ {i : Nat} {n : Nat} (h : i < n) (hn : n ≤ 9223372036854775807) : wrap64 ((i : Int) + 1) = ((i + 1 : Nat) : Int) := by unfold wrap64; omega
theorem rd_int {l : List Int} {i : Nat} (h : i < l.length) : rd l (i : Int) = l[i] := by simp [rd, h]
/-- One step of the digest. -/
def step (h x : Int) : Int := IntKind.u64.wrap (Go.bits .xor .u64 h (IntKind.u64.wrap x) * 1099511628211)
def dig (h : Int) (l : List Int) : Int := l.foldl step h
theorem update_loop (l : List Int) (hn : l.length ≤ 281474976710656) (d : Nat) : ∀ (k i : Nat) (h : Int), i ≤ l.length → l.length - i = d → d < k →
    digest_Update.l0 k h l (l.length : Int) (i : Int) = some (dig h (l.drop i)) := by
  induction d with
  | zero =>
    intro k i h hi hd hk
    obtain ⟨k, rfl⟩ : ∃ m, k = m + 1 := ⟨k - 1, by omega⟩
    simp only [digest_Update.l0]
    rw [if_neg (by omega), List.drop_of_length_le (by omega)]
    rfl
  | succ d ih =>
    intro k i h hi hd hk
    obtain ⟨k, rfl⟩ : ∃ m, k = m + 1 := ⟨k - 1, by omega⟩
    have hlt : i < l.length := by omega
    simp only [digest_Update.l0]
    rw [if_pos (by omega), if_pos (by omega), if_pos (by omega), len_succ hlt (by omega), rd_int hlt, ih k (i + 1) _ (by omega) (by omega) (by omega), List.drop_eq_getElem_cons hlt]
    rfl
theorem bytes_f (l : List Int) (hn : l.length ≤ 281474976710656) (k : Nat) (hk : l.length < k) : digest_Bytes.f k l = some (dig 14695981039346656037 l) := by
  have := update_loop l hn l.length k 0 14695981039346656037 (by omega) (by omega) hk
  unfold digest_Bytes.f digest_Update.f
  rw [show ((0 : Nat) : Int) = 0 from rfl] at this
  rw [this, List.drop_zero]
  rfl

theorem update_f (h : Int) (l : List Int) (hn : l.length ≤ 281474976710656) (k : Nat) (hk : l.length < k) : digest_Update.f k h l = some (dig h l) := by
  have := update_loop l hn l.length k 0 h (by omega) (by omega) hk
  unfold digest_Update.f
  rw [show ((0 : Nat) : Int) = 0 from rfl] at this
  rw [this, List.drop_zero]
theorem DigestUpdates (a b : List Int) (wa : a.length * 1 ≤ 140737488351232 ∧ a.length ≤ maxLen ∧ ∀ v ∈ a, (Lit.int .u8 v).wf = true) (ba : a.length ≤ 1048576) (wb : b.length * 1 ≤ 140737488351232 ∧ b.length ≤ maxLen ∧ ∀ v ∈ b, (Lit.int .u8 v).wf = true) (bb : b.length ≤ 1048576) :
    ∃ k, vinculumlaw04_DigestUpdates.f k a b = some true := by
  refine ⟨a.length + b.length + 10, ?_⟩
  unfold vinculumlaw04_DigestUpdates.f
  rw [awake04 _ (by omega), bytes_f a (by omega) _ (by omega), update_f _ a (by omega) _ (by omega)]
  simp only [Option.bind_some, if_true, List.nil_append, List.length_nil]
  rw [update_f _ b (by omega) _ (by omega), Option.bind_some, if_pos (by omega), if_pos (by omega), bytes_f (a ++ b) (by rw [List.length_append]; omega) _ (by rw [List.length_append]; omega)]
  simp [dig, List.foldl_append]
end Go.Proofs.Ytojanhinfgjjiaa.Pure
