/- DigestBytes: Bytes returns the reference's digest of any byte string, and Update the reference's digest that results from any number by it. No condition beyond the statement's own. -/
import Derived.Test.YtojanhinfgjjiaaPDBx1
namespace Go.Proofs.Ytojanhinfgjjiaa.Pure
open Go.RowKit Go.Proofs.Ytojanhinfgjjiaa.PDB Go.Proofs.YtojanhinfgjjiaaW.PrintWords Go.Proofs.YtojanhinfgjjiaaW.PrintLast

theorem wrap_step {i : Int} {n : Nat} (h0 : 0 ≤ i) (h : i < (n : Int)) (hn : n ≤ 140737488351232) : wrap64 (i + 1) = i + 1 := by
  unfold wrap64
  omega

/-- Both loops come to one and the same number. -/
theorem update_both (l : List Int) (hn : l.length ≤ 140737488351232) (d : Nat) : ∀ (k : Nat) (h i : Int), 0 ≤ i → i ≤ l.length → (l.length : Int) - i = d → d < k →
    ∃ r, digest_Update.l0 k h l (l.length : Int) i = some r ∧ vinculumref04_Update.l0 k h l i = some r := by
  induction d with
  | zero =>
    intro k h i h0 h1 hd hk
    obtain ⟨k, rfl⟩ : ∃ m, k = m + 1 := ⟨k - 1, by omega⟩
    refine ⟨h, ?_, ?_⟩
    · simp only [digest_Update.l0]; rw [if_neg (by omega)]
    · simp only [vinculumref04_Update.l0]; rw [if_neg (by omega)]
  | succ d ih =>
    intro k h i h0 h1 hd hk
    obtain ⟨k, rfl⟩ : ∃ m, k = m + 1 := ⟨k - 1, by omega⟩
    have hlt : i < (l.length : Int) := by omega
    obtain ⟨r, ha, hb⟩ := ih k (IntKind.u64.wrap ((Go.bits .xor .u64 h (IntKind.u64.wrap (rd l i))) * 1099511628211)) (i + 1) (by omega) (by omega) (by omega) (by omega)
    refine ⟨r, ?_, ?_⟩
    · simp only [digest_Update.l0]; rw [if_pos hlt, if_pos h0, if_pos hlt, wrap_step h0 hlt hn]; exact ha
    · simp only [vinculumref04_Update.l0]; rw [if_pos hlt, if_pos h0, wrap_step h0 hlt hn]; exact hb

theorem awake_true (k : Nat) (hk : 2 ≤ k) : vinculumlaw04_awake.f k = some true := by
  have h2 : vinculumlaw04_awake.f 2 = some true := by decide +kernel
  exact at_rounds vinculumlaw04_awake.mono hk h2

theorem DigestBytes : vinculumlaw04_DigestBytes.Pure := by
  intro a0 l1 _ _ hn _
  have hn : l1.length ≤ 140737488351232 := by omega
  obtain ⟨r, ha, hb⟩ := update_both l1 hn l1.length (l1.length + 2) 14695981039346656037 0 (by omega) (by omega) (by omega) (by omega)
  obtain ⟨q, hc, hd⟩ := update_both l1 hn l1.length (l1.length + 2) a0 0 (by omega) (by omega) (by omega) (by omega)
  refine ⟨l1.length + 2, ?_⟩
  unfold vinculumlaw04_DigestBytes.f
  rw [awake_true _ (by omega)]
  simp only [Option.bind_some, if_true]
  unfold digest_Bytes.f vinculumref04_Bytes.f digest_Update.f vinculumref04_Update.f
  rw [ha, hb, hc, hd]
  simp

end Go.Proofs.Ytojanhinfgjjiaa.Pure
