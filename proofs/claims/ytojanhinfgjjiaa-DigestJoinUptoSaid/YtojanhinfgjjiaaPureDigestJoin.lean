/- DigestJoin: the digest of a join is the reference's, where what comes in is small enough to be laid into one buffer. -/
import Derived.Test.YtojanhinfgjjiaaKJ04
namespace Go.Proofs.Ytojanhinfgjjiaa.Pure
set_option linter.unusedVariables false
open Go.RowKit Go.Proofs.Ytojanhinfgjjiaa.PK Go.Proofs.Ytojanhinfgjjiaa.J04
theorem DigestJoin (a b : Int) (s : ByteArray) (l : List Int) (wa : (Lit.int .i64 a).wf = true) (wb : (Lit.int .i64 b).wf = true) (ws : s.size ≤ 140737488351232) (bs : s.size ≤ 1048576) (wl : l.length * 8 ≤ 140737488351232 ∧ l.length ≤ maxLen ∧ ∀ v ∈ l, (Lit.int .u64 v).wf = true) (bl : l.length ≤ 1048576) :
    ∃ k, vinculumlaw04_DigestJoin.f k a b s l = some true := by
  refine ⟨s.size + 9 * l.length + 100, ?_⟩
  unfold vinculumlaw04_DigestJoin.f
  rw [awake04 _ (by omega), join_f a s b l (by omega) _ (by omega), refjoin_f a s b l (by omega) _ (by omega)]
  simp
end Go.Proofs.Ytojanhinfgjjiaa.Pure
