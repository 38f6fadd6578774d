/- ConsoleNames: the names of the errors are the reference's. -/
import Derived.Test.YtojanhinfgjjiaaPCx0
import Derived.Test.YtojanhinfgjjiaaPCx1
namespace Go.Proofs.Ytojanhinfgjjiaa.Pure
set_option linter.unusedVariables false
open Go.RowKit Go.Proofs.Ytojanhinfgjjiaa.PC Go.Proofs.YtojanhinfgjjiaaW.PrintWords
theorem ref_name (a : Int) : vinculumref58_Name.f a = some (if 0 ≤ a ∧ a < 20 then rdOf ByteArray.empty console_Name.names a else ByteArray.empty) := by
  have hl : (console_Name.names.length : Int) = 20 := rfl
  unfold vinculumref58_Name.f
  rw [Option.bind_some]
  change (if a < 0 then some ByteArray.empty else if a ≥ (console_Name.names.length : Int) then some ByteArray.empty else if 0 ≤ a then (if a < (console_Name.names.length : Int) then some (rdOf ByteArray.empty console_Name.names a) else none) else none) = _
  rw [hl]
  by_cases h0 : a < 0
  · rw [if_pos h0, if_neg (by omega)]
  · rw [if_neg h0]
    by_cases h1 : a ≥ 20
    · rw [if_pos h1, if_neg (by omega)]
    · rw [if_neg h1, if_pos (by omega), if_pos (by omega), if_pos (by omega)]
theorem ok_name : console_Name.f 0 = some (⟨#[111, 107]⟩ : ByteArray) := by
  unfold console_Name.f
  rw [if_pos (by decide)]
  rfl
theorem ok_list : (⟨#[111, 107]⟩ : ByteArray).toList = [111, 107] := by decide +kernel
theorem ConsoleNames (a : Int) (w : (Lit.int .i64 a).wf = true) : ∃ k : Nat, vinculumlaw58_ConsoleNames.f a = some true := by
  refine ⟨0, ?_⟩
  unfold vinculumlaw58_ConsoleNames.f
  rw [ok_name, ref_name, show console_Name.f a = some (if 0 ≤ a ∧ a < 20 then rdOf ByteArray.empty console_Name.names a else ByteArray.empty) from rfl, Option.bind_some, ok_list]
  simp
end Go.Proofs.Ytojanhinfgjjiaa.Pure
