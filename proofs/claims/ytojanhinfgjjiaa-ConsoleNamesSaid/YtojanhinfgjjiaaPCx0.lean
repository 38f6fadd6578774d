-- Written by a program of this place (wip/gen.py) with the kit's print; not trusted: Lean checks it.
import Derived.Test.YtojanhinfgjjiaaProg
import Derived.Below
import Derived.Deep.Draws
import Derived.Deep.AppendLies
import Derived.Maps.AppendAt
import Derived.OwnWalk
import Derived.Laws.BytesArg
import Derived.Laws.MakeOwn
import Derived.Laws.OwnMore
import Derived.Deep.OwnRows
import Derived.Tactics
import Derived.Lib.ConvBytes
import Derived.Laws.Slices
import Derived.WalkKit
import Derived.KernelRfl
import Derived.RowKit3
import Derived.Deep.LoopGhost
import Derived.Deep.QuietTactic
import Derived.BigQuiet
import Derived.WideLaws
import Derived.Deep.DeepCutAuto
import Derived.Deep.CutBlock
import Derived.Deep.RegionHeld3
import Derived.Laws.Rows
import Derived.Lib.AppendStr
import Derived.ArgAppend
import Derived.Laws.IdiomCopy
import Derived.OrdersHeld
import Derived.Laws.BitsLemmas
import Derived.RowKit
import Derived.ArgAppend
import Derived.Test.YtojanhinfgjjiaaWWords
import Derived.Test.YtojanhinfgjjiaaWLast
import Derived.Test.YtojanhinfgjjiaaWTab
import Derived.Test.YtojanhinfgjjiaaWFour
import Derived.Test.YtojanhinfgjjiaaWQPut
import Derived.Test.YtojanhinfgjjiaaWApart
import Derived.Test.YtojanhinfgjjiaaWArr
import Derived.Test.YtojanhinfgjjiaaWZeros
import Derived.Test.YtojanhinfgjjiaaWFoot
import Derived.Test.YtojanhinfgjjiaaWKept
import Derived.Test.YtojanhinfgjjiaaWShare
import Derived.Test.YtojanhinfgjjiaaWN
import Derived.Test.YtojanhinfgjjiaaWFootNe
import Derived.Test.YtojanhinfgjjiaaWAt
import Derived.Test.YtojanhinfgjjiaaWEqStruct
import Derived.Test.YtojanhinfgjjiaaWRepsOne
import Derived.Test.YtojanhinfgjjiaaWInv
import Derived.Test.YtojanhinfgjjiaaWInvWords
import Derived.Test.YtojanhinfgjjiaaWGuard
import Derived.Test.YtojanhinfgjjiaaWNEv
import Derived.Test.YtojanhinfgjjiaaWMore
namespace Go.Proofs.Ytojanhinfgjjiaa.PC
open Go.RowKit Go.Proofs.YtojanhinfgjjiaaW.PrintWords Go.Proofs.YtojanhinfgjjiaaW.PrintLast Go.Proofs.YtojanhinfgjjiaaW.PrintMore
attribute [local go_sem] max2_int min2_int max_two min_two max_three min_three max_four min_four   -- for this text's walks alone
set_option linter.unusedVariables false
set_option linter.unusedSimpArgs false



def errW : Option Int → Value
  | none => .nilIface
  | some c => .iface 0 (.int .i64 c)
theorem errW_none : errW none = .nilIface := rfl
theorem errW_some (c : Int) : errW (some c) = .iface 0 (.int .i64 c) := rfl

theorem info9 : (Try.prog.info? 9).map (fun i => (i.zero, i.size, i.bytes)) = some (some (.string ⟨#[]⟩), 1, 16) := by kernel_rfl
-- the values' own types

end Go.Proofs.Ytojanhinfgjjiaa.PC
