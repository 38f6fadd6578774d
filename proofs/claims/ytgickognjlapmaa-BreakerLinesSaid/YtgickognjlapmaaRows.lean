/-
  No cell of these rows narrows 'for every input' (looked for: loops, veiled, ifaces, maps, wideKeys, modest, calm, conditions, laid).
  DERIVED. THE GIVEN ROWS OF THIS SEAT. 7 by the template 'for every input the law returns true; each argument reads behind the call as it read before'; 0 by the template 'total and deterministic' (their statements: YtgickognjlapmaaTotals.lean).
  GIVEN WITH THE SEED: the statements are not yours to turn. If you find one false, say at which input.
  Laid BY PROGRAM, IN A SANDBOX (cutbox-rows.mjs): the forced cells as the released guide's own fill.sh prints them over the translation 5ce130d2ccb42ed3… (all of the seat's roots in one cut). By AI agents, Wed Nov 11 2026. No macro, syntax, notation, axiom, sorry.
-/
import Derived.Test.YtgickognjlapmaaChecked
import GoSem.Claim
import GoSem.ClaimJoined
import GoSem.ClaimMapViews
import Derived.JoinedTies
import Derived.KernelRfl
namespace Go.Proofs.Ytgickognjlapmaa
/- THE CELL 'sum', in the pinned program and in every row, IS THE sha256 OF THE DUMP (.gsa) THAT YtgickognjlapmaaProg.lean LOADS. Nothing in Lean hashes anything: it is a label: what it is worth is what the hold of that sum in a sandbox is worth. -/
noncomputable def Try.pinned : Pinned := { name := "ytgickognjlapmaa", sum := "5ce130d2ccb42ed34dae1898df79107a9b26df89abef7cce5c97a45dad03c768", checked := Try.checked }
namespace Rows
def none {H : Type} : Left H := { results := [], args := [] }

/-- 'vinculumlaw45.BreakerTails': WHATEVER THE INPUT: true; the input reads as it did. -/
def breakerTailsSpec : ChangeSpec := { name := "breakerTails", fn := fun _ => fun
  | [d1, d2] => { results := [.lit (.bool true)], args := [d1, d2] }
  | _ => none }
def breakerTailsRow : OpenClaim := { program := "ytgickognjlapmaa", sum := "5ce130d2ccb42ed34dae1898df79107a9b26df89abef7cce5c97a45dad03c768", func := "vinculum/vinculumlaw45.BreakerTails", spec := "breakerTails", unfollowed := true, recurses := true, apart := false }
def BreakerTailsSaid : Prop := breakerTailsRow.holds Try.pinned (OpenSpec.ofChange breakerTailsSpec)

/-- ITS FALSE NEIGHBOUR: 'it returns false'. Refute it at one input. -/
def breakerTailsWrong : ChangeSpec := { name := "breakerTails", fn := fun _ => fun
  | [d1, d2] => { results := [.lit (.bool false)], args := [d1, d2] }
  | _ => none }
def BreakerTailsWrongFalsely : Prop := breakerTailsRow.holds Try.pinned (OpenSpec.ofChange breakerTailsWrong)

/-- 'vinculumlaw45.BreakerWide': WHATEVER THE INPUT: true; the input reads as it did. -/
def breakerWideSpec : ChangeSpec := { name := "breakerWide", fn := fun _ => fun
  | [d1, d2] => { results := [.lit (.bool true)], args := [d1, d2] }
  | _ => none }
def breakerWideRow : OpenClaim := { program := "ytgickognjlapmaa", sum := "5ce130d2ccb42ed34dae1898df79107a9b26df89abef7cce5c97a45dad03c768", func := "vinculum/vinculumlaw45.BreakerWide", spec := "breakerWide", unfollowed := true, recurses := true, apart := false }
def BreakerWideSaid : Prop := breakerWideRow.holds Try.pinned (OpenSpec.ofChange breakerWideSpec)

/-- ITS FALSE NEIGHBOUR: 'it returns false'. Refute it at one input. -/
def breakerWideWrong : ChangeSpec := { name := "breakerWide", fn := fun _ => fun
  | [d1, d2] => { results := [.lit (.bool false)], args := [d1, d2] }
  | _ => none }
def BreakerWideWrongFalsely : Prop := breakerWideRow.holds Try.pinned (OpenSpec.ofChange breakerWideWrong)

/-- 'vinculumlaw45.BreakerBest': WHATEVER THE INPUT: true; the input reads as it did. -/
def breakerBestSpec : ChangeSpec := { name := "breakerBest", fn := fun _ => fun
  | [d1, d2] => { results := [.lit (.bool true)], args := [d1, d2] }
  | _ => none }
def breakerBestRow : OpenClaim := { program := "ytgickognjlapmaa", sum := "5ce130d2ccb42ed34dae1898df79107a9b26df89abef7cce5c97a45dad03c768", func := "vinculum/vinculumlaw45.BreakerBest", spec := "breakerBest", unfollowed := true, recurses := true, apart := false }
def BreakerBestSaid : Prop := breakerBestRow.holds Try.pinned (OpenSpec.ofChange breakerBestSpec)

/-- ITS FALSE NEIGHBOUR: 'it returns false'. Refute it at one input. -/
def breakerBestWrong : ChangeSpec := { name := "breakerBest", fn := fun _ => fun
  | [d1, d2] => { results := [.lit (.bool false)], args := [d1, d2] }
  | _ => none }
def BreakerBestWrongFalsely : Prop := breakerBestRow.holds Try.pinned (OpenSpec.ofChange breakerBestWrong)

/-- 'vinculumlaw45.BreakerLines': WHATEVER THE INPUT: true; the input reads as it did. -/
def breakerLinesSpec : ChangeSpec := { name := "breakerLines", fn := fun _ => fun
  | [d1, d2] => { results := [.lit (.bool true)], args := [d1, d2] }
  | _ => none }
def breakerLinesRow : OpenClaim := { program := "ytgickognjlapmaa", sum := "5ce130d2ccb42ed34dae1898df79107a9b26df89abef7cce5c97a45dad03c768", func := "vinculum/vinculumlaw45.BreakerLines", spec := "breakerLines", unfollowed := true, recurses := true, apart := false }
def BreakerLinesSaid : Prop := breakerLinesRow.holds Try.pinned (OpenSpec.ofChange breakerLinesSpec)

/-- ITS FALSE NEIGHBOUR: 'it returns false'. Refute it at one input. -/
def breakerLinesWrong : ChangeSpec := { name := "breakerLines", fn := fun _ => fun
  | [d1, d2] => { results := [.lit (.bool false)], args := [d1, d2] }
  | _ => none }
def BreakerLinesWrongFalsely : Prop := breakerLinesRow.holds Try.pinned (OpenSpec.ofChange breakerLinesWrong)

/-- 'vinculumlaw45.BreakerLeast': WHATEVER THE INPUT: true; the input reads as it did. -/
def breakerLeastSpec : ChangeSpec := { name := "breakerLeast", fn := fun _ => fun
  | [d1, d2, d3] => { results := [.lit (.bool true)], args := [d1, d2, d3] }
  | _ => none }
def breakerLeastRow : OpenClaim := { program := "ytgickognjlapmaa", sum := "5ce130d2ccb42ed34dae1898df79107a9b26df89abef7cce5c97a45dad03c768", func := "vinculum/vinculumlaw45.BreakerLeast", spec := "breakerLeast", unfollowed := true, recurses := true, apart := false }
def BreakerLeastSaid : Prop := breakerLeastRow.holds Try.pinned (OpenSpec.ofChange breakerLeastSpec)

/-- ITS FALSE NEIGHBOUR: 'it returns false'. Refute it at one input. -/
def breakerLeastWrong : ChangeSpec := { name := "breakerLeast", fn := fun _ => fun
  | [d1, d2, d3] => { results := [.lit (.bool false)], args := [d1, d2, d3] }
  | _ => none }
def BreakerLeastWrongFalsely : Prop := breakerLeastRow.holds Try.pinned (OpenSpec.ofChange breakerLeastWrong)

/-- 'vinculumlaw45.BreakerPenalties': WHATEVER THE INPUT: true; the input reads as it did. -/
def breakerPenaltiesSpec : ChangeSpec := { name := "breakerPenalties", fn := fun _ => fun
  | [d1, d2, d3] => { results := [.lit (.bool true)], args := [d1, d2, d3] }
  | _ => none }
def breakerPenaltiesRow : OpenClaim := { program := "ytgickognjlapmaa", sum := "5ce130d2ccb42ed34dae1898df79107a9b26df89abef7cce5c97a45dad03c768", func := "vinculum/vinculumlaw45.BreakerPenalties", spec := "breakerPenalties", unfollowed := true, recurses := true, apart := false }
def BreakerPenaltiesSaid : Prop := breakerPenaltiesRow.holds Try.pinned (OpenSpec.ofChange breakerPenaltiesSpec)

/-- ITS FALSE NEIGHBOUR: 'it returns false'. Refute it at one input. -/
def breakerPenaltiesWrong : ChangeSpec := { name := "breakerPenalties", fn := fun _ => fun
  | [d1, d2, d3] => { results := [.lit (.bool false)], args := [d1, d2, d3] }
  | _ => none }
def BreakerPenaltiesWrongFalsely : Prop := breakerPenaltiesRow.holds Try.pinned (OpenSpec.ofChange breakerPenaltiesWrong)

/-- 'vinculumlaw45.BreakerNumbers': WHATEVER THE INPUT: true; the input reads as it did. -/
def breakerNumbersSpec : ChangeSpec := { name := "breakerNumbers", fn := fun _ => fun
  | [d1, d2] => { results := [.lit (.bool true)], args := [d1, d2] }
  | _ => none }
def breakerNumbersRow : OpenClaim := { program := "ytgickognjlapmaa", sum := "5ce130d2ccb42ed34dae1898df79107a9b26df89abef7cce5c97a45dad03c768", func := "vinculum/vinculumlaw45.BreakerNumbers", spec := "breakerNumbers", unfollowed := true, recurses := true, apart := false }
def BreakerNumbersSaid : Prop := breakerNumbersRow.holds Try.pinned (OpenSpec.ofChange breakerNumbersSpec)

/-- ITS FALSE NEIGHBOUR: 'it returns false'. Refute it at one input. -/
def breakerNumbersWrong : ChangeSpec := { name := "breakerNumbers", fn := fun _ => fun
  | [d1, d2] => { results := [.lit (.bool false)], args := [d1, d2] }
  | _ => none }
def BreakerNumbersWrongFalsely : Prop := breakerNumbersRow.holds Try.pinned (OpenSpec.ofChange breakerNumbersWrong)

/- THE SECOND FORM. 'bulk': how many values and letters a reading holds, each counted each time it is reached (what is shared counts as often as it is met; a slice's spare places count too). A statement '..UptoSaid' is the law's where the arguments, and the package variables that the reading takes, are together of bulk at most 1048576: NARROWER than '..Said'. Prove '..Said' where nothing that the law and all that it calls make is longer than what came in: it says more and counts as full. Else prove '..UptoSaid'. A law counts once. -/
mutual
def uptoBulk {H : Type} : DataW H → Nat
  | .lit (.string bytes) => bytes.length + 1
  | .lit _ => 1
  | .nil => 1
  | .ptr d => uptoBulk d + 1
  | .slice elems spare => uptoBulkAll elems + uptoBulkAll spare + 1
  | .agg parts => uptoBulkAll parts + 1
  | .iface _ d => uptoBulk d + 1
  | .map entries => uptoBulkEntries entries + 1
  | .held _ => 1
def uptoBulkAll {H : Type} : List (DataW H) → Nat
  | [] => 0
  | d :: r => uptoBulk d + uptoBulkAll r
def uptoBulkEntries {H : Type} : List (Lit × DataW H) → Nat
  | [] => 0
  | x :: r => uptoBulkEntry x + uptoBulkEntries r
def uptoBulkEntry {H : Type} : Lit × DataW H → Nat
  | (.string bytes, d) => bytes.length + uptoBulk d + 1
  | (_, d) => uptoBulk d + 1
 end
def uptoSmall : (H : Type) → List (DataW H) → Bool := fun _ ds => decide (uptoBulkAll ds ≤ 1048576)
def OpenSpec.upto (s : _root_.Go.ChangeSpec) : _root_.Go.OpenSpec := { _root_.Go.OpenSpec.ofChange s with cond := some uptoSmall }

/-- 'vinculumlaw45.BreakerTails', WHERE WHAT IT READS IS OF BULK AT MOST 1048576: true; the input reads as it did. -/
def breakerTailsUptoRow : OpenClaim := { program := "ytgickognjlapmaa", sum := "5ce130d2ccb42ed34dae1898df79107a9b26df89abef7cce5c97a45dad03c768", func := "vinculum/vinculumlaw45.BreakerTails", spec := "breakerTails", unfollowed := true, recurses := true, apart := false, narrowed := true }
def BreakerTailsUptoSaid : Prop := breakerTailsUptoRow.holds Try.pinned (OpenSpec.upto breakerTailsSpec)

/-- 'vinculumlaw45.BreakerWide', WHERE WHAT IT READS IS OF BULK AT MOST 1048576: true; the input reads as it did. -/
def breakerWideUptoRow : OpenClaim := { program := "ytgickognjlapmaa", sum := "5ce130d2ccb42ed34dae1898df79107a9b26df89abef7cce5c97a45dad03c768", func := "vinculum/vinculumlaw45.BreakerWide", spec := "breakerWide", unfollowed := true, recurses := true, apart := false, narrowed := true }
def BreakerWideUptoSaid : Prop := breakerWideUptoRow.holds Try.pinned (OpenSpec.upto breakerWideSpec)

/-- 'vinculumlaw45.BreakerBest', WHERE WHAT IT READS IS OF BULK AT MOST 1048576: true; the input reads as it did. -/
def breakerBestUptoRow : OpenClaim := { program := "ytgickognjlapmaa", sum := "5ce130d2ccb42ed34dae1898df79107a9b26df89abef7cce5c97a45dad03c768", func := "vinculum/vinculumlaw45.BreakerBest", spec := "breakerBest", unfollowed := true, recurses := true, apart := false, narrowed := true }
def BreakerBestUptoSaid : Prop := breakerBestUptoRow.holds Try.pinned (OpenSpec.upto breakerBestSpec)

/-- 'vinculumlaw45.BreakerLines', WHERE WHAT IT READS IS OF BULK AT MOST 1048576: true; the input reads as it did. -/
def breakerLinesUptoRow : OpenClaim := { program := "ytgickognjlapmaa", sum := "5ce130d2ccb42ed34dae1898df79107a9b26df89abef7cce5c97a45dad03c768", func := "vinculum/vinculumlaw45.BreakerLines", spec := "breakerLines", unfollowed := true, recurses := true, apart := false, narrowed := true }
def BreakerLinesUptoSaid : Prop := breakerLinesUptoRow.holds Try.pinned (OpenSpec.upto breakerLinesSpec)

/-- 'vinculumlaw45.BreakerLeast', WHERE WHAT IT READS IS OF BULK AT MOST 1048576: true; the input reads as it did. -/
def breakerLeastUptoRow : OpenClaim := { program := "ytgickognjlapmaa", sum := "5ce130d2ccb42ed34dae1898df79107a9b26df89abef7cce5c97a45dad03c768", func := "vinculum/vinculumlaw45.BreakerLeast", spec := "breakerLeast", unfollowed := true, recurses := true, apart := false, narrowed := true }
def BreakerLeastUptoSaid : Prop := breakerLeastUptoRow.holds Try.pinned (OpenSpec.upto breakerLeastSpec)

/-- 'vinculumlaw45.BreakerPenalties', WHERE WHAT IT READS IS OF BULK AT MOST 1048576: true; the input reads as it did. -/
def breakerPenaltiesUptoRow : OpenClaim := { program := "ytgickognjlapmaa", sum := "5ce130d2ccb42ed34dae1898df79107a9b26df89abef7cce5c97a45dad03c768", func := "vinculum/vinculumlaw45.BreakerPenalties", spec := "breakerPenalties", unfollowed := true, recurses := true, apart := false, narrowed := true }
def BreakerPenaltiesUptoSaid : Prop := breakerPenaltiesUptoRow.holds Try.pinned (OpenSpec.upto breakerPenaltiesSpec)

/-- 'vinculumlaw45.BreakerNumbers', WHERE WHAT IT READS IS OF BULK AT MOST 1048576: true; the input reads as it did. -/
def breakerNumbersUptoRow : OpenClaim := { program := "ytgickognjlapmaa", sum := "5ce130d2ccb42ed34dae1898df79107a9b26df89abef7cce5c97a45dad03c768", func := "vinculum/vinculumlaw45.BreakerNumbers", spec := "breakerNumbers", unfollowed := true, recurses := true, apart := false, narrowed := true }
def BreakerNumbersUptoSaid : Prop := breakerNumbersUptoRow.holds Try.pinned (OpenSpec.upto breakerNumbersSpec)

end Rows
end Go.Proofs.Ytgickognjlapmaa
