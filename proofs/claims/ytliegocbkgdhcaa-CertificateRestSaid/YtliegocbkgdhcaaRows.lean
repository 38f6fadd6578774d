/-
  No cell of these rows narrows 'for every input' (looked for: loops, veiled, ifaces, maps, wideKeys, modest, calm, conditions, laid).
  DERIVED. THE GIVEN ROWS OF THIS SEAT. 7 by the template 'for every input the law returns true; each argument reads behind the call as it read before'; 0 by the template 'total and deterministic' (their statements: YtliegocbkgdhcaaTotals.lean).
  GIVEN WITH THE SEED: the statements are not yours to turn. If you find one false, say at which input.
  Laid BY PROGRAM, IN A SANDBOX (cutbox-rows.mjs): the forced cells as the released guide's own fill.sh prints them over the translation 5d13d12bf2ca305b… (all of the seat's roots in one cut). By AI agents, Wed Nov 11 2026. No macro, syntax, notation, axiom, sorry.
-/
import Derived.Test.YtliegocbkgdhcaaChecked
import GoSem.Claim
import GoSem.ClaimJoined
import GoSem.ClaimMapViews
import Derived.JoinedTies
import Derived.KernelRfl
namespace Go.Proofs.Ytliegocbkgdhcaa
/- THE CELL 'sum', in the pinned program and in every row, IS THE sha256 OF THE DUMP (.gsa) THAT YtliegocbkgdhcaaProg.lean LOADS. Nothing in Lean hashes anything: it is a label: what it is worth is what the hold of that sum in a sandbox is worth. -/
noncomputable def Try.pinned : Pinned := { name := "ytliegocbkgdhcaa", sum := "5d13d12bf2ca305b4c7c1e3c7e62c415dbe4a1d4348fcefc8b9d71475b556b90", checked := Try.checked }
namespace Rows
def none {H : Type} : Left H := { results := [], args := [] }

/-- 'vinculumlaw46.CertificateMake': WHATEVER THE INPUT: true; the input reads as it did. -/
def certificateMakeSpec : ChangeSpec := { name := "certificateMake", fn := fun _ => fun
  | [d1, d2] => { results := [.lit (.bool true)], args := [d1, d2] }
  | _ => none }
def certificateMakeRow : OpenClaim := { program := "ytliegocbkgdhcaa", sum := "5d13d12bf2ca305b4c7c1e3c7e62c415dbe4a1d4348fcefc8b9d71475b556b90", func := "vinculum/vinculumlaw46.CertificateMake", spec := "certificateMake", unfollowed := true, recurses := true, apart := false }
def CertificateMakeSaid : Prop := certificateMakeRow.holds Try.pinned (OpenSpec.ofChange certificateMakeSpec)

/-- ITS FALSE NEIGHBOUR: 'it returns false'. Refute it at one input. -/
def certificateMakeWrong : ChangeSpec := { name := "certificateMake", fn := fun _ => fun
  | [d1, d2] => { results := [.lit (.bool false)], args := [d1, d2] }
  | _ => none }
def CertificateMakeWrongFalsely : Prop := certificateMakeRow.holds Try.pinned (OpenSpec.ofChange certificateMakeWrong)

/-- 'vinculumlaw46.CertificateCheck': WHATEVER THE INPUT: true; the input reads as it did. -/
def certificateCheckSpec : ChangeSpec := { name := "certificateCheck", fn := fun _ => fun
  | [d1, d2, d3] => { results := [.lit (.bool true)], args := [d1, d2, d3] }
  | _ => none }
def certificateCheckRow : OpenClaim := { program := "ytliegocbkgdhcaa", sum := "5d13d12bf2ca305b4c7c1e3c7e62c415dbe4a1d4348fcefc8b9d71475b556b90", func := "vinculum/vinculumlaw46.CertificateCheck", spec := "certificateCheck", unfollowed := true, recurses := true, apart := false }
def CertificateCheckSaid : Prop := certificateCheckRow.holds Try.pinned (OpenSpec.ofChange certificateCheckSpec)

/-- ITS FALSE NEIGHBOUR: 'it returns false'. Refute it at one input. -/
def certificateCheckWrong : ChangeSpec := { name := "certificateCheck", fn := fun _ => fun
  | [d1, d2, d3] => { results := [.lit (.bool false)], args := [d1, d2, d3] }
  | _ => none }
def CertificateCheckWrongFalsely : Prop := certificateCheckRow.holds Try.pinned (OpenSpec.ofChange certificateCheckWrong)

/-- 'vinculumlaw46.CertificateGreatest': WHATEVER THE INPUT: true; the input reads as it did. -/
def certificateGreatestSpec : ChangeSpec := { name := "certificateGreatest", fn := fun _ => fun
  | [d1, d2, d3] => { results := [.lit (.bool true)], args := [d1, d2, d3] }
  | _ => none }
def certificateGreatestRow : OpenClaim := { program := "ytliegocbkgdhcaa", sum := "5d13d12bf2ca305b4c7c1e3c7e62c415dbe4a1d4348fcefc8b9d71475b556b90", func := "vinculum/vinculumlaw46.CertificateGreatest", spec := "certificateGreatest", unfollowed := true, recurses := true, apart := false }
def CertificateGreatestSaid : Prop := certificateGreatestRow.holds Try.pinned (OpenSpec.ofChange certificateGreatestSpec)

/-- ITS FALSE NEIGHBOUR: 'it returns false'. Refute it at one input. -/
def certificateGreatestWrong : ChangeSpec := { name := "certificateGreatest", fn := fun _ => fun
  | [d1, d2, d3] => { results := [.lit (.bool false)], args := [d1, d2, d3] }
  | _ => none }
def CertificateGreatestWrongFalsely : Prop := certificateGreatestRow.holds Try.pinned (OpenSpec.ofChange certificateGreatestWrong)

/-- 'vinculumlaw46.CertificateProves': WHATEVER THE INPUT: true; the input reads as it did. -/
def certificateProvesSpec : ChangeSpec := { name := "certificateProves", fn := fun _ => fun
  | [d1, d2, d3] => { results := [.lit (.bool true)], args := [d1, d2, d3] }
  | _ => none }
def certificateProvesRow : OpenClaim := { program := "ytliegocbkgdhcaa", sum := "5d13d12bf2ca305b4c7c1e3c7e62c415dbe4a1d4348fcefc8b9d71475b556b90", func := "vinculum/vinculumlaw46.CertificateProves", spec := "certificateProves", unfollowed := true, recurses := true, apart := false }
def CertificateProvesSaid : Prop := certificateProvesRow.holds Try.pinned (OpenSpec.ofChange certificateProvesSpec)

/-- ITS FALSE NEIGHBOUR: 'it returns false'. Refute it at one input. -/
def certificateProvesWrong : ChangeSpec := { name := "certificateProves", fn := fun _ => fun
  | [d1, d2, d3] => { results := [.lit (.bool false)], args := [d1, d2, d3] }
  | _ => none }
def CertificateProvesWrongFalsely : Prop := certificateProvesRow.holds Try.pinned (OpenSpec.ofChange certificateProvesWrong)

/-- 'vinculumlaw46.CertificateOnly': WHATEVER THE INPUT: true; the input reads as it did. -/
def certificateOnlySpec : ChangeSpec := { name := "certificateOnly", fn := fun _ => fun
  | [d1, d2, d3] => { results := [.lit (.bool true)], args := [d1, d2, d3] }
  | _ => none }
def certificateOnlyRow : OpenClaim := { program := "ytliegocbkgdhcaa", sum := "5d13d12bf2ca305b4c7c1e3c7e62c415dbe4a1d4348fcefc8b9d71475b556b90", func := "vinculum/vinculumlaw46.CertificateOnly", spec := "certificateOnly", unfollowed := true, recurses := true, apart := false }
def CertificateOnlySaid : Prop := certificateOnlyRow.holds Try.pinned (OpenSpec.ofChange certificateOnlySpec)

/-- ITS FALSE NEIGHBOUR: 'it returns false'. Refute it at one input. -/
def certificateOnlyWrong : ChangeSpec := { name := "certificateOnly", fn := fun _ => fun
  | [d1, d2, d3] => { results := [.lit (.bool false)], args := [d1, d2, d3] }
  | _ => none }
def CertificateOnlyWrongFalsely : Prop := certificateOnlyRow.holds Try.pinned (OpenSpec.ofChange certificateOnlyWrong)

/-- 'vinculumlaw46.CertificateBest': WHATEVER THE INPUT: true; the input reads as it did. -/
def certificateBestSpec : ChangeSpec := { name := "certificateBest", fn := fun _ => fun
  | [d1, d2] => { results := [.lit (.bool true)], args := [d1, d2] }
  | _ => none }
def certificateBestRow : OpenClaim := { program := "ytliegocbkgdhcaa", sum := "5d13d12bf2ca305b4c7c1e3c7e62c415dbe4a1d4348fcefc8b9d71475b556b90", func := "vinculum/vinculumlaw46.CertificateBest", spec := "certificateBest", unfollowed := true, recurses := true, apart := false }
def CertificateBestSaid : Prop := certificateBestRow.holds Try.pinned (OpenSpec.ofChange certificateBestSpec)

/-- ITS FALSE NEIGHBOUR: 'it returns false'. Refute it at one input. -/
def certificateBestWrong : ChangeSpec := { name := "certificateBest", fn := fun _ => fun
  | [d1, d2] => { results := [.lit (.bool false)], args := [d1, d2] }
  | _ => none }
def CertificateBestWrongFalsely : Prop := certificateBestRow.holds Try.pinned (OpenSpec.ofChange certificateBestWrong)

/-- 'vinculumlaw46.CertificateRest': WHATEVER THE INPUT: true; the input reads as it did. -/
def certificateRestSpec : ChangeSpec := { name := "certificateRest", fn := fun _ => fun
  | [d1, d2, d3] => { results := [.lit (.bool true)], args := [d1, d2, d3] }
  | _ => none }
def certificateRestRow : OpenClaim := { program := "ytliegocbkgdhcaa", sum := "5d13d12bf2ca305b4c7c1e3c7e62c415dbe4a1d4348fcefc8b9d71475b556b90", func := "vinculum/vinculumlaw46.CertificateRest", spec := "certificateRest", unfollowed := true, recurses := true, apart := false }
def CertificateRestSaid : Prop := certificateRestRow.holds Try.pinned (OpenSpec.ofChange certificateRestSpec)

/-- ITS FALSE NEIGHBOUR: 'it returns false'. Refute it at one input. -/
def certificateRestWrong : ChangeSpec := { name := "certificateRest", fn := fun _ => fun
  | [d1, d2, d3] => { results := [.lit (.bool false)], args := [d1, d2, d3] }
  | _ => none }
def CertificateRestWrongFalsely : Prop := certificateRestRow.holds Try.pinned (OpenSpec.ofChange certificateRestWrong)

/- THE SECOND FORM. 'bulk': how many values and letters a reading holds, each counted each time it is reached (what is shared counts as often as it is met; a slice's spare places count too). A statement '..UptoSaid' is the law's where the arguments, and the package variables that the reading takes, are together of bulk at most 1048576: NARROWER than '..Said'. Prove '..Said' where nothing that the law and all that it calls make is longer than what came in: it says more and counts as full. Else prove '..UptoSaid'. A law counts once. -/
mutual
def uptoBulk {H : Type} : DataW H → Nat
  | .lit (.string bytes) => bytes.length + 1
  | .lit _ => 1
  | .nil => 1
  | .ptr d => uptoBulk d + 1
  | .slice elems spare => uptoBulkAll elems + uptoBulkAll spare + 1
  | .agg parts => uptoBulkAll parts + 1
  | .iface _ d => uptoBulk d + 1
  | .map entries => uptoBulkEntries entries + 1
  | .held _ => 1
def uptoBulkAll {H : Type} : List (DataW H) → Nat
  | [] => 0
  | d :: r => uptoBulk d + uptoBulkAll r
def uptoBulkEntries {H : Type} : List (Lit × DataW H) → Nat
  | [] => 0
  | x :: r => uptoBulkEntry x + uptoBulkEntries r
def uptoBulkEntry {H : Type} : Lit × DataW H → Nat
  | (.string bytes, d) => bytes.length + uptoBulk d + 1
  | (_, d) => uptoBulk d + 1
 end
def uptoSmall : (H : Type) → List (DataW H) → Bool := fun _ ds => decide (uptoBulkAll ds ≤ 1048576)
def OpenSpec.upto (s : _root_.Go.ChangeSpec) : _root_.Go.OpenSpec := { _root_.Go.OpenSpec.ofChange s with cond := some uptoSmall }

/-- 'vinculumlaw46.CertificateMake', WHERE WHAT IT READS IS OF BULK AT MOST 1048576: true; the input reads as it did. -/
def certificateMakeUptoRow : OpenClaim := { program := "ytliegocbkgdhcaa", sum := "5d13d12bf2ca305b4c7c1e3c7e62c415dbe4a1d4348fcefc8b9d71475b556b90", func := "vinculum/vinculumlaw46.CertificateMake", spec := "certificateMake", unfollowed := true, recurses := true, apart := false, narrowed := true }
def CertificateMakeUptoSaid : Prop := certificateMakeUptoRow.holds Try.pinned (OpenSpec.upto certificateMakeSpec)

/-- 'vinculumlaw46.CertificateCheck', WHERE WHAT IT READS IS OF BULK AT MOST 1048576: true; the input reads as it did. -/
def certificateCheckUptoRow : OpenClaim := { program := "ytliegocbkgdhcaa", sum := "5d13d12bf2ca305b4c7c1e3c7e62c415dbe4a1d4348fcefc8b9d71475b556b90", func := "vinculum/vinculumlaw46.CertificateCheck", spec := "certificateCheck", unfollowed := true, recurses := true, apart := false, narrowed := true }
def CertificateCheckUptoSaid : Prop := certificateCheckUptoRow.holds Try.pinned (OpenSpec.upto certificateCheckSpec)

/-- 'vinculumlaw46.CertificateGreatest', WHERE WHAT IT READS IS OF BULK AT MOST 1048576: true; the input reads as it did. -/
def certificateGreatestUptoRow : OpenClaim := { program := "ytliegocbkgdhcaa", sum := "5d13d12bf2ca305b4c7c1e3c7e62c415dbe4a1d4348fcefc8b9d71475b556b90", func := "vinculum/vinculumlaw46.CertificateGreatest", spec := "certificateGreatest", unfollowed := true, recurses := true, apart := false, narrowed := true }
def CertificateGreatestUptoSaid : Prop := certificateGreatestUptoRow.holds Try.pinned (OpenSpec.upto certificateGreatestSpec)

/-- 'vinculumlaw46.CertificateProves', WHERE WHAT IT READS IS OF BULK AT MOST 1048576: true; the input reads as it did. -/
def certificateProvesUptoRow : OpenClaim := { program := "ytliegocbkgdhcaa", sum := "5d13d12bf2ca305b4c7c1e3c7e62c415dbe4a1d4348fcefc8b9d71475b556b90", func := "vinculum/vinculumlaw46.CertificateProves", spec := "certificateProves", unfollowed := true, recurses := true, apart := false, narrowed := true }
def CertificateProvesUptoSaid : Prop := certificateProvesUptoRow.holds Try.pinned (OpenSpec.upto certificateProvesSpec)

/-- 'vinculumlaw46.CertificateOnly', WHERE WHAT IT READS IS OF BULK AT MOST 1048576: true; the input reads as it did. -/
def certificateOnlyUptoRow : OpenClaim := { program := "ytliegocbkgdhcaa", sum := "5d13d12bf2ca305b4c7c1e3c7e62c415dbe4a1d4348fcefc8b9d71475b556b90", func := "vinculum/vinculumlaw46.CertificateOnly", spec := "certificateOnly", unfollowed := true, recurses := true, apart := false, narrowed := true }
def CertificateOnlyUptoSaid : Prop := certificateOnlyUptoRow.holds Try.pinned (OpenSpec.upto certificateOnlySpec)

/-- 'vinculumlaw46.CertificateBest', WHERE WHAT IT READS IS OF BULK AT MOST 1048576: true; the input reads as it did. -/
def certificateBestUptoRow : OpenClaim := { program := "ytliegocbkgdhcaa", sum := "5d13d12bf2ca305b4c7c1e3c7e62c415dbe4a1d4348fcefc8b9d71475b556b90", func := "vinculum/vinculumlaw46.CertificateBest", spec := "certificateBest", unfollowed := true, recurses := true, apart := false, narrowed := true }
def CertificateBestUptoSaid : Prop := certificateBestUptoRow.holds Try.pinned (OpenSpec.upto certificateBestSpec)

/-- 'vinculumlaw46.CertificateRest', WHERE WHAT IT READS IS OF BULK AT MOST 1048576: true; the input reads as it did. -/
def certificateRestUptoRow : OpenClaim := { program := "ytliegocbkgdhcaa", sum := "5d13d12bf2ca305b4c7c1e3c7e62c415dbe4a1d4348fcefc8b9d71475b556b90", func := "vinculum/vinculumlaw46.CertificateRest", spec := "certificateRest", unfollowed := true, recurses := true, apart := false, narrowed := true }
def CertificateRestUptoSaid : Prop := certificateRestUptoRow.holds Try.pinned (OpenSpec.upto certificateRestSpec)

end Rows
end Go.Proofs.Ytliegocbkgdhcaa
