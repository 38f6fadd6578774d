/- CodecStreams: for every input that can be read, the call returns true and leaves its arguments as they were. No condition beyond the statement's own. -/
import Derived.Test.YtploigkfnkgjiaaRows
import Derived.Test.YtploigkfnkgjiaaOpen
import Derived.Test.YtploigkfnkgjiaaPureCodecStreams
import Derived.Test.YtploigkfnkgjiaaPFx8
import Derived.WalkKit
import Derived.ProofKit
import Derived.OpenShut
import Derived.ShutString
import Derived.ChangeOld
import Derived.Below
import Derived.SizedLaws
namespace Go.Proofs.Ytploigkfnkgjiaa.codecStreams
open Go.ChangeShapes Go.WideShapes Go.ChangeAt Go.RowKit Go.Proofs.Ytploigkfnkgjiaa.Open Go.Proofs.Ytploigkfnkgjiaa.PF Go.Proofs.YtploigkfnkgjiaaW.PrintWords
open Go.ChangeMaps (open_string shut_string)
set_option linter.unusedVariables false
set_option linter.unusedSimpArgs false
theorem own : ownKnob Try.prog.godebug = none := by kernel_rfl
theorem laidOut : laidOutB Try.prog = true := by kernel_rfl
theorem Wf24_up : ∀ (d : Nat) (x : S24), Pure.Wf24 d x → Pure.Wf24 (d + 1) x
  | 0, _, h => h.elim
  | d + 1, x, h => by
    obtain ⟨h0, h1, h2, ⟨h3a, h3b, h3c⟩⟩ := h
    exact ⟨h0, h1, h2, ⟨h3a, h3b, fun v hv => Wf24_up d v (h3c v hv)⟩⟩
theorem atU24 {H : Type} {enc : TypeId × Value → H} {w : World} {base : Nat} {spare : Nat → Bool} {held : Bool} : ∀ n, At enc Try.prog w base spare held n 24 (Kd.upto F24 4 [24] n) (Pure.Wf24 n) := by
  intro n
  induction n using Nat.strongRecOn with
  | _ n ih =>
    cases n with
    | zero => exact fun cs x h _ => by simp [DataW.trod] at h
    | succ n => exact (at_iso (n := n + 1) (d := Kd.pair (Kd.int .i64) (Kd.pair (Kd.int .i64) (Kd.pair Kd.string (Kd.slice 24 (Kd.upto F24 4 [24] n))))) (fun a => (⟨a.1, a.2.1, a.2.2.1, a.2.2.2⟩ : S24)) (fun _ => rfl) (at_struct4 Try.underlying24 (by kernel_rfl) (by kernel_rfl) (by kernel_rfl) (by kernel_rfl) (by kernel_rfl) (by kernel_rfl) (by kernel_rfl) (by kernel_rfl) (by kernel_rfl) (fun _ _ => at_int Try.underlying3) (fun _ _ => at_int Try.underlying3) (fun _ _ => at_string Try.underlying9) (fun n1 e1 => at_slice (B := 56) Try.underlying22 ((by kernel_rfl : Try.prog.cellsOf 24 = 4).trans (sz24 n).symm) (by kernel_rfl) (fun n2 e2 => (show At enc Try.prog w base spare held n2 24 (Kd.upto F24 4 [24] n) (Pure.Wf24 n) from by obtain rfl : n = n2 + 1 := (by omega); exact fun cs x hx hs => by obtain ⟨v, hk, hv⟩ := ih n2 (by omega) cs x hx hs; exact ⟨v, Kd.upto_K mono24 sz24 n2 hk, Wf24_up n2 v hv⟩))))).imp (fun v h => h)
theorem at24 {H : Type} {enc : TypeId × Value → H} {w : World} {base : Nat} {spare : Nat → Bool} {held : Bool} {n : Nat} : At enc Try.prog w base spare held n 24 k24 (fun x => ∃ d, Pure.Wf24 d x) := fun cs x hx hs => by
  obtain ⟨v, hk, hv⟩ := atU24 n cs x hx hs
  exact ⟨v, ⟨n, hk⟩, n, hv⟩
set_option maxRecDepth 100000 in
theorem lifted (os : Os) (started : os.Started) (H : Type) (enc : TypeId × Value → H) :
    ReturnsInHanded {} Try.checked os 9 .any (Rows.codecStreamsSpec.pre6 enc Try.prog Try.f9 Rows.codecStreamsRow.domain false) (Rows.codecStreamsSpec.post enc Try.prog Try.f9 false true false false) := by
  refine returnsInHanded_of_change_sized (C := Try.checked) own started (by kernel_rfl) Try.func9
    (ChangeSpec.witness6 (enc := enc) (C := Try.checked) false ⟨#[], #[.slice none 0 0], []⟩ 8 (by kernel_rfl) (by kernel_rfl) (by kernel_rfl) (by kernel_rfl)) ?_
  intro W base args ds gs before hval0 hW hcnd hsz0 _
  have hsz : (DataW.weightsEach Try.prog (Try.f9.params.toList ++ Rows.codecStreamsSpec.plain.varTypes Try.prog) (ds ++ gs)).all (· ≤ reachBytes) = true := hsz0
  have hval : ∀ (j : Nat) t v, Try.f9.params[j]? = some t → args[j]? = some v → Value.okWide Try.prog W .any base t v := hval0
  have hW' := hW
  obtain ⟨p, q, hA0, hV, rfl, hfz, hnd⟩ := hW
  have hA : DataW.TrodAll enc Try.prog W 0 (fun _ => true) true Try.f9.params.toList args.toList ds p := hA0
  rw [Try.params9] at hA hval hsz
  obtain ⟨v0, vs0, d0, ds0, p0, q0, hargs, rfl, rfl, h0, r0⟩ := trodAll_cons hA
  obtain ⟨rfl, rfl, rfl⟩ := trodAll_nil r0
  obtain rfl : args = #[v0] := by cases args; simp_all
  obtain ⟨rfl, rfl⟩ := trodVars_none hV
  have k0 := h0
  have lt0 : ∀ x ∈ p0, x.block < W.heap.size := by obtain ⟨m, hm⟩ := k0; exact DataW.trod_lt m _ _ _ hm
  obtain ⟨l0, K0, w0⟩ := arg_open (d := (Kd.slice 24 k24)) hsz (j := 0) (t := 22) rfl rfl h0 (fun _ => at_slice (B := 56) Try.underlying22 (by kernel_rfl) (by kernel_rfl) (fun _ _ => at24))
  obtain ⟨A0, cap0, e0, hc0, hr0⟩ := K0
  obtain ⟨A0', len0', cap0', rfl⟩ := okWide_slice Try.underlying22 (hval 0 22 v0 rfl rfl)
  simp only [Value.cells, List.cons.injEq, Value.slice.injEq, and_true] at e0
  obtain ⟨rfl, rfl, rfl⟩ := e0
  clear hA0 hval0 hsz0 hsz
  obtain ⟨k, hk⟩ := Pure.CodecStreams l0 w0
  refine (vinculumlaw03_CodecStreams.calls k _ _ l0 true W hr0 hc0 hk).mono fun e W' ⟨he, bel⟩ => ?_
  subst he
  exact ⟨_, rfl, _, _, _, [], _, [], hW', trodAll_mk1 (shut_bool Try.underlying4 _), (trodAll_cons_mk (Below.trod laidOut (by kernel_rfl) (of_decide_eq_true (by kernel_rfl)) k0 bel lt0) trodAll_mk0), rfl, bel.frame _, fun h => by cases h⟩
theorem over : Rows.codecStreamsRow.holds Try.pinned (OpenSpec.ofChange Rows.codecStreamsSpec) :=
  OpenClaim.holds_of_wide 9 Try.f9 rfl rfl rfl rfl rfl rfl rfl ⟨rfl, rfl, rfl, rfl, rfl⟩ rfl rfl rfl rfl rfl (by kernel_rfl) Try.func9 (by kernel_rfl)
    (of_decide_eq_true (by kernel_rfl)) (by unfold Func.isWrapper; first | (rw [if_pos (by decide +kernel)]; kernel_rfl) | (rw [if_neg (by decide +kernel)]; exact ⟨rfl, rfl⟩))
    (fun os started H enc _ => lifted os started H enc)
theorem proved : Rows.CodecStreamsSaid := over
#print axioms proved
end Go.Proofs.Ytploigkfnkgjiaa.codecStreams
namespace Go.Proofs.Ytploigkfnkgjiaa
/-- The row, under a short name, for the claim. -/
theorem codecStreams_holds : Rows.CodecStreamsSaid := codecStreams.proved
end Go.Proofs.Ytploigkfnkgjiaa
