/- BreakerLines: for every input that can be read, the call returns true and leaves its arguments as they were. No condition beyond the statement's own. -/
import Derived.Test.YtgickognjlapmaaRows
import Derived.Test.YtgickognjlapmaaOpen
import Derived.Test.YtgickognjlapmaaPureBreakerLines
import Derived.Test.YtgickognjlapmaaPRx9
import Derived.WalkKit
import Derived.ProofKit
import Derived.OpenShut
import Derived.ShutString
import Derived.ChangeOld
import Derived.Below
import Derived.SizedLaws
namespace Go.Proofs.Ytgickognjlapmaa.breakerLines
open Go.ChangeShapes Go.WideShapes Go.ChangeAt Go.RowKit Go.Proofs.Ytgickognjlapmaa.Open Go.Proofs.Ytgickognjlapmaa.PR Go.Proofs.YtgickognjlapmaaW.PrintWords
open Go.ChangeMaps (open_string shut_string)
set_option linter.unusedVariables false
set_option linter.unusedSimpArgs false
theorem own : ownKnob Try.prog.godebug = none := by kernel_rfl
theorem laidOut : laidOutB Try.prog = true := by kernel_rfl
def Wf34 (x : S34) : Prop := ((Lit.int .i64 x.f0).wf = true) ∧ ((Lit.int .i64 x.f1).wf = true) ∧ ((Lit.int .i64 x.f2).wf = true)
theorem at34 {H : Type} {enc : TypeId × Value → H} {w : World} {base : Nat} {spare : Nat → Bool} {held : Bool} {n : Nat} : At enc Try.prog w base spare held n 34 k34 Wf34 :=
  at_iso (fun a => ⟨a.1, a.2.1, a.2.2⟩) (fun _ => rfl) (at_struct3 Try.underlying34 (by kernel_rfl) (by kernel_rfl) (by kernel_rfl) (by kernel_rfl) (by kernel_rfl) (by kernel_rfl) (by kernel_rfl) (fun _ _ => at_int Try.underlying3) (fun _ _ => at_int Try.underlying3) (fun _ _ => at_int Try.underlying3))
set_option maxRecDepth 100000 in
theorem lifted (os : Os) (started : os.Started) (H : Type) (enc : TypeId × Value → H) :
    ReturnsInHanded {} Try.checked os 6 .any (Rows.breakerLinesSpec.pre6 enc Try.prog Try.f6 Rows.breakerLinesRow.domain false) (Rows.breakerLinesSpec.post enc Try.prog Try.f6 false true false false) := by
  refine returnsInHanded_of_change_sized (C := Try.checked) own started (by kernel_rfl) Try.func6
    (ChangeSpec.witness6 (enc := enc) (C := Try.checked) false ⟨#[], #[.slice none 0 0, .agg #[.int .i64 0, .int .i64 0, .int .i64 0]], []⟩ 8 (by kernel_rfl) (by kernel_rfl) (by kernel_rfl) (by kernel_rfl)) ?_
  intro W base args ds gs before hval0 hW hcnd hsz0 _
  have hsz : (DataW.weightsEach Try.prog (Try.f6.params.toList ++ Rows.breakerLinesSpec.plain.varTypes Try.prog) (ds ++ gs)).all (· ≤ reachBytes) = true := hsz0
  have hval : ∀ (j : Nat) t v, Try.f6.params[j]? = some t → args[j]? = some v → Value.okWide Try.prog W .any base t v := hval0
  have hW' := hW
  obtain ⟨p, q, hA0, hV, rfl, hfz, hnd⟩ := hW
  have hA : DataW.TrodAll enc Try.prog W 0 (fun _ => true) true Try.f6.params.toList args.toList ds p := hA0
  rw [Try.params6] at hA hval hsz
  obtain ⟨v0, vs0, d0, ds0, p0, q0, hargs, rfl, rfl, h0, r0⟩ := trodAll_cons hA
  obtain ⟨v1, vs1, d1, ds1, p1, q1, rfl, rfl, rfl, h1, r1⟩ := trodAll_cons r0
  obtain ⟨rfl, rfl, rfl⟩ := trodAll_nil r1
  obtain rfl : args = #[v0, v1] := by cases args; simp_all
  obtain ⟨rfl, rfl⟩ := trodVars_none hV
  have k0 := h0
  have lt0 : ∀ x ∈ p0, x.block < W.heap.size := by obtain ⟨m, hm⟩ := k0; exact DataW.trod_lt m _ _ _ hm
  obtain ⟨l0, K0, w0⟩ := arg_open (d := (Kd.slice 34 k34)) hsz (j := 0) (t := 22) rfl rfl h0 (fun _ => at_slice (B := 24) Try.underlying22 (by kernel_rfl) (by kernel_rfl) (fun _ _ => at34))
  obtain ⟨A0, cap0, e0, hc0, hr0⟩ := K0
  obtain ⟨A0', len0', cap0', rfl⟩ := okWide_slice Try.underlying22 (hval 0 22 v0 rfl rfl)
  simp only [Value.cells, List.cons.injEq, Value.slice.injEq, and_true] at e0
  obtain ⟨rfl, rfl, rfl⟩ := e0
  have k1 := h1
  have lt1 : ∀ x ∈ p1, x.block < W.heap.size := by obtain ⟨m, hm⟩ := k1; exact DataW.trod_lt m _ _ _ hm
  obtain ⟨⟨a1_0, a1_1, a1_2⟩, K1, w1⟩ := arg_open (d := (Kd.pair (Kd.int .i64) (Kd.pair (Kd.int .i64) (Kd.int .i64)))) hsz (j := 1) (t := 24) rfl rfl h1 (fun _ => at_struct3 Try.underlying24 (by kernel_rfl) (by kernel_rfl) (by kernel_rfl) (by kernel_rfl) (by kernel_rfl) (by kernel_rfl) (by kernel_rfl) (fun _ _ => at_int Try.underlying3) (fun _ _ => at_int Try.underlying3) (fun _ _ => at_int Try.underlying3))
  dsimp only at w1
  obtain ⟨w1_0, w1_1, w1_2⟩ := w1
  obtain ⟨c1_0, r1_0, e1_0, q1_0, ⟨c1_1, r1_1, e1_1, q1_1, q1_2⟩⟩ := K1
  have g1_0 := q1_0
  have g1_1 := q1_1
  have g1_2 := q1_2
  obtain ⟨vv1, rfl, _⟩ := okWide_struct Try.underlying24 (hval 1 24 v1 rfl rfl)
  obtain rfl : vv1 = #[.int .i64 a1_0, .int .i64 a1_1, .int .i64 a1_2] := by
    apply Array.toList_inj.1
    have z : vv1.toList = _ := e1_0
    rw [e1_1] at z
    rw [show c1_0 = [.int .i64 a1_0] from g1_0] at z
    rw [show c1_1 = [.int .i64 a1_1] from g1_1] at z
    rw [show r1_1 = [.int .i64 a1_2] from g1_2] at z
    exact z
  clear hA0 hval0 hsz0 hsz
  obtain ⟨k, hk⟩ := Pure.BreakerLines l0 a1_0 a1_1 a1_2 w0 w1_0 w1_1 w1_2
  refine (vinculumlaw45_BreakerLines.calls k _ _ l0 a1_0 a1_1 a1_2 true W hr0 hc0 hk).mono fun e W' ⟨he, bel⟩ => ?_
  subst he
  exact ⟨_, rfl, _, _, _, [], _, [], hW', trodAll_mk1 (shut_bool Try.underlying4 _), (trodAll_cons_mk (Below.trod laidOut (by kernel_rfl) (of_decide_eq_true (by kernel_rfl)) k0 bel lt0) (trodAll_cons_mk (Below.trod laidOut (by kernel_rfl) (of_decide_eq_true (by kernel_rfl)) k1 bel lt1) trodAll_mk0)), rfl, bel.frame _, fun h => by cases h⟩
theorem over : Rows.breakerLinesRow.holds Try.pinned (OpenSpec.ofChange Rows.breakerLinesSpec) :=
  OpenClaim.holds_of_wide 6 Try.f6 rfl rfl rfl rfl rfl rfl rfl ⟨rfl, rfl, rfl, rfl, rfl⟩ rfl rfl rfl rfl rfl (by kernel_rfl) Try.func6 (by kernel_rfl)
    (of_decide_eq_true (by kernel_rfl)) (by unfold Func.isWrapper; first | (rw [if_pos (by decide +kernel)]; kernel_rfl) | (rw [if_neg (by decide +kernel)]; exact ⟨rfl, rfl⟩))
    (fun os started H enc _ => lifted os started H enc)
theorem proved : Rows.BreakerLinesSaid := over
#print axioms proved
end Go.Proofs.Ytgickognjlapmaa.breakerLines
namespace Go.Proofs.Ytgickognjlapmaa
/-- The row, under a short name, for the claim. -/
theorem breakerLines_holds : Rows.BreakerLinesSaid := breakerLines.proved
end Go.Proofs.Ytgickognjlapmaa
