/- DigestByte: for every input that can be read, the call returns true and leaves its arguments as they were. No condition beyond the statement's own. -/
import Derived.Test.YtojanhinfgjjiaaRows
import Derived.Test.YtojanhinfgjjiaaOpen
import Derived.Test.YtojanhinfgjjiaaPureDigestByte
import Derived.Test.YtojanhinfgjjiaaPJx2
import Derived.WalkKit
import Derived.ProofKit
import Derived.OpenShut
import Derived.ShutString
import Derived.ChangeOld
import Derived.Below
import Derived.SizedLaws
namespace Go.Proofs.Ytojanhinfgjjiaa.digestByte
open Go.ChangeShapes Go.WideShapes Go.ChangeAt Go.RowKit Go.Proofs.Ytojanhinfgjjiaa.Open Go.Proofs.Ytojanhinfgjjiaa.PJ Go.Proofs.YtojanhinfgjjiaaW.PrintWords
open Go.ChangeMaps (open_string shut_string)
set_option linter.unusedVariables false
set_option linter.unusedSimpArgs false
theorem own : ownKnob Try.prog.godebug = none := by kernel_rfl
theorem laidOut : laidOutB Try.prog = true := by kernel_rfl
set_option maxRecDepth 100000 in
theorem lifted (os : Os) (started : os.Started) (H : Type) (enc : TypeId × Value → H) :
    ReturnsInHanded {} Try.checked os 5 .any (Rows.digestByteSpec.pre6 enc Try.prog Try.f5 Rows.digestByteRow.domain false) (Rows.digestByteSpec.post enc Try.prog Try.f5 false true false false) := by
  refine returnsInHanded_of_change_sized (C := Try.checked) own started (by kernel_rfl) Try.func5
    (ChangeSpec.witness6 (enc := enc) (C := Try.checked) false ⟨#[], #[.slice none 0 0, .agg #[.int .u8 0, .int .u8 0], .agg #[.int .u64 0, .int .u64 0]], []⟩ 8 (by kernel_rfl) (by kernel_rfl) (by kernel_rfl) (by kernel_rfl)) ?_
  intro W base args ds gs before hval0 hW hcnd hsz0 _
  have hsz : (DataW.weightsEach Try.prog (Try.f5.params.toList ++ Rows.digestByteSpec.plain.varTypes Try.prog) (ds ++ gs)).all (· ≤ reachBytes) = true := hsz0
  have hval : ∀ (j : Nat) t v, Try.f5.params[j]? = some t → args[j]? = some v → Value.okWide Try.prog W .any base t v := hval0
  have hW' := hW
  obtain ⟨p, q, hA0, hV, rfl, hfz, hnd⟩ := hW
  have hA : DataW.TrodAll enc Try.prog W 0 (fun _ => true) true Try.f5.params.toList args.toList ds p := hA0
  rw [Try.params5] at hA hval hsz
  obtain ⟨v0, vs0, d0, ds0, p0, q0, hargs, rfl, rfl, h0, r0⟩ := trodAll_cons hA
  obtain ⟨v1, vs1, d1, ds1, p1, q1, rfl, rfl, rfl, h1, r1⟩ := trodAll_cons r0
  obtain ⟨v2, vs2, d2, ds2, p2, q2, rfl, rfl, rfl, h2, r2⟩ := trodAll_cons r1
  obtain ⟨rfl, rfl, rfl⟩ := trodAll_nil r2
  obtain rfl : args = #[v0, v1, v2] := by cases args; simp_all
  obtain ⟨rfl, rfl⟩ := trodVars_none hV
  have k0 := h0
  have lt0 : ∀ x ∈ p0, x.block < W.heap.size := by obtain ⟨m, hm⟩ := k0; exact DataW.trod_lt m _ _ _ hm
  obtain ⟨l0, K0, w0⟩ := arg_open (d := (Kd.slice 5 (Kd.int .u8))) hsz (j := 0) (t := 23) rfl rfl h0 (fun _ => at_slice (B := 1) Try.underlying23 (by kernel_rfl) (by kernel_rfl) (fun _ _ => at_int Try.underlying5))
  obtain ⟨A0, cap0, e0, hc0, hr0⟩ := K0
  obtain ⟨A0', len0', cap0', rfl⟩ := okWide_slice Try.underlying23 (hval 0 23 v0 rfl rfl)
  simp only [Value.cells, List.cons.injEq, Value.slice.injEq, and_true] at e0
  obtain ⟨rfl, rfl, rfl⟩ := e0
  have k1 := h1
  have lt1 : ∀ x ∈ p1, x.block < W.heap.size := by obtain ⟨m, hm⟩ := k1; exact DataW.trod_lt m _ _ _ hm
  obtain ⟨⟨a1_0, a1_1⟩, K1, w1⟩ := arg_open (d := (Kd.pair (Kd.int .u8) (Kd.int .u8))) hsz (j := 1) (t := 29) rfl rfl h1 (fun _ => at_array2 Try.underlying29 (by kernel_rfl) (by kernel_rfl) (fun _ _ => at_int Try.underlying5))
  dsimp only at w1
  obtain ⟨w1_0, w1_1⟩ := w1
  obtain ⟨c1_0, r1_0, e1_0, q1_0, q1_1⟩ := K1
  have g1_0 := q1_0
  have g1_1 := q1_1
  obtain ⟨vv1, rfl, _⟩ := okWide_array Try.underlying29 (hval 1 29 v1 rfl rfl)
  obtain rfl : vv1 = #[.int .u8 a1_0, .int .u8 a1_1] := by
    apply Array.toList_inj.1
    have z : vv1.toList = _ := e1_0
    rw [show c1_0 = [.int .u8 a1_0] from g1_0] at z
    rw [show r1_0 = [.int .u8 a1_1] from g1_1] at z
    exact z
  have k2 := h2
  have lt2 : ∀ x ∈ p2, x.block < W.heap.size := by obtain ⟨m, hm⟩ := k2; exact DataW.trod_lt m _ _ _ hm
  obtain ⟨⟨a2_0, a2_1⟩, K2, w2⟩ := arg_open (d := (Kd.pair (Kd.int .u64) (Kd.int .u64))) hsz (j := 2) (t := 30) rfl rfl h2 (fun _ => at_array2 Try.underlying30 (by kernel_rfl) (by kernel_rfl) (fun _ _ => at_int Try.underlying22))
  dsimp only at w2
  obtain ⟨w2_0, w2_1⟩ := w2
  obtain ⟨c2_0, r2_0, e2_0, q2_0, q2_1⟩ := K2
  have g2_0 := q2_0
  have g2_1 := q2_1
  obtain ⟨vv2, rfl, _⟩ := okWide_array Try.underlying30 (hval 2 30 v2 rfl rfl)
  obtain rfl : vv2 = #[.int .u64 a2_0, .int .u64 a2_1] := by
    apply Array.toList_inj.1
    have z : vv2.toList = _ := e2_0
    rw [show c2_0 = [.int .u64 a2_0] from g2_0] at z
    rw [show r2_0 = [.int .u64 a2_1] from g2_1] at z
    exact z
  clear hA0 hval0 hsz0 hsz
  obtain ⟨k, hk⟩ := Pure.DigestByte l0 a1_0 a1_1 a2_0 a2_1 w0 w1_0 w1_1 w2_0 w2_1
  refine (vinculumlaw04_DigestByte.calls k _ _ l0 a1_0 a1_1 a2_0 a2_1 true W hr0 hc0 hk).mono fun e W' ⟨he, bel⟩ => ?_
  subst he
  exact ⟨_, rfl, _, _, _, [], _, [], hW', trodAll_mk1 (shut_bool Try.underlying4 _), (trodAll_cons_mk (Below.trod laidOut (by kernel_rfl) (of_decide_eq_true (by kernel_rfl)) k0 bel lt0) (trodAll_cons_mk (Below.trod laidOut (by kernel_rfl) (of_decide_eq_true (by kernel_rfl)) k1 bel lt1) (trodAll_cons_mk (Below.trod laidOut (by kernel_rfl) (of_decide_eq_true (by kernel_rfl)) k2 bel lt2) trodAll_mk0))), rfl, bel.frame _, fun h => by cases h⟩
theorem over : Rows.digestByteRow.holds Try.pinned (OpenSpec.ofChange Rows.digestByteSpec) :=
  OpenClaim.holds_of_wide 5 Try.f5 rfl rfl rfl rfl rfl rfl rfl ⟨rfl, rfl, rfl, rfl, rfl⟩ rfl rfl rfl rfl rfl (by kernel_rfl) Try.func5 (by kernel_rfl)
    (of_decide_eq_true (by kernel_rfl)) (by unfold Func.isWrapper; first | (rw [if_pos (by decide +kernel)]; kernel_rfl) | (rw [if_neg (by decide +kernel)]; exact ⟨rfl, rfl⟩))
    (fun os started H enc _ => lifted os started H enc)
theorem proved : Rows.DigestByteSaid := over
#print axioms proved
end Go.Proofs.Ytojanhinfgjjiaa.digestByte
namespace Go.Proofs.Ytojanhinfgjjiaa
/-- The row, under a short name, for the claim. -/
theorem digestByte_holds : Rows.DigestByteSaid := digestByte.proved
end Go.Proofs.Ytojanhinfgjjiaa
