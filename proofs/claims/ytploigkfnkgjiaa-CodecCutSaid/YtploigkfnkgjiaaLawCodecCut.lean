/- CodecCut: for every input that can be read, the call returns true and leaves its arguments as they were. No condition beyond the statement's own. -/
import Derived.Test.YtploigkfnkgjiaaRows
import Derived.Test.YtploigkfnkgjiaaOpen
import Derived.Test.YtploigkfnkgjiaaPureCodecCut
import Derived.Test.YtploigkfnkgjiaaPCx5
import Derived.WalkKit
import Derived.ProofKit
import Derived.OpenShut
import Derived.ShutString
import Derived.ChangeOld
import Derived.Below
import Derived.SizedLaws
namespace Go.Proofs.Ytploigkfnkgjiaa.codecCut
open Go.ChangeShapes Go.WideShapes Go.ChangeAt Go.RowKit Go.Proofs.Ytploigkfnkgjiaa.Open Go.Proofs.Ytploigkfnkgjiaa.PC Go.Proofs.YtploigkfnkgjiaaW.PrintWords
open Go.ChangeMaps (open_string shut_string)
set_option linter.unusedVariables false
set_option linter.unusedSimpArgs false
theorem own : ownKnob Try.prog.godebug = none := by kernel_rfl
theorem laidOut : laidOutB Try.prog = true := by kernel_rfl
theorem Wf24_up : ∀ (d : Nat) (x : S24), Pure.Wf24 d x → Pure.Wf24 (d + 1) x
  | 0, _, h => h.elim
  | d + 1, x, h => by
    obtain ⟨h0, h1, h2, ⟨h3a, h3b, h3c⟩⟩ := h
    exact ⟨h0, h1, h2, ⟨h3a, h3b, fun v hv => Wf24_up d v (h3c v hv)⟩⟩
theorem atU24 {H : Type} {enc : TypeId × Value → H} {w : World} {base : Nat} {spare : Nat → Bool} {held : Bool} : ∀ n, At enc Try.prog w base spare held n 24 (Kd.upto F24 4 [24] n) (Pure.Wf24 n) := by
  intro n
  induction n using Nat.strongRecOn with
  | _ n ih =>
    cases n with
    | zero => exact fun cs x h _ => by simp [DataW.trod] at h
    | succ n => exact (at_iso (n := n + 1) (d := Kd.pair (Kd.int .i64) (Kd.pair (Kd.int .i64) (Kd.pair Kd.string (Kd.slice 24 (Kd.upto F24 4 [24] n))))) (fun a => (⟨a.1, a.2.1, a.2.2.1, a.2.2.2⟩ : S24)) (fun _ => rfl) (at_struct4 Try.underlying24 (by kernel_rfl) (by kernel_rfl) (by kernel_rfl) (by kernel_rfl) (by kernel_rfl) (by kernel_rfl) (by kernel_rfl) (by kernel_rfl) (by kernel_rfl) (fun _ _ => at_int Try.underlying3) (fun _ _ => at_int Try.underlying3) (fun _ _ => at_string Try.underlying9) (fun n1 e1 => at_slice (B := 56) Try.underlying22 ((by kernel_rfl : Try.prog.cellsOf 24 = 4).trans (sz24 n).symm) (by kernel_rfl) (fun n2 e2 => (show At enc Try.prog w base spare held n2 24 (Kd.upto F24 4 [24] n) (Pure.Wf24 n) from by obtain rfl : n = n2 + 1 := (by omega); exact fun cs x hx hs => by obtain ⟨v, hk, hv⟩ := ih n2 (by omega) cs x hx hs; exact ⟨v, Kd.upto_K mono24 sz24 n2 hk, Wf24_up n2 v hv⟩))))).imp (fun v h => h)
theorem at24 {H : Type} {enc : TypeId × Value → H} {w : World} {base : Nat} {spare : Nat → Bool} {held : Bool} {n : Nat} : At enc Try.prog w base spare held n 24 k24 (fun x => ∃ d, Pure.Wf24 d x) := fun cs x hx hs => by
  obtain ⟨v, hk, hv⟩ := atU24 n cs x hx hs
  exact ⟨v, ⟨n, hk⟩, n, hv⟩
set_option maxRecDepth 100000 in
theorem lifted (os : Os) (started : os.Started) (H : Type) (enc : TypeId × Value → H) :
    ReturnsInHanded {} Try.checked os 6 .any (Rows.codecCutSpec.pre6 enc Try.prog Try.f6 Rows.codecCutRow.domain false) (Rows.codecCutSpec.post enc Try.prog Try.f6 false true false false) := by
  refine returnsInHanded_of_change_sized (C := Try.checked) own started (by kernel_rfl) Try.func6
    (ChangeSpec.witness6 (enc := enc) (C := Try.checked) false ⟨#[], #[.agg #[.int .i64 0, .int .i64 0, .string ByteArray.empty, .slice none 0 0], .int .u16 0, .slice none 0 0], []⟩ 8 (by kernel_rfl) (by kernel_rfl) (by kernel_rfl) (by kernel_rfl)) ?_
  intro W base args ds gs before hval0 hW hcnd hsz0 _
  have hsz : (DataW.weightsEach Try.prog (Try.f6.params.toList ++ Rows.codecCutSpec.plain.varTypes Try.prog) (ds ++ gs)).all (· ≤ reachBytes) = true := hsz0
  have hval : ∀ (j : Nat) t v, Try.f6.params[j]? = some t → args[j]? = some v → Value.okWide Try.prog W .any base t v := hval0
  have hW' := hW
  obtain ⟨p, q, hA0, hV, rfl, hfz, hnd⟩ := hW
  have hA : DataW.TrodAll enc Try.prog W 0 (fun _ => true) true Try.f6.params.toList args.toList ds p := hA0
  rw [Try.params6] at hA hval hsz
  obtain ⟨v0, vs0, d0, ds0, p0, q0, hargs, rfl, rfl, h0, r0⟩ := trodAll_cons hA
  obtain ⟨v1, vs1, d1, ds1, p1, q1, rfl, rfl, rfl, h1, r1⟩ := trodAll_cons r0
  obtain ⟨v2, vs2, d2, ds2, p2, q2, rfl, rfl, rfl, h2, r2⟩ := trodAll_cons r1
  obtain ⟨rfl, rfl, rfl⟩ := trodAll_nil r2
  obtain rfl : args = #[v0, v1, v2] := by cases args; simp_all
  obtain ⟨rfl, rfl⟩ := trodVars_none hV
  have k0 := h0
  have lt0 : ∀ x ∈ p0, x.block < W.heap.size := by obtain ⟨m, hm⟩ := k0; exact DataW.trod_lt m _ _ _ hm
  obtain ⟨⟨a0_0, a0_1, a0_2, a0_3⟩, K0, w0⟩ := arg_open (d := (Kd.pair (Kd.int .i64) (Kd.pair (Kd.int .i64) (Kd.pair Kd.string (Kd.slice 24 k24))))) hsz (j := 0) (t := 24) rfl rfl h0 (fun _ => at_struct4 Try.underlying24 (by kernel_rfl) (by kernel_rfl) (by kernel_rfl) (by kernel_rfl) (by kernel_rfl) (by kernel_rfl) (by kernel_rfl) (by kernel_rfl) (by kernel_rfl) (fun _ _ => at_int Try.underlying3) (fun _ _ => at_int Try.underlying3) (fun _ _ => at_string Try.underlying9) (fun _ _ => at_slice (B := 56) Try.underlying22 (by kernel_rfl) (by kernel_rfl) (fun _ _ => at24)))
  dsimp only at w0
  obtain ⟨w0_0, w0_1, w0_2, w0_3⟩ := w0
  obtain ⟨c0_0, r0_0, e0_0, q0_0, ⟨c0_1, r0_1, e0_1, q0_1, ⟨c0_2, r0_2, e0_2, q0_2, q0_3⟩⟩⟩ := K0
  have g0_0 := q0_0
  have g0_1 := q0_1
  have g0_2 := q0_2
  obtain ⟨A0_3, cap0_3, f0_3, hc0_3, hr0_3⟩ := q0_3
  have g0_3 := f0_3
  obtain ⟨vv0, rfl, _⟩ := okWide_struct Try.underlying24 (hval 0 24 v0 rfl rfl)
  obtain rfl : vv0 = #[.int .i64 a0_0, .int .i64 a0_1, .string a0_2, .slice A0_3 a0_3.length cap0_3] := by
    apply Array.toList_inj.1
    have z : vv0.toList = _ := e0_0
    rw [e0_1] at z
    rw [e0_2] at z
    rw [show c0_0 = [.int .i64 a0_0] from g0_0] at z
    rw [show c0_1 = [.int .i64 a0_1] from g0_1] at z
    rw [show c0_2 = [.string a0_2] from g0_2] at z
    rw [show r0_2 = [.slice A0_3 a0_3.length cap0_3] from g0_3] at z
    exact z
  obtain ⟨a1, rfl, rfl, rfl, w1⟩ := open_int Try.underlying48 (hval 1 48 v1 rfl rfl) h1
  have k2 := h2
  have lt2 : ∀ x ∈ p2, x.block < W.heap.size := by obtain ⟨m, hm⟩ := k2; exact DataW.trod_lt m _ _ _ hm
  obtain ⟨l2, K2, w2⟩ := arg_open (d := (Kd.slice 5 (Kd.int .u8))) hsz (j := 2) (t := 31) rfl rfl h2 (fun _ => at_slice (B := 1) Try.underlying31 (by kernel_rfl) (by kernel_rfl) (fun _ _ => at_int Try.underlying5))
  obtain ⟨A2, cap2, e2, hc2, hr2⟩ := K2
  obtain ⟨A2', len2', cap2', rfl⟩ := okWide_slice Try.underlying31 (hval 2 31 v2 rfl rfl)
  simp only [Value.cells, List.cons.injEq, Value.slice.injEq, and_true] at e2
  obtain ⟨rfl, rfl, rfl⟩ := e2
  clear hA0 hval0 hsz0 hsz
  obtain ⟨k, hk⟩ := Pure.CodecCut a0_0 a0_1 a0_2 a0_3 a1 l2 w0_0 w0_1 w0_2 w0_3 w1 w2
  refine (vinculumlaw03_CodecCut.calls k a0_0 a0_1 a0_2 _ _ a0_3 a1 _ _ l2 true W hr0_3 hc0_3 hr2 hc2 hk).mono fun e W' ⟨he, bel⟩ => ?_
  subst he
  exact ⟨_, rfl, _, _, _, [], _, [], hW', trodAll_mk1 (shut_bool Try.underlying4 _), (trodAll_cons_mk (Below.trod laidOut (by kernel_rfl) (of_decide_eq_true (by kernel_rfl)) k0 bel lt0) (trodAll_cons_mk (shut_int Try.underlying48 w1) (trodAll_cons_mk (Below.trod laidOut (by kernel_rfl) (of_decide_eq_true (by kernel_rfl)) k2 bel lt2) trodAll_mk0))), rfl, bel.frame _, fun h => by cases h⟩
theorem over : Rows.codecCutRow.holds Try.pinned (OpenSpec.ofChange Rows.codecCutSpec) :=
  OpenClaim.holds_of_wide 6 Try.f6 rfl rfl rfl rfl rfl rfl rfl ⟨rfl, rfl, rfl, rfl, rfl⟩ rfl rfl rfl rfl rfl (by kernel_rfl) Try.func6 (by kernel_rfl)
    (of_decide_eq_true (by kernel_rfl)) (by unfold Func.isWrapper; first | (rw [if_pos (by decide +kernel)]; kernel_rfl) | (rw [if_neg (by decide +kernel)]; exact ⟨rfl, rfl⟩))
    (fun os started H enc _ => lifted os started H enc)
theorem proved : Rows.CodecCutSaid := over
#print axioms proved
end Go.Proofs.Ytploigkfnkgjiaa.codecCut
namespace Go.Proofs.Ytploigkfnkgjiaa
/-- The row, under a short name, for the claim. -/
theorem codecCut_holds : Rows.CodecCutSaid := codecCut.proved
end Go.Proofs.Ytploigkfnkgjiaa
