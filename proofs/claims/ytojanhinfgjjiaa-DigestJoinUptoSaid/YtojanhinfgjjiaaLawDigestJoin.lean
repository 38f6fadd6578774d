/- DigestJoin: for every input that can be read, the call returns true and leaves its arguments as they were. No condition beyond the statement's own. -/
import Derived.Test.YtojanhinfgjjiaaRows
import Derived.Test.YtojanhinfgjjiaaOpen
import Derived.Test.YtojanhinfgjjiaaPureDigestJoin
import Derived.Test.YtojanhinfgjjiaaPKx2
import Derived.JoinedCond
import Derived.Deep.CondSized
import Derived.WalkKit
import Derived.ProofKit
import Derived.OpenShut
import Derived.ShutString
import Derived.ChangeOld
import Derived.Below
import Derived.SizedLaws
namespace Go.Proofs.Ytojanhinfgjjiaa.digestJoin
open Go.ChangeShapes Go.WideShapes Go.ChangeAt Go.RowKit Go.Proofs.Ytojanhinfgjjiaa.Open Go.Proofs.Ytojanhinfgjjiaa.PK Go.Proofs.YtojanhinfgjjiaaW.PrintWords
open Go.ChangeMaps (open_string shut_string)
set_option linter.unusedVariables false
set_option linter.unusedSimpArgs false
theorem own : ownKnob Try.prog.godebug = none := by kernel_rfl
theorem laidOut : laidOutB Try.prog = true := by kernel_rfl
theorem Rows_string_le {H : Type} (a : ByteArray) : a.size ≤ Rows.uptoBulk (DataW.lit (H := H) (.string a.data.toList)) := by
  have e : a.data.toList.length = a.size := by rw [Array.length_toList]; rfl
  simp only [Rows.uptoBulk]
  omega
theorem one_le {H : Type} (d : DataW H) : 1 ≤ Rows.uptoBulk d := by
  cases d with
  | lit l => cases l <;> simp [Rows.uptoBulk]
  | nil => simp [Rows.uptoBulk]
  | ptr d => simp [Rows.uptoBulk]
  | slice elems spare => simp [Rows.uptoBulk]
  | agg parts => simp [Rows.uptoBulk]
  | iface t d => simp [Rows.uptoBulk]
  | map entries => simp [Rows.uptoBulk]
  | held h => simp [Rows.uptoBulk]
theorem length_le {H : Type} (l : List (DataW H)) : l.length ≤ Rows.uptoBulkAll l := by
  induction l with
  | nil => simp [Rows.uptoBulkAll]
  | cons x r ih => have := one_le x; simp only [Rows.uptoBulkAll, List.length_cons]; omega
theorem slice_len {H : Type} {enc : TypeId × Value → H} {w : World} {base : Nat} {spare : Nat → Bool} {held : Bool} {t e : TypeId} {A : Option Addr} {n c : Nat} {d : DataW H} {ps : List MemPlace} (ht : Try.prog.underlying t = some (.slice e)) (h : DataW.Trod enc Try.prog w base spare held t (.slice A n c) d ps) : n ≤ Rows.uptoBulk d := by
  obtain ⟨fuel, h⟩ := h
  rcases DataW.trod_slice ht h with ⟨h1, h2⟩ | ⟨a, len, cap, elems, rest, n', hn, h1, h2, hb, hl, hm, hlen, hel, _, _⟩
  · simp only [Value.cells, List.cons.injEq, Value.slice.injEq, and_true] at h1
    omega
  · simp only [Value.cells, List.cons.injEq, Value.slice.injEq, and_true] at h1
    obtain ⟨_, rfl, _⟩ := h1
    simp only [Prod.mk.injEq] at h2
    obtain ⟨rfl, _⟩ := h2
    have := length_le (elems.map (·.1))
    rw [List.length_map] at this
    simp only [Rows.uptoBulk]
    omega
set_option maxRecDepth 100000 in
theorem lifted (os : Os) (started : os.Started) (H : Type) (enc : TypeId × Value → H) (F : Stop.Interp) :
    ReturnsInHanded {} Try.checked os 6 .any ((Rows.OpenSpec.upto Rows.digestJoinSpec).pre6 enc Try.prog Try.f6 Rows.digestJoinUptoRow.domain false) (((Rows.OpenSpec.upto Rows.digestJoinSpec).at F).post enc Try.prog Try.f6 false true false false) := by
  refine returnsInHanded_of_cond_sized (C := Try.checked) (s := Rows.OpenSpec.upto Rows.digestJoinSpec) (k := Rows.uptoSmall) rfl own started (by kernel_rfl) Try.func6
    (OpenSpec.witness (enc := enc) (C := Try.checked) (s := Rows.OpenSpec.upto Rows.digestJoinSpec) (k := Rows.uptoSmall) rfl false ⟨#[], #[.agg #[.int .i64 0, .int .i64 0], .string ByteArray.empty, .slice none 0 0], []⟩ 8 (by kernel_rfl) (by kernel_rfl) (by kernel_rfl) (x := ([.agg [.lit (.int .i64 0), .lit (.int .i64 0)], .lit (.string []), .nil], [], [])) (by kernel_rfl) rfl (by kernel_rfl)) ?_
  intro W base args ds gs before hval0 hW hcnd hsmall hsz0 _
  have hsz : (DataW.weightsEach Try.prog (Try.f6.params.toList ++ Rows.digestJoinSpec.plain.varTypes Try.prog) (ds ++ gs)).all (· ≤ reachBytes) = true := hsz0
  have hval : ∀ (j : Nat) t v, Try.f6.params[j]? = some t → args[j]? = some v → Value.okWide Try.prog W .any base t v := hval0
  have hW' := hW
  obtain ⟨p, q, hA0, hV, rfl, hfz, hnd⟩ := hW
  have hA : DataW.TrodAll enc Try.prog W 0 (fun _ => true) true Try.f6.params.toList args.toList ds p := hA0
  rw [Try.params6] at hA hval hsz
  obtain ⟨v0, vs0, d0, ds0, p0, q0, hargs, rfl, rfl, h0, r0⟩ := trodAll_cons hA
  obtain ⟨v1, vs1, d1, ds1, p1, q1, rfl, rfl, rfl, h1, r1⟩ := trodAll_cons r0
  obtain ⟨v2, vs2, d2, ds2, p2, q2, rfl, rfl, rfl, h2, r2⟩ := trodAll_cons r1
  obtain ⟨rfl, rfl, rfl⟩ := trodAll_nil r2
  obtain rfl : args = #[v0, v1, v2] := by cases args; simp_all
  obtain ⟨rfl, rfl⟩ := trodVars_none hV
  have k0 := h0
  have lt0 : ∀ x ∈ p0, x.block < W.heap.size := by obtain ⟨m, hm⟩ := k0; exact DataW.trod_lt m _ _ _ hm
  obtain ⟨⟨a0_0, a0_1⟩, K0, w0⟩ := arg_open (d := (Kd.pair (Kd.int .i64) (Kd.int .i64))) hsz (j := 0) (t := 32) rfl rfl h0 (fun _ => at_array2 Try.underlying32 (by kernel_rfl) (by kernel_rfl) (fun _ _ => at_int Try.underlying3))
  dsimp only at w0
  obtain ⟨w0_0, w0_1⟩ := w0
  obtain ⟨c0_0, r0_0, e0_0, q0_0, q0_1⟩ := K0
  have g0_0 := q0_0
  have g0_1 := q0_1
  obtain ⟨vv0, rfl, _⟩ := okWide_array Try.underlying32 (hval 0 32 v0 rfl rfl)
  obtain rfl : vv0 = #[.int .i64 a0_0, .int .i64 a0_1] := by
    apply Array.toList_inj.1
    have z : vv0.toList = _ := e0_0
    rw [show c0_0 = [.int .i64 a0_0] from g0_0] at z
    rw [show r0_0 = [.int .i64 a0_1] from g0_1] at z
    exact z
  obtain ⟨a1, rfl, rfl, rfl, y1⟩ := open_string Try.underlying9 (hval 1 9 v1 rfl rfl) h1
  have w1 : a1.size ≤ 140737488351232 := by
    have z := sized_string hsz (j := 1) (t := 9) rfl rfl
    rw [Array.length_toList] at z
    exact z
  have k2 := h2
  have lt2 : ∀ x ∈ p2, x.block < W.heap.size := by obtain ⟨m, hm⟩ := k2; exact DataW.trod_lt m _ _ _ hm
  obtain ⟨l2, K2, w2⟩ := arg_open (d := (Kd.slice 22 (Kd.int .u64))) hsz (j := 2) (t := 33) rfl rfl h2 (fun _ => at_slice (B := 8) Try.underlying33 (by kernel_rfl) (by kernel_rfl) (fun _ _ => at_int Try.underlying22))
  obtain ⟨A2, cap2, e2, hc2, hr2⟩ := K2
  obtain ⟨A2', len2', cap2', rfl⟩ := okWide_slice Try.underlying33 (hval 2 33 v2 rfl rfl)
  simp only [Value.cells, List.cons.injEq, Value.slice.injEq, and_true] at e2
  obtain ⟨rfl, rfl, rfl⟩ := e2
  have hbulk : Rows.uptoBulkAll _ ≤ 1048576 := of_decide_eq_true hsmall
  simp only [List.append_nil, Rows.uptoBulkAll] at hbulk
  have b1 : a1.size ≤ 1048576 := by
    have e1 := Rows_string_le a1 (H := H)
    omega
  have b2 : l2.length ≤ 1048576 := by
    have e1 := slice_len Try.underlying33 k2
    omega
  clear hA0 hval0 hsz0 hsz
  obtain ⟨k, hk⟩ := Pure.DigestJoin a0_0 a0_1 a1 l2 w0_0 w0_1 w1 b1 w2 b2
  refine (vinculumlaw04_DigestJoin.calls k a0_0 a0_1 a1 _ _ l2 true W hr2 hc2 hk).mono fun e W' ⟨he, bel⟩ => ?_
  subst he
  exact ⟨_, rfl, _, _, _, [], _, [], hW', trodAll_mk1 (shut_bool Try.underlying4 _), (trodAll_cons_mk (Below.trod laidOut (by kernel_rfl) (of_decide_eq_true (by kernel_rfl)) k0 bel lt0) (trodAll_cons_mk (shut_string Try.underlying9 y1) (trodAll_cons_mk (Below.trod laidOut (by kernel_rfl) (of_decide_eq_true (by kernel_rfl)) k2 bel lt2) trodAll_mk0))), rfl, bel.frame _, fun h => by cases h⟩
theorem over : Rows.digestJoinUptoRow.holds Try.pinned (Rows.OpenSpec.upto Rows.digestJoinSpec) :=
  OpenClaim.holds_of_cond 6 Try.f6 rfl rfl rfl rfl rfl rfl rfl ⟨rfl, rfl, rfl, rfl, rfl⟩ rfl rfl rfl rfl rfl (by kernel_rfl) Try.func6 (by kernel_rfl)
    (of_decide_eq_true (by kernel_rfl)) (by unfold Func.isWrapper; first | (rw [if_pos (by decide +kernel)]; kernel_rfl) | (rw [if_neg (by decide +kernel)]; exact ⟨rfl, rfl⟩))
    (fun os started H enc _ F => lifted os started H enc F)
theorem proved : Rows.DigestJoinUptoSaid := over
#print axioms proved
end Go.Proofs.Ytojanhinfgjjiaa.digestJoin
namespace Go.Proofs.Ytojanhinfgjjiaa
/-- The row, under a short name, for the claim. -/
theorem digestJoin_holds : Rows.DigestJoinUptoSaid := digestJoin.proved
end Go.Proofs.Ytojanhinfgjjiaa
