-- Written by a program of this place (wip/gen.py) with the kit's print; not trusted: Lean checks it.
import Derived.Test.YtploigkfnkgjiaaPEx0
import Derived.Test.YtploigkfnkgjiaaPEx1
import Derived.Test.YtploigkfnkgjiaaPEx2
import Derived.Test.YtploigkfnkgjiaaPEx3
import Derived.Test.YtploigkfnkgjiaaPEx4
import Derived.Test.YtploigkfnkgjiaaPEx5
import Derived.Test.YtploigkfnkgjiaaPEx6
namespace Go.Proofs.Ytploigkfnkgjiaa.PE
open Go.RowKit Go.Proofs.YtploigkfnkgjiaaW.PrintWords Go.Proofs.YtploigkfnkgjiaaW.PrintLast Go.Proofs.YtploigkfnkgjiaaW.PrintMore
attribute [local go_sem] max2_int min2_int max_two min_two max_three min_three max_four min_four   -- for this text's walks alone
set_option linter.unusedVariables false
set_option linter.unusedSimpArgs false

/-! ### vinculumlaw03_CodecEncodes: function 3 -/
def vinculumlaw03_CodecEncodes.j0 : Nat → List Int → Int → Bool → Int → Int → ByteArray → List (S24) → Option (Bool)
  | 0, _, _, _, _, _, _, _ => none
  | k + 1, x4, x5, x30, x191000, x191001, x191002, x191003 => if x30 = true then (some false) else ((vinculumref03_Valid.f k x191000 x191001 x191002 x191003).bind fun t208 => (if t208 = true then ((vinculumref03_Encode.f k x191000 x191001 x191002 x191003).bind fun t209 => (if (t209.length : Int) > 1048576 then (if x5 = 6 then (some ((x4.length : Int) == 0)) else (some false)) else (if x5 = 0 then (some ((strOfNums x4).toList == (strOfNums t209).toList)) else (some false)))) else (if x5 = 1 then (some ((x4.length : Int) == 0)) else (some false))))
def vinculumlaw03_CodecEncodes.f (k : Nat) (a0_0 : Int) (a0_1 : Int) (a0_2 : ByteArray) (l0_3 : List (S24)) : Option (Bool) := (vinculumlaw03_awake.f k).bind fun t191 => (if t191 = true then ((vinculumlaw03_few.f k a0_0 a0_1 a0_2 l0_3).bind fun t192 => (if t192 = true then ((vinculumlaw03_own.f k a0_0 a0_1 a0_2 l0_3).bind fun bt193 => ((codec_Encode.f k bt193.1 bt193.2.1 bt193.2.2.1 bt193.2.2.2).bind fun bt200 => ((codec_Valid.f k bt193.1 bt193.2.1 bt193.2.2.1 bt193.2.2.2).bind fun t204 => ((vinculumref03_Valid.f k a0_0 a0_1 a0_2 l0_3).bind fun t205 => (if (t204 != t205) = true then (vinculumlaw03_CodecEncodes.j0 k bt200.1 bt200.2 true a0_0 a0_1 a0_2 l0_3) else ((codec_Depth.f k bt193.1 bt193.2.1 bt193.2.2.1 bt193.2.2.2).bind fun t206 => ((vinculumref03_Depth.f k a0_0 a0_1 a0_2 l0_3).bind fun t207 => (vinculumlaw03_CodecEncodes.j0 k bt200.1 bt200.2 (t206 != t207) a0_0 a0_1 a0_2 l0_3)))))))) else (some true))) else (some false))
theorem vinculumlaw03_CodecEncodes.mono_l : ∀ k, (∀ y0 y1 y2 y3 y4 y5 y6, LeO (vinculumlaw03_CodecEncodes.j0 k y0 y1 y2 y3 y4 y5 y6) (vinculumlaw03_CodecEncodes.j0 (k + 1) y0 y1 y2 y3 y4 y5 y6))
  | 0 => fun _ _ _ _ _ _ _ r h => by simp [vinculumlaw03_CodecEncodes.j0] at h
  | k + 1 => by
    have ih0 := vinculumlaw03_CodecEncodes.mono_l k
    · intro y0 y1 y2 y3 y4 y5 y6
      unfold vinculumlaw03_CodecEncodes.j0
      repeat' first
      | (with_reducible exact ih0 _ _ _ _ _ _ _)
      | (with_reducible exact codec_Depth.mono _ _ _ _ _)
      | (with_reducible exact codec_Encode.mono _ _ _ _ _)
      | (with_reducible exact codec_Valid.mono _ _ _ _ _)
      | (with_reducible exact vinculumlaw03_awake.mono _)
      | (with_reducible exact vinculumlaw03_few.mono _ _ _ _ _)
      | (with_reducible exact vinculumlaw03_own.mono _ _ _ _ _)
      | (with_reducible exact vinculumref03_Depth.mono _ _ _ _ _)
      | (with_reducible exact vinculumref03_Encode.mono _ _ _ _ _)
      | (with_reducible exact vinculumref03_Valid.mono _ _ _ _ _)
      | (with_reducible exact LeO.refl _)
      | (with_reducible exact LeO.none _)
      | (with_reducible refine LeO.ite ?_ ?_)
      | (with_reducible refine LeO.bind ?_ (fun _ => ?_))
      | exact ih0 _ _ _ _ _ _ _
      | exact codec_Depth.mono _ _ _ _ _
      | exact codec_Encode.mono _ _ _ _ _
      | exact codec_Valid.mono _ _ _ _ _
      | exact vinculumlaw03_awake.mono _
      | exact vinculumlaw03_few.mono _ _ _ _ _
      | exact vinculumlaw03_own.mono _ _ _ _ _
      | exact vinculumref03_Depth.mono _ _ _ _ _
      | exact vinculumref03_Encode.mono _ _ _ _ _
      | exact vinculumref03_Valid.mono _ _ _ _ _
      | exact LeO.none _
      | refine LeO.ite ?_ ?_
      | refine LeO.bind ?_ (fun _ => ?_)
theorem vinculumlaw03_CodecEncodes.mono : ∀ a0 a1 a2 a3 k, LeO (vinculumlaw03_CodecEncodes.f k a0 a1 a2 a3) (vinculumlaw03_CodecEncodes.f (k + 1) a0 a1 a2 a3) := by
  intro a0 a1 a2 a3 k
  have ih0 := vinculumlaw03_CodecEncodes.mono_l k
  unfold vinculumlaw03_CodecEncodes.f
  repeat' first
      | (with_reducible exact ih0 _ _ _ _ _ _ _)
      | (with_reducible exact codec_Depth.mono _ _ _ _ _)
      | (with_reducible exact codec_Encode.mono _ _ _ _ _)
      | (with_reducible exact codec_Valid.mono _ _ _ _ _)
      | (with_reducible exact vinculumlaw03_awake.mono _)
      | (with_reducible exact vinculumlaw03_few.mono _ _ _ _ _)
      | (with_reducible exact vinculumlaw03_own.mono _ _ _ _ _)
      | (with_reducible exact vinculumref03_Depth.mono _ _ _ _ _)
      | (with_reducible exact vinculumref03_Encode.mono _ _ _ _ _)
      | (with_reducible exact vinculumref03_Valid.mono _ _ _ _ _)
      | (with_reducible exact LeO.refl _)
      | (with_reducible exact LeO.none _)
      | (with_reducible refine LeO.ite ?_ ?_)
      | (with_reducible refine LeO.bind ?_ (fun _ => ?_))
      | exact ih0 _ _ _ _ _ _ _
      | exact codec_Depth.mono _ _ _ _ _
      | exact codec_Encode.mono _ _ _ _ _
      | exact codec_Valid.mono _ _ _ _ _
      | exact vinculumlaw03_awake.mono _
      | exact vinculumlaw03_few.mono _ _ _ _ _
      | exact vinculumlaw03_own.mono _ _ _ _ _
      | exact vinculumref03_Depth.mono _ _ _ _ _
      | exact vinculumref03_Encode.mono _ _ _ _ _
      | exact vinculumref03_Valid.mono _ _ _ _ _
      | exact LeO.none _
      | refine LeO.ite ?_ ?_
      | refine LeO.bind ?_ (fun _ => ?_)
def vinculumlaw03_CodecEncodes.T7 : Bool × List (List Nat × List Nat) := (true, [([], []), ([0], [0]), ([], []), ([2, 1], [2]), ([1, 3], [1, 3]), ([4, 3], [4]), ([5], [5]), ([6, 5, 5], [5, 6]), ([5], [5]), ([8, 7, 5], [5, 8]), ([7, 9, 5], [5, 7, 9]), ([5, 10], [5, 10])])
def vinculumlaw03_CodecEncodes.B7 : List Nat := [0, 1, 0, 7, 15, 31, 63, 127, 63, 511, 1023, 2047]
theorem vinculumlaw03_CodecEncodes.tab7 : rtab .any (opsOf Try.f3 7) = vinculumlaw03_CodecEncodes.T7 := by kernel_rfl
theorem vinculumlaw03_CodecEncodes.bits7 : waitsOk vinculumlaw03_CodecEncodes.T7.2 vinculumlaw03_CodecEncodes.B7 = true := by kernel_rfl
set_option maxHeartbeats 8000000 in
set_option maxRecDepth 100000 in
theorem vinculumlaw03_CodecEncodes.calls (k : Nat) (a0_0 : Int) (a0_1 : Int) (a0_2 : ByteArray) (A0_3 : Option Addr) (c0_3 : Nat) (l0_3 : List (S24)) (r : Bool) (w : World) (hr0_3 : Kd.C k24 w A0_3 l0_3.length l0_3) (hc0_3 : l0_3.length ≤ c0_3) (h : vinculumlaw03_CodecEncodes.f k a0_0 a0_1 a0_2 l0_3 = some r) :
    Calls Try.prog 3 #[.agg #[.int .i64 a0_0, .int .i64 a0_1, .string a0_2, .slice A0_3 l0_3.length c0_3]] w fun e w' => e = .returned (.bool r) ∧ Below w.heap.size w w' := by
  have hu24 := Try.underlying24
  have hu29 := Try.underlying29
  have HR0_3 := Aside0.mk hr0_3
  have HC0_3 := Aside0.mk hc0_3
  clear hr0_3 hc0_3
  have HB := Aside0.mk (Below.refl w.heap.size w)
  have H : ((vinculumlaw03_awake.f k).bind fun t191 => (if t191 = true then ((vinculumlaw03_few.f k a0_0 a0_1 a0_2 l0_3).bind fun t192 => (if t192 = true then ((vinculumlaw03_own.f k a0_0 a0_1 a0_2 l0_3).bind fun bt193 => ((codec_Encode.f k bt193.1 bt193.2.1 bt193.2.2.1 bt193.2.2.2).bind fun bt200 => ((codec_Valid.f k bt193.1 bt193.2.1 bt193.2.2.1 bt193.2.2.2).bind fun t204 => ((vinculumref03_Valid.f k a0_0 a0_1 a0_2 l0_3).bind fun t205 => (if (t204 != t205) = true then (vinculumlaw03_CodecEncodes.j0 k bt200.1 bt200.2 true a0_0 a0_1 a0_2 l0_3) else ((codec_Depth.f k bt193.1 bt193.2.1 bt193.2.2.1 bt193.2.2.2).bind fun t206 => ((vinculumref03_Depth.f k a0_0 a0_1 a0_2 l0_3).bind fun t207 => (vinculumlaw03_CodecEncodes.j0 k bt200.1 bt200.2 (t206 != t207) a0_0 a0_1 a0_2 l0_3)))))))) else (some true))) else (some false))) = some r := h
  clear h
  replace H := Option.bind_eq_some_iff.mp H
  obtain ⟨t191, A20, H⟩ := H
  replace H : (if t191 = true then ((vinculumlaw03_few.f k a0_0 a0_1 a0_2 l0_3).bind fun t192 => (if t192 = true then ((vinculumlaw03_own.f k a0_0 a0_1 a0_2 l0_3).bind fun bt193 => ((codec_Encode.f k bt193.1 bt193.2.1 bt193.2.2.1 bt193.2.2.2).bind fun bt200 => ((codec_Valid.f k bt193.1 bt193.2.1 bt193.2.2.1 bt193.2.2.2).bind fun t204 => ((vinculumref03_Valid.f k a0_0 a0_1 a0_2 l0_3).bind fun t205 => (if (t204 != t205) = true then (vinculumlaw03_CodecEncodes.j0 k bt200.1 bt200.2 true a0_0 a0_1 a0_2 l0_3) else ((codec_Depth.f k bt193.1 bt193.2.1 bt193.2.2.1 bt193.2.2.2).bind fun t206 => ((vinculumref03_Depth.f k a0_0 a0_1 a0_2 l0_3).bind fun t207 => (vinculumlaw03_CodecEncodes.j0 k bt200.1 bt200.2 (t206 != t207) a0_0 a0_1 a0_2 l0_3)))))))) else (some true))) else (some false)) = some r := H
  have A2 := Aside0.mk A20
  clear A20
  by_cases c3 : t191 = true
  · subst c3
    have H1 : ((vinculumlaw03_few.f k a0_0 a0_1 a0_2 l0_3).bind fun t192 => (if t192 = true then ((vinculumlaw03_own.f k a0_0 a0_1 a0_2 l0_3).bind fun bt193 => ((codec_Encode.f k bt193.1 bt193.2.1 bt193.2.2.1 bt193.2.2.2).bind fun bt200 => ((codec_Valid.f k bt193.1 bt193.2.1 bt193.2.2.1 bt193.2.2.2).bind fun t204 => ((vinculumref03_Valid.f k a0_0 a0_1 a0_2 l0_3).bind fun t205 => (if (t204 != t205) = true then (vinculumlaw03_CodecEncodes.j0 k bt200.1 bt200.2 true a0_0 a0_1 a0_2 l0_3) else ((codec_Depth.f k bt193.1 bt193.2.1 bt193.2.2.1 bt193.2.2.2).bind fun t206 => ((vinculumref03_Depth.f k a0_0 a0_1 a0_2 l0_3).bind fun t207 => (vinculumlaw03_CodecEncodes.j0 k bt200.1 bt200.2 (t206 != t207) a0_0 a0_1 a0_2 l0_3)))))))) else (some true))) = some r := by rw [if_pos rfl] at H; exact H
    clear H
    have H := H1
    clear H1
    replace H := Option.bind_eq_some_iff.mp H
    obtain ⟨t192, A40, H⟩ := H
    replace H : (if t192 = true then ((vinculumlaw03_own.f k a0_0 a0_1 a0_2 l0_3).bind fun bt193 => ((codec_Encode.f k bt193.1 bt193.2.1 bt193.2.2.1 bt193.2.2.2).bind fun bt200 => ((codec_Valid.f k bt193.1 bt193.2.1 bt193.2.2.1 bt193.2.2.2).bind fun t204 => ((vinculumref03_Valid.f k a0_0 a0_1 a0_2 l0_3).bind fun t205 => (if (t204 != t205) = true then (vinculumlaw03_CodecEncodes.j0 k bt200.1 bt200.2 true a0_0 a0_1 a0_2 l0_3) else ((codec_Depth.f k bt193.1 bt193.2.1 bt193.2.2.1 bt193.2.2.2).bind fun t206 => ((vinculumref03_Depth.f k a0_0 a0_1 a0_2 l0_3).bind fun t207 => (vinculumlaw03_CodecEncodes.j0 k bt200.1 bt200.2 (t206 != t207) a0_0 a0_1 a0_2 l0_3)))))))) else (some true)) = some r := H
    have A4 := Aside0.mk A40
    clear A40
    by_cases c5 : t192 = true
    · subst c5
      have H1 : ((vinculumlaw03_own.f k a0_0 a0_1 a0_2 l0_3).bind fun bt193 => ((codec_Encode.f k bt193.1 bt193.2.1 bt193.2.2.1 bt193.2.2.2).bind fun bt200 => ((codec_Valid.f k bt193.1 bt193.2.1 bt193.2.2.1 bt193.2.2.2).bind fun t204 => ((vinculumref03_Valid.f k a0_0 a0_1 a0_2 l0_3).bind fun t205 => (if (t204 != t205) = true then (vinculumlaw03_CodecEncodes.j0 k bt200.1 bt200.2 true a0_0 a0_1 a0_2 l0_3) else ((codec_Depth.f k bt193.1 bt193.2.1 bt193.2.2.1 bt193.2.2.2).bind fun t206 => ((vinculumref03_Depth.f k a0_0 a0_1 a0_2 l0_3).bind fun t207 => (vinculumlaw03_CodecEncodes.j0 k bt200.1 bt200.2 (t206 != t207) a0_0 a0_1 a0_2 l0_3)))))))) = some r := by rw [if_pos rfl] at H; exact H
      clear H
      have H := H1
      clear H1
      replace H := Option.bind_eq_some_iff.mp H
      obtain ⟨⟨t193, t194, t195, t196⟩, A60, H⟩ := H
      replace H : ((codec_Encode.f k t193 t194 t195 t196).bind fun bt200 => ((codec_Valid.f k t193 t194 t195 t196).bind fun t204 => ((vinculumref03_Valid.f k a0_0 a0_1 a0_2 l0_3).bind fun t205 => (if (t204 != t205) = true then (vinculumlaw03_CodecEncodes.j0 k bt200.1 bt200.2 true a0_0 a0_1 a0_2 l0_3) else ((codec_Depth.f k t193 t194 t195 t196).bind fun t206 => ((vinculumref03_Depth.f k a0_0 a0_1 a0_2 l0_3).bind fun t207 => (vinculumlaw03_CodecEncodes.j0 k bt200.1 bt200.2 (t206 != t207) a0_0 a0_1 a0_2 l0_3))))))) = some r := H
      have A6 := Aside0.mk A60
      clear A60
      replace H := Option.bind_eq_some_iff.mp H
      obtain ⟨⟨t200, t203⟩, A70, H⟩ := H
      replace H : ((codec_Valid.f k t193 t194 t195 t196).bind fun t204 => ((vinculumref03_Valid.f k a0_0 a0_1 a0_2 l0_3).bind fun t205 => (if (t204 != t205) = true then (vinculumlaw03_CodecEncodes.j0 k t200 t203 true a0_0 a0_1 a0_2 l0_3) else ((codec_Depth.f k t193 t194 t195 t196).bind fun t206 => ((vinculumref03_Depth.f k a0_0 a0_1 a0_2 l0_3).bind fun t207 => (vinculumlaw03_CodecEncodes.j0 k t200 t203 (t206 != t207) a0_0 a0_1 a0_2 l0_3)))))) = some r := H
      have A7 := Aside0.mk A70
      clear A70
      have HC8 := Aside0.mk H
      clear H
      go_enter Try.func3, Try.ntmps3
      go_upto_region 7 with (first | ((with_reducible refine gate_dst (N := 1) rfl ?_); (try (refine gate_guard (by rfl) ?_; dsimp only)); refine box_event ?hg (N := 1) ?hd (cs := #[.int .i64 a0_0, .int .i64 a0_1, .string a0_2, .slice A0_3 l0_3.length c0_3]) (t := 24) ?hr ?_; (case hd => rfl); (case hg => rfl); (case hr => first | (go_simp; done) | (go_simp; rfl)); intro gb190 hg w9 hbox hb; have n0_ := Aside0.mk (below_step (by repeat (first | (with_reducible first | exact HB.out | apply below_alloc | apply pw_below_drewN | apply below_drew1) | exact HB.out)) hb); have n1_ := Aside0.mk (hbox); have n2_ := Aside0.mk ((by rw [hg]; exact (below_size (by repeat (first | (with_reducible first | exact HB.out | apply below_alloc | apply pw_below_drewN | apply below_drew1) | exact HB.out))) : w.heap.size ≤ gb190)); have n3_ := Aside0.mk ((by rw [hg]; exact (below_size (by repeat (first | (with_reducible first | exact HB.out | apply below_alloc | apply pw_below_drewN | apply below_drew1) | exact HB.out))) : w.heap.size ≤ gb190)); clear HB; have HB := n0_; have BK190 := n1_; have GW190 := n2_; have GE190 := n3_; clear n0_ n1_ n2_ n3_; clear hb hbox hg) | ((with_reducible refine gate_callee (f := 11) rfl ?_); refine goesL_ (some 7) rfl rfl Try.func11 (by kernel_rfl) rfl #[] rfl (by (try simp only [List.map_toArray, List.map_cons, List.map_nil]); first | done | rfl | (simp only [List.length_drop, List.length_take]; rfl)) ?_; (with_reducible refine (vinculumlaw03_awake.calls k  true _ A2.out).mono ?_); rintro e w10 ⟨rfl, hb⟩; refine ⟨_, rfl, ?_⟩; have n0_ := Aside0.mk (blk_below (g := gb190) (o := .cells #[.int .i64 a0_0, .int .i64 a0_1, .string a0_2, .slice A0_3 l0_3.length c0_3] 24 (0, 0)) (by (with_reducible repeat (first | refine blk_drewN ?_ _ | refine blk_drew ?_ | refine blk_alloc ?_ _)); exact BK190.out) hb); have n1_ := Aside0.mk (below_step (by repeat (first | (with_reducible first | exact HB.out | apply below_alloc | apply pw_below_drewN | apply below_drew1 | refine below_set ?_ GE190.out) | exact HB.out)) hb); clear BK190; clear HB; have BK190 := n0_; have HB := n1_; clear n0_ n1_; (try clear hb); (try clear hb2); (try clear hk); (try clear hi); have hcz11_0 : w10.cell? ⟨gb190, 0, none⟩ = some (.int .i64 a0_0) := (blk_cell BK190.out 0).trans rfl; have hcz11_1 : w10.cell? ⟨gb190, 1, none⟩ = some (.int .i64 a0_1) := (blk_cell BK190.out 1).trans rfl; have hcz11_2 : w10.cell? ⟨gb190, 2, none⟩ = some (.string a0_2) := (blk_cell BK190.out 2).trans rfl; have hcz11_3 : w10.cell? ⟨gb190, 3, none⟩ = some (.slice A0_3 l0_3.length c0_3) := (blk_cell BK190.out 3).trans rfl; have hfz11_0 := blk_frozen BK190.out 0; have hfz11_1 := blk_frozen BK190.out 1; have hfz11_2 := blk_frozen BK190.out 2; have hfz11_3 := blk_frozen BK190.out 3) | ((with_reducible refine gate_callee (f := 12) rfl ?_); refine goesL_ (some 10) rfl rfl Try.func12 (by kernel_rfl) rfl #[.agg #[.int .i64 a0_0, .int .i64 a0_1, .string a0_2, .slice A0_3 l0_3.length c0_3]] rfl (by (try simp only [List.map_toArray, List.map_cons, List.map_nil]); first | done | rfl | (simp only [List.length_drop, List.length_take]; rfl)) ?_; (with_reducible refine (vinculumlaw03_few.calls k a0_0 a0_1 a0_2 _ _ l0_3 true _ ?side1 ?side2 A4.out).mono ?_); (case side1 => repeat (first | exact (Kd.C_below HR0_3.out HB.out) | (with_reducible refine Kd.C_alloc ?_ _) | (with_reducible refine Kd.C_drewN ?_ _) | (with_reducible refine Kd.C_drew ?_))); (case side2 => exact HC0_3.out); rintro e w12 ⟨rfl, hb⟩; refine ⟨_, rfl, ?_⟩; have n0_ := Aside0.mk (blk_below (g := gb190) (o := .cells #[.int .i64 a0_0, .int .i64 a0_1, .string a0_2, .slice A0_3 l0_3.length c0_3] 24 (0, 0)) (by (with_reducible repeat (first | refine blk_drewN ?_ _ | refine blk_drew ?_ | refine blk_alloc ?_ _)); exact BK190.out) hb); have n1_ := Aside0.mk (below_step (by repeat (first | (with_reducible first | exact HB.out | apply below_alloc | apply pw_below_drewN | apply below_drew1 | refine below_set ?_ GE190.out) | exact HB.out)) hb); clear BK190; clear HB; have BK190 := n0_; have HB := n1_; clear n0_ n1_; (try clear hb); (try clear hb2); (try clear hk); (try clear hi); have hcz13_0 : w12.cell? ⟨gb190, 0, none⟩ = some (.int .i64 a0_0) := (blk_cell BK190.out 0).trans rfl; have hcz13_1 : w12.cell? ⟨gb190, 1, none⟩ = some (.int .i64 a0_1) := (blk_cell BK190.out 1).trans rfl; have hcz13_2 : w12.cell? ⟨gb190, 2, none⟩ = some (.string a0_2) := (blk_cell BK190.out 2).trans rfl; have hcz13_3 : w12.cell? ⟨gb190, 3, none⟩ = some (.slice A0_3 l0_3.length c0_3) := (blk_cell BK190.out 3).trans rfl; have hfz13_0 := blk_frozen BK190.out 0; have hfz13_1 := blk_frozen BK190.out 1; have hfz13_2 := blk_frozen BK190.out 2; have hfz13_3 := blk_frozen BK190.out 3) | ((with_reducible refine gate_callee (f := 13) rfl ?_); refine goesL_ (some 13) rfl rfl Try.func13 (by kernel_rfl) rfl #[.agg #[.int .i64 a0_0, .int .i64 a0_1, .string a0_2, .slice A0_3 l0_3.length c0_3]] rfl (by (try simp only [List.map_toArray, List.map_cons, List.map_nil]); first | done | rfl | (simp only [List.length_drop, List.length_take]; rfl)) ?_; (with_reducible refine (vinculumlaw03_own.calls k a0_0 a0_1 a0_2 _ _ l0_3 t193 t194 t195 t196 _ ?side1 ?side2 A6.out).mono ?_); (case side1 => repeat (first | exact (Kd.C_below HR0_3.out HB.out) | (with_reducible refine Kd.C_alloc ?_ _) | (with_reducible refine Kd.C_drewN ?_ _) | (with_reducible refine Kd.C_drew ?_))); (case side2 => exact HC0_3.out); rintro e w14 ⟨v197, rfl, ho0, hb⟩; refine ⟨_, rfl, ?_⟩; have n0_ := Aside0.mk (Kd.R_lower ho0 (below_size (by repeat (first | (with_reducible first | exact HB.out | apply below_alloc | apply pw_below_drewN | apply below_drew1 | refine below_set ?_ GE190.out) | exact HB.out)))); have n1_ := Aside0.mk (blk_below (g := gb190) (o := .cells #[.int .i64 a0_0, .int .i64 a0_1, .string a0_2, .slice A0_3 l0_3.length c0_3] 24 (0, 0)) (by (with_reducible repeat (first | refine blk_drewN ?_ _ | refine blk_drew ?_ | refine blk_alloc ?_ _)); exact BK190.out) hb); have n2_ := Aside0.mk (below_step (by repeat (first | (with_reducible first | exact HB.out | apply below_alloc | apply pw_below_drewN | apply below_drew1 | refine below_set ?_ GE190.out) | exact HB.out)) hb); clear BK190; clear HB; have HO198 := n0_; have BK190 := n1_; have HB := n2_; clear n0_ n1_ n2_; (try clear hb); (try clear hb2); (try clear hk); (try clear hi); (try clear ho0)) | ((with_reducible refine gate_dst (N := 3) rfl ?_); (try (refine gate_guard (by rfl) ?_; dsimp only)); refine box_event ?hg (N := 3) ?hd (cs := #[.int .i64 0, .int .i64 0, .string (⟨#[]⟩ : ByteArray), .slice none 0 0]) (t := 29) ?hr ?_; (case hd => rfl); (case hg => rfl); (case hr => first | (go_simp; done) | (go_simp; rfl)); intro gb199 hg w15 hbox hb; have n0_ := Aside0.mk (Kd.R_below (Kd.R_elderB (by (with_reducible repeat (first | apply Kd.R_alloc | apply Kd.R_drewN | apply Kd.R_drew)); exact HO198.out) gb199 (Nat.le_of_eq hg.symm)) hb); have n1_ := Aside0.mk (blk_below (g := gb190) (o := .cells #[.int .i64 a0_0, .int .i64 a0_1, .string a0_2, .slice A0_3 l0_3.length c0_3] 24 (0, 0)) (by (with_reducible repeat (first | refine blk_drewN ?_ _ | refine blk_drew ?_ | refine blk_alloc ?_ _)); exact BK190.out) hb); have n2_ := Aside0.mk (below_step (by repeat (first | (with_reducible first | exact HB.out | apply below_alloc | apply pw_below_drewN | apply below_drew1 | refine below_set ?_ GE190.out) | exact HB.out)) hb); have n3_ := Aside0.mk (hbox); have n4_ := Aside0.mk ((by rw [hg]; exact (below_size (by repeat (first | (with_reducible first | exact HB.out | apply below_alloc | apply pw_below_drewN | apply below_drew1 | refine below_set ?_ GE190.out) | exact HB.out))) : w.heap.size ≤ gb199)); have n5_ := Aside0.mk ((by rw [hg]; exact (below_size (by repeat (first | (with_reducible first | exact HB.out | apply below_alloc | apply pw_below_drewN | apply below_drew1 | refine below_set ?_ GE190.out) | exact HB.out))) : w.heap.size ≤ gb199)); have n6_ := Aside0.mk ((by rw [hg]; exact Nat.ne_of_lt (blk_lt (g := gb190) (o := .cells #[.int .i64 a0_0, .int .i64 a0_1, .string a0_2, .slice A0_3 l0_3.length c0_3] 24 (0, 0)) (by (with_reducible repeat (first | refine blk_drewN ?_ _ | refine blk_drew ?_ | refine blk_alloc ?_ _)); exact BK190.out)) : gb190 ≠ gb199)); have n7_ := Aside0.mk ((by rw [hg]; exact Nat.ne_of_gt (blk_lt (g := gb190) (o := .cells #[.int .i64 a0_0, .int .i64 a0_1, .string a0_2, .slice A0_3 l0_3.length c0_3] 24 (0, 0)) (by (with_reducible repeat (first | refine blk_drewN ?_ _ | refine blk_drew ?_ | refine blk_alloc ?_ _)); exact BK190.out)) : gb199 ≠ gb190)); clear HO198; clear BK190; clear HB; have HO198 := n0_; have BK190 := n1_; have HB := n2_; have BK199 := n3_; have GW199 := n4_; have GE199 := n5_; have NB190_199 := n6_; have NB199_190 := n7_; clear n0_ n1_ n2_ n3_ n4_ n5_ n6_ n7_; clear hb hbox hg; have hnb16 := NB199_190.out; have hnc16 := NB190_199.out; have hcz17_0 : w15.cell? ⟨gb199, 0, none⟩ = some (.int .i64 0) := (blk_cell BK199.out 0).trans rfl; have hcz17_1 : w15.cell? ⟨gb199, 1, none⟩ = some (.int .i64 0) := (blk_cell BK199.out 1).trans rfl; have hcz17_2 : w15.cell? ⟨gb199, 2, none⟩ = some (.string (⟨#[]⟩ : ByteArray)) := (blk_cell BK199.out 2).trans rfl; have hcz17_3 : w15.cell? ⟨gb199, 3, none⟩ = some (.slice none 0 0) := (blk_cell BK199.out 3).trans rfl; have hfz17_0 := blk_frozen BK199.out 0; have hfz17_1 := blk_frozen BK199.out 1; have hfz17_2 := blk_frozen BK199.out 2; have hfz17_3 := blk_frozen BK199.out 3; obtain ⟨Ao18, co18, eo18⟩ := Kd.R_slice HO198.out; subst eo18) | ((with_reducible refine gate_callee (f := 14) rfl ?_); refine goesL_ (some 16) rfl rfl Try.func14 (by kernel_rfl) rfl #[.agg #[.int .i64 t193, .int .i64 t194, .string t195, .slice Ao18 t196.length co18]] rfl (by (try simp only [List.map_toArray, List.map_cons, List.map_nil]); first | done | rfl | (simp only [List.length_drop, List.length_take]; rfl)) ?_; (with_reducible refine (codec_Encode.calls k t193 t194 t195 _ _ t196 t200 t203 _ ?side1 ?side2 A7.out).mono ?_); (case side1 => refine (Kd.R_reads' (e := 29) (base := w.heap.size) (ok := fun k_ => (True ∧ k_ ≠ gb199)) (n := t196.length) (c := co18) ?_).2.2; exact (by (with_reducible repeat (first | apply Kd.R_alloc | apply Kd.R_drewN | apply Kd.R_drew)); exact (Kd.R_mono (Kd.R_far (p := ⟨gb199, 3, none⟩) (Kd.R_far (p := ⟨gb199, 2, none⟩) (Kd.R_far (p := ⟨gb199, 1, none⟩) (Kd.R_far (p := ⟨gb199, 0, none⟩) (Kd.R_mono HO198.out (fun k_ hk => (⟨hk, hk.2⟩ : _ ∧ k_ ≠ gb199))) (fun _ hk => hk.2) (.int .i64 t193)) (fun _ hk => hk.2) (.int .i64 t194)) (fun _ hk => hk.2) (.string t195)) (fun _ hk => hk.2) (.slice Ao18 t196.length co18)) (fun _ h_ => h_.1)))); (case side2 => exact (Kd.R_reads' HO198.out).2.1); rintro e w19 ⟨v201, rfl, ho0, hb⟩; refine ⟨_, rfl, ?_⟩; have n0_ := Aside0.mk (Kd.R_below (by (with_reducible repeat (first | apply Kd.R_alloc | apply Kd.R_drewN | apply Kd.R_drew)); exact (Kd.R_mono (Kd.R_far (p := ⟨gb199, 3, none⟩) (Kd.R_far (p := ⟨gb199, 2, none⟩) (Kd.R_far (p := ⟨gb199, 1, none⟩) (Kd.R_far (p := ⟨gb199, 0, none⟩) (Kd.R_mono HO198.out (fun k_ hk => (⟨hk, hk.2⟩ : _ ∧ k_ ≠ gb199))) (fun _ hk => hk.2) (.int .i64 t193)) (fun _ hk => hk.2) (.int .i64 t194)) (fun _ hk => hk.2) (.string t195)) (fun _ hk => hk.2) (.slice Ao18 t196.length co18)) (fun _ h_ => h_.1))) hb); have n1_ := Aside0.mk (Kd.R_lower ho0 (below_size (by repeat (first | (with_reducible first | exact HB.out | apply below_alloc | apply pw_below_drewN | apply below_drew1 | refine below_set ?_ GE190.out | refine below_set ?_ GE199.out) | exact HB.out)))); have n2_ := Aside0.mk (blk_below (g := gb190) (o := .cells #[.int .i64 a0_0, .int .i64 a0_1, .string a0_2, .slice A0_3 l0_3.length c0_3] 24 (0, 0)) (by (with_reducible repeat (first | refine blk_drewN ?_ _ | refine blk_drew ?_ | refine blk_alloc ?_ _)); refine blk_far ?_ NB190_199.out _; (with_reducible repeat (first | refine blk_drewN ?_ _ | refine blk_drew ?_ | refine blk_alloc ?_ _)); refine blk_far ?_ NB190_199.out _; (with_reducible repeat (first | refine blk_drewN ?_ _ | refine blk_drew ?_ | refine blk_alloc ?_ _)); refine blk_far ?_ NB190_199.out _; (with_reducible repeat (first | refine blk_drewN ?_ _ | refine blk_drew ?_ | refine blk_alloc ?_ _)); refine blk_far ?_ NB190_199.out _; (with_reducible repeat (first | refine blk_drewN ?_ _ | refine blk_drew ?_ | refine blk_alloc ?_ _)); exact BK190.out) hb); have n3_ := Aside0.mk (blk_below (g := gb199) (o := .cells #[.int .i64 t193, .int .i64 t194, .string t195, .slice Ao18 t196.length co18] 29 (0, 0)) (by (with_reducible repeat (first | refine blk_drewN ?_ _ | refine blk_drew ?_ | refine blk_alloc ?_ _)); refine blk_put (cs := #[.int .i64 t193, .int .i64 t194, .string t195, .slice none 0 0]) ?_ 3 _ rfl; (with_reducible repeat (first | refine blk_drewN ?_ _ | refine blk_drew ?_ | refine blk_alloc ?_ _)); refine blk_put (cs := #[.int .i64 t193, .int .i64 t194, .string (⟨#[]⟩ : ByteArray), .slice none 0 0]) ?_ 2 _ rfl; (with_reducible repeat (first | refine blk_drewN ?_ _ | refine blk_drew ?_ | refine blk_alloc ?_ _)); refine blk_put (cs := #[.int .i64 t193, .int .i64 0, .string (⟨#[]⟩ : ByteArray), .slice none 0 0]) ?_ 1 _ rfl; (with_reducible repeat (first | refine blk_drewN ?_ _ | refine blk_drew ?_ | refine blk_alloc ?_ _)); refine blk_put (cs := #[.int .i64 0, .int .i64 0, .string (⟨#[]⟩ : ByteArray), .slice none 0 0]) ?_ 0 _ rfl; (with_reducible repeat (first | refine blk_drewN ?_ _ | refine blk_drew ?_ | refine blk_alloc ?_ _)); exact BK199.out) hb); have n4_ := Aside0.mk (below_step (by repeat (first | (with_reducible first | exact HB.out | apply below_alloc | apply pw_below_drewN | apply below_drew1 | refine below_set ?_ GE190.out | refine below_set ?_ GE199.out) | exact HB.out)) hb); clear HO198; clear BK190; clear BK199; clear HB; have HO198 := n0_; have HO202 := n1_; have BK190 := n2_; have BK199 := n3_; have HB := n4_; clear n0_ n1_ n2_ n3_ n4_; (try clear hb); (try clear hb2); (try clear hk); (try clear hi); (try clear ho0)))
      (try simp only [Act.put, List.setIfInBounds_toArray, List.set_cons_zero, List.set_cons_succ])
      go_cut [30] (fun v30 wc => ∃ (kq : Nat) (x30_7 : Bool), v30 = .bool x30_7 ∧ Aside0 (vinculumlaw03_CodecEncodes.j0 kq t200 t203 x30_7 a0_0 a0_1 a0_2 l0_3 = some r) ∧ Aside0 (kq ≤ k) ∧ Aside0 (Kd.R (Kd.int .u8) 5 wc w.heap.size (fun _ => True) v201 t200) ∧ Aside0 (Kd.R k29 29 wc w.heap.size (fun k_ => k_ ≠ gb199) (.slice Ao18 t196.length co18) t196) ∧ Aside0 (wc.heap[gb190]? = some (.cells #[.int .i64 a0_0, .int .i64 a0_1, .string a0_2, (.slice A0_3 l0_3.length c0_3)] 24 (0, 0))) ∧ Aside0 (wc.heap[gb199]? = some (.cells #[.int .i64 t193, .int .i64 t194, .string t195, (.slice Ao18 t196.length co18)] 29 (0, 0))) ∧ Aside0 (Below w.heap.size w wc))
      case first =>
        have H := HC8.out
        clear HC8
        replace H := Option.bind_eq_some_iff.mp H
        obtain ⟨t204, A200, H⟩ := H
        replace H : ((vinculumref03_Valid.f k a0_0 a0_1 a0_2 l0_3).bind fun t205 => (if (t204 != t205) = true then (vinculumlaw03_CodecEncodes.j0 k t200 t203 true a0_0 a0_1 a0_2 l0_3) else ((codec_Depth.f k t193 t194 t195 t196).bind fun t206 => ((vinculumref03_Depth.f k a0_0 a0_1 a0_2 l0_3).bind fun t207 => (vinculumlaw03_CodecEncodes.j0 k t200 t203 (t206 != t207) a0_0 a0_1 a0_2 l0_3))))) = some r := H
        have A20 := Aside0.mk A200
        clear A200
        replace H := Option.bind_eq_some_iff.mp H
        obtain ⟨t205, A210, H⟩ := H
        replace H : (if (t204 != t205) = true then (vinculumlaw03_CodecEncodes.j0 k t200 t203 true a0_0 a0_1 a0_2 l0_3) else ((codec_Depth.f k t193 t194 t195 t196).bind fun t206 => ((vinculumref03_Depth.f k a0_0 a0_1 a0_2 l0_3).bind fun t207 => (vinculumlaw03_CodecEncodes.j0 k t200 t203 (t206 != t207) a0_0 a0_1 a0_2 l0_3)))) = some r := H
        have A21 := Aside0.mk A210
        clear A210
        by_cases c22 : (t204 != t205) = true
        · rw [if_pos c22] at H
          have c22b0 : (t204 != t205) = true := c22
          (try (have c22b1 : decide (t204 = t205) = false := by simpa using c22))
          (try (have c22b2 : (t204 == t205) = false := by simpa using c22))
          (try (have c22b3 : ¬ (t204 = t205) := by simpa using c22))
          clear c22
          (first | rw [c22b0] | (simp only [i64_w, i32_w]; rw [c22b0]) | skip)
          have H' := Aside0.mk H
          clear H
          try go_wp2
          have n0_ := Aside0.mk (Kd.R_drew HO198.out)
          have n1_ := Aside0.mk (Kd.R_drew HO202.out)
          have n2_ := Aside0.mk (blk_drew BK190.out)
          have n3_ := Aside0.mk (blk_drew BK199.out)
          have n4_ := Aside0.mk (below_drew1 HB.out)
          clear HO198
          clear HO202
          clear BK190
          clear BK199
          clear HB
          have HO198 := n0_
          have HO202 := n1_
          have BK190 := n2_
          have BK199 := n3_
          have HB := n4_
          clear n0_ n1_ n2_ n3_ n4_
          refine start_ (n := 12) (S := fun w' => w'.cell? ⟨gb199, 0, none⟩ = some (.int .i64 t193) ∧ w'.cell? ⟨gb199, 1, none⟩ = some (.int .i64 t194) ∧ w'.cell? ⟨gb199, 2, none⟩ = some (.string t195) ∧ w'.cell? ⟨gb199, 3, none⟩ = some (.slice Ao18 t196.length co18) ∧ w'.cell? ⟨gb190, 0, none⟩ = some (.int .i64 a0_0) ∧ w'.cell? ⟨gb190, 1, none⟩ = some (.int .i64 a0_1) ∧ w'.cell? ⟨gb190, 2, none⟩ = some (.string a0_2) ∧ w'.cell? ⟨gb190, 3, none⟩ = some (.slice A0_3 l0_3.length c0_3)) (ds := []) #[false, false, false, false, false, false, false, false, false, false, false, false] (by kernel_rfl) rfl rfl ⟨(blk_cell BK199.out 0).trans rfl, (blk_cell BK199.out 1).trans rfl, (blk_cell BK199.out 2).trans rfl, (blk_cell BK199.out 3).trans rfl, (blk_cell BK190.out 0).trans rfl, (blk_cell BK190.out 1).trans rfl, (blk_cell BK190.out 2).trans rfl, (blk_cell BK190.out 3).trans rfl⟩ (fun hHeld => ?_); refine with_tabW vinculumlaw03_CodecEncodes.tab7 vinculumlaw03_CodecEncodes.bits7 (fun HT_ HW_ => ?_)
          generalize w19.drew = w23 at HO198 HO202 BK190 BK199 HB hHeld ⊢
          refine take_ (i := 0) (N := some 19) (v := ?_) (a' := ?_) #[true, false, false, false, false, false, false, false, false, false, false, false] rfl rfl (take_ofW HT_.out HW_.out (by kernel_rfl)) (fun _ _ _ h => h) (Or.inl ⟨by rfl, ?_⟩) hHeld ?_ ?_
          rotate_left
          · rintro w' ⟨s0, s1, s2, s3, s4, s5, s6, s7⟩
            go_simp
            with_reducible rfl
          rotate_left
          · simp only [Act.put, List.setIfInBounds_toArray, List.set_cons_zero, List.set_cons_succ, i64_w, i32_w]
            rfl
          refine take_ (i := 2) (N := some 21) (v := ?_) (a' := ?_) #[true, false, true, false, false, false, false, false, false, false, false, false] rfl rfl (take_ofW HT_.out HW_.out (by kernel_rfl)) (fun _ _ _ h => h) (Or.inl ⟨by rfl, ?_⟩) hHeld ?_ ?_
          rotate_left
          · rintro w' ⟨s0, s1, s2, s3, s4, s5, s6, s7⟩
            go_simp
            with_reducible rfl
          rotate_left
          · simp only [Act.put, List.setIfInBounds_toArray, List.set_cons_zero, List.set_cons_succ, i64_w, i32_w]
            rfl
          refine one_ (i := 1) (N := some 20) #[true, true, true, false, false, false, false, false, false, false, false, false] rfl rfl (one_of HT_.out (by kernel_rfl)) (by decide) (fun K hK => ?_)
          refine goes_ Try.func15 (by kernel_rfl) rfl #[.agg #[.int .i64 t193, .int .i64 t194, .string t195, .slice Ao18 t196.length co18]] (by rfl) rfl rfl (by (try simp only [List.map_toArray, List.map_cons, List.map_nil]); first | done | rfl | (simp only [List.length_drop, List.length_take]; rfl)) ?_
          with_reducible refine (codec_Valid.calls k t193 t194 t195 _ _ t196 t204 _ ?side1 ?side2 A20.out).mono ?_
          (case side1 => repeat (first | exact (Kd.R_reads' HO198.out).2.2 | (with_reducible refine Kd.C_alloc ?_ _) | (with_reducible refine Kd.C_drewN ?_ _) | (with_reducible refine Kd.C_drew ?_)))
          (case side2 => exact (Kd.R_reads' HO198.out).2.1)
          rintro e w24 ⟨rfl, hb⟩
          refine ⟨_, rfl, ?_⟩
          have n0_ := Aside0.mk (Kd.R_below (by (with_reducible repeat (first | apply Kd.R_alloc | apply Kd.R_drewN | apply Kd.R_drew)); exact HO198.out) hb)
          have n1_ := Aside0.mk (Kd.R_below (by (with_reducible repeat (first | apply Kd.R_alloc | apply Kd.R_drewN | apply Kd.R_drew)); exact HO202.out) hb)
          have n2_ := Aside0.mk (blk_below (g := gb190) (o := .cells #[.int .i64 a0_0, .int .i64 a0_1, .string a0_2, .slice A0_3 l0_3.length c0_3] 24 (0, 0)) (by (with_reducible repeat (first | refine blk_drewN ?_ _ | refine blk_drew ?_ | refine blk_alloc ?_ _)); exact BK190.out) hb)
          have n3_ := Aside0.mk (blk_below (g := gb199) (o := .cells #[.int .i64 t193, .int .i64 t194, .string t195, .slice Ao18 t196.length co18] 29 (0, 0)) (by (with_reducible repeat (first | refine blk_drewN ?_ _ | refine blk_drew ?_ | refine blk_alloc ?_ _)); exact BK199.out) hb)
          have n4_ := Aside0.mk (below_step (by repeat (first | (with_reducible first | exact HB.out | apply below_alloc | apply pw_below_drewN | apply below_drew1 | refine below_set ?_ GE190.out | refine below_set ?_ GE199.out) | exact HB.out)) hb)
          clear HO198
          clear HO202
          clear BK190
          clear BK199
          clear HB
          have HO198 := n0_
          have HO202 := n1_
          have BK190 := n2_
          have BK199 := n3_
          have HB := n4_
          clear n0_ n1_ n2_ n3_ n4_
          (try clear hb)
          (try clear hb2)
          (try clear hk)
          (try clear hi)
          refine hK.out _ _ ⟨(blk_cell BK199.out 0).trans rfl, (blk_cell BK199.out 1).trans rfl, (blk_cell BK199.out 2).trans rfl, (blk_cell BK199.out 3).trans rfl, (blk_cell BK190.out 0).trans rfl, (blk_cell BK190.out 1).trans rfl, (blk_cell BK190.out 2).trans rfl, (blk_cell BK190.out 3).trans rfl⟩ (fun hHeld => ?_)
          clear hK K
          refine norm_ (a' := ?_) ?_ ?_
          rotate_left
          · show Act.put _ (some 20) _ = _
            simp only [Act.put, List.setIfInBounds_toArray, List.set_cons_zero, List.set_cons_succ, i64_w, i32_w]
            rfl
          refine one_ (i := 3) (N := some 22) #[true, true, true, true, false, false, false, false, false, false, false, false] rfl rfl (one_of HT_.out (by kernel_rfl)) (by decide) (fun K hK => ?_)
          refine goes_ Try.func16 (by kernel_rfl) rfl #[.agg #[.int .i64 a0_0, .int .i64 a0_1, .string a0_2, .slice A0_3 l0_3.length c0_3]] (by rfl) rfl rfl (by (try simp only [List.map_toArray, List.map_cons, List.map_nil]); first | done | rfl | (simp only [List.length_drop, List.length_take]; rfl)) ?_
          with_reducible refine (vinculumref03_Valid.calls k a0_0 a0_1 a0_2 _ _ l0_3 t205 _ ?side1 ?side2 A21.out).mono ?_
          (case side1 => repeat (first | exact (Kd.C_below HR0_3.out HB.out) | (with_reducible refine Kd.C_alloc ?_ _) | (with_reducible refine Kd.C_drewN ?_ _) | (with_reducible refine Kd.C_drew ?_)))
          (case side2 => exact HC0_3.out)
          rintro e w25 ⟨rfl, hb⟩
          refine ⟨_, rfl, ?_⟩
          have n0_ := Aside0.mk (Kd.R_below (by (with_reducible repeat (first | apply Kd.R_alloc | apply Kd.R_drewN | apply Kd.R_drew)); exact HO198.out) hb)
          have n1_ := Aside0.mk (Kd.R_below (by (with_reducible repeat (first | apply Kd.R_alloc | apply Kd.R_drewN | apply Kd.R_drew)); exact HO202.out) hb)
          have n2_ := Aside0.mk (blk_below (g := gb190) (o := .cells #[.int .i64 a0_0, .int .i64 a0_1, .string a0_2, .slice A0_3 l0_3.length c0_3] 24 (0, 0)) (by (with_reducible repeat (first | refine blk_drewN ?_ _ | refine blk_drew ?_ | refine blk_alloc ?_ _)); exact BK190.out) hb)
          have n3_ := Aside0.mk (blk_below (g := gb199) (o := .cells #[.int .i64 t193, .int .i64 t194, .string t195, .slice Ao18 t196.length co18] 29 (0, 0)) (by (with_reducible repeat (first | refine blk_drewN ?_ _ | refine blk_drew ?_ | refine blk_alloc ?_ _)); exact BK199.out) hb)
          have n4_ := Aside0.mk (below_step (by repeat (first | (with_reducible first | exact HB.out | apply below_alloc | apply pw_below_drewN | apply below_drew1 | refine below_set ?_ GE190.out | refine below_set ?_ GE199.out) | exact HB.out)) hb)
          clear HO198
          clear HO202
          clear BK190
          clear BK199
          clear HB
          have HO198 := n0_
          have HO202 := n1_
          have BK190 := n2_
          have BK199 := n3_
          have HB := n4_
          clear n0_ n1_ n2_ n3_ n4_
          (try clear hb)
          (try clear hb2)
          (try clear hk)
          (try clear hi)
          refine hK.out _ _ ⟨(blk_cell BK199.out 0).trans rfl, (blk_cell BK199.out 1).trans rfl, (blk_cell BK199.out 2).trans rfl, (blk_cell BK199.out 3).trans rfl, (blk_cell BK190.out 0).trans rfl, (blk_cell BK190.out 1).trans rfl, (blk_cell BK190.out 2).trans rfl, (blk_cell BK190.out 3).trans rfl⟩ (fun hHeld => ?_)
          clear hK K
          refine norm_ (a' := ?_) ?_ ?_
          rotate_left
          · show Act.put _ (some 22) _ = _
            simp only [Act.put, List.setIfInBounds_toArray, List.set_cons_zero, List.set_cons_succ, i64_w, i32_w]
            rfl
          refine pure_ (i := 4) (N := some 23) (v := ?_) (a' := ?_) #[true, true, true, true, true, false, false, false, false, false, false, false] rfl rfl (any_of HT_.out (by kernel_rfl)) (fun _ _ _ h => h) (Or.inl ⟨by rfl, ?_⟩) ?_ ?_
          rotate_left
          · intro w'
            go_simp
            with_reducible rfl
          rotate_left
          · simp only [Act.put, List.setIfInBounds_toArray, List.set_cons_zero, List.set_cons_succ, i64_w, i32_w]
            rfl
          refine pure_ (i := 5) (N := some 24) (v := ?_) (a' := ?_) #[true, true, true, true, true, true, false, false, false, false, false, false] rfl rfl (any_of HT_.out (by kernel_rfl)) (fun _ _ _ h => h) (Or.inl ⟨by rfl, ?_⟩) ?_ ?_
          rotate_left
          · intro w'
            go_simp
            with_reducible rfl
          rotate_left
          · simp only [Act.put, List.setIfInBounds_toArray, List.set_cons_zero, List.set_cons_succ, i64_w, i32_w]
            rfl
          refine pure_ (i := 6) (N := some 25) (v := undef) (a' := ?_) #[true, true, true, true, true, true, true, false, false, false, false, false] rfl rfl (any_of HT_.out (by kernel_rfl)) (fun _ _ _ h => h) (Or.inr ⟨by rfl, rfl⟩) ?_ ?_
          rotate_left
          · simp only [Act.put, List.setIfInBounds_toArray, List.set_cons_zero, List.set_cons_succ, i64_w, i32_w]
            rfl
          refine pure_ (i := 7) (N := some 26) (v := undef) (a' := ?_) #[true, true, true, true, true, true, true, true, false, false, false, false] rfl rfl (any_of HT_.out (by kernel_rfl)) (fun _ _ _ h => h) (Or.inr ⟨by rfl, rfl⟩) ?_ ?_
          rotate_left
          · simp only [Act.put, List.setIfInBounds_toArray, List.set_cons_zero, List.set_cons_succ, i64_w, i32_w]
            rfl
          refine pure_ (i := 8) (N := some 27) (v := undef) (a' := ?_) #[true, true, true, true, true, true, true, true, true, false, false, false] rfl rfl (any_of HT_.out (by kernel_rfl)) (fun _ _ _ h => h) (Or.inr ⟨by rfl, rfl⟩) ?_ ?_
          rotate_left
          · simp only [Act.put, List.setIfInBounds_toArray, List.set_cons_zero, List.set_cons_succ, i64_w, i32_w]
            rfl
          refine pure_ (i := 9) (N := some 28) (v := undef) (a' := ?_) #[true, true, true, true, true, true, true, true, true, true, false, false] rfl rfl (any_of HT_.out (by kernel_rfl)) (fun _ _ _ h => h) (Or.inr ⟨by rfl, rfl⟩) ?_ ?_
          rotate_left
          · simp only [Act.put, List.setIfInBounds_toArray, List.set_cons_zero, List.set_cons_succ, i64_w, i32_w]
            rfl
          refine pure_ (i := 10) (N := some 29) (v := undef) (a' := ?_) #[true, true, true, true, true, true, true, true, true, true, true, false] rfl rfl (any_of HT_.out (by kernel_rfl)) (fun _ _ _ h => h) (Or.inr ⟨by rfl, rfl⟩) ?_ ?_
          rotate_left
          · simp only [Act.put, List.setIfInBounds_toArray, List.set_cons_zero, List.set_cons_succ, i64_w, i32_w]
            rfl
          refine pure_ (i := 11) (N := some 30) (v := ?_) (a' := ?_) #[true, true, true, true, true, true, true, true, true, true, true, true] rfl rfl (any_of HT_.out (by kernel_rfl)) (fun _ _ _ h => h) (Or.inl ⟨by rfl, ?_⟩) ?_ ?_
          rotate_left
          · intro w'
            go_simp
            with_reducible rfl
          rotate_left
          · simp only [Act.put, List.setIfInBounds_toArray, List.set_cons_zero, List.set_cons_succ, i64_w, i32_w]
            rfl
          refine done_ (done_of HT_.out (by kernel_rfl)) ?_
          try go_wp2
          go_meet
          case rel => exact ⟨_, (true), (by first | rfl | (simp; done) | (simp [*]; done) | (simp [ne_nil_bool]; done)), H', ⟨by first | omega | exact Nat.le_refl _⟩, ⟨by (with_reducible repeat (first | apply Kd.R_alloc | apply Kd.R_drewN | apply Kd.R_drew)); exact HO202.out⟩, ⟨by (with_reducible repeat (first | apply Kd.R_alloc | apply Kd.R_drewN | apply Kd.R_drew)); exact Kd.R_mono HO198.out (fun _ hk => hk.2)⟩, ⟨by (with_reducible repeat (first | refine blk_drewN ?_ _ | refine blk_drew ?_ | refine blk_alloc ?_ _)); exact BK190.out⟩, ⟨by (with_reducible repeat (first | refine blk_drewN ?_ _ | refine blk_drew ?_ | refine blk_alloc ?_ _)); exact BK199.out⟩, ⟨by repeat (first | (with_reducible first | exact HB.out | apply below_alloc | apply pw_below_drewN | apply below_drew1 | refine below_set ?_ GE190.out | refine below_set ?_ GE199.out) | exact HB.out)⟩⟩
        · rw [if_neg c22] at H
          have c22b0 : (t204 != t205) = false := by simpa using c22
          (try (have c22b1 : decide (t204 = t205) = true := by simpa using c22))
          (try (have c22b2 : (t204 == t205) = true := by simpa using c22))
          clear c22
          (first | rw [c22b0] | (simp only [i64_w, i32_w]; rw [c22b0]) | skip)
          replace H := Option.bind_eq_some_iff.mp H
          obtain ⟨t206, A260, H⟩ := H
          replace H : ((vinculumref03_Depth.f k a0_0 a0_1 a0_2 l0_3).bind fun t207 => (vinculumlaw03_CodecEncodes.j0 k t200 t203 (t206 != t207) a0_0 a0_1 a0_2 l0_3)) = some r := H
          have A26 := Aside0.mk A260
          clear A260
          replace H := Option.bind_eq_some_iff.mp H
          obtain ⟨t207, A270, H⟩ := H
          replace H : (vinculumlaw03_CodecEncodes.j0 k t200 t203 (t206 != t207) a0_0 a0_1 a0_2 l0_3) = some r := H
          have A27 := Aside0.mk A270
          clear A270
          have H' := Aside0.mk H
          clear H
          try go_wp2
          have n0_ := Aside0.mk (Kd.R_drew HO198.out)
          have n1_ := Aside0.mk (Kd.R_drew HO202.out)
          have n2_ := Aside0.mk (blk_drew BK190.out)
          have n3_ := Aside0.mk (blk_drew BK199.out)
          have n4_ := Aside0.mk (below_drew1 HB.out)
          clear HO198
          clear HO202
          clear BK190
          clear BK199
          clear HB
          have HO198 := n0_
          have HO202 := n1_
          have BK190 := n2_
          have BK199 := n3_
          have HB := n4_
          clear n0_ n1_ n2_ n3_ n4_
          refine start_ (n := 12) (S := fun w' => w'.cell? ⟨gb199, 0, none⟩ = some (.int .i64 t193) ∧ w'.cell? ⟨gb199, 1, none⟩ = some (.int .i64 t194) ∧ w'.cell? ⟨gb199, 2, none⟩ = some (.string t195) ∧ w'.cell? ⟨gb199, 3, none⟩ = some (.slice Ao18 t196.length co18) ∧ w'.cell? ⟨gb190, 0, none⟩ = some (.int .i64 a0_0) ∧ w'.cell? ⟨gb190, 1, none⟩ = some (.int .i64 a0_1) ∧ w'.cell? ⟨gb190, 2, none⟩ = some (.string a0_2) ∧ w'.cell? ⟨gb190, 3, none⟩ = some (.slice A0_3 l0_3.length c0_3)) (ds := []) #[false, false, false, false, false, false, false, false, false, false, false, false] (by kernel_rfl) rfl rfl ⟨(blk_cell BK199.out 0).trans rfl, (blk_cell BK199.out 1).trans rfl, (blk_cell BK199.out 2).trans rfl, (blk_cell BK199.out 3).trans rfl, (blk_cell BK190.out 0).trans rfl, (blk_cell BK190.out 1).trans rfl, (blk_cell BK190.out 2).trans rfl, (blk_cell BK190.out 3).trans rfl⟩ (fun hHeld => ?_); refine with_tabW vinculumlaw03_CodecEncodes.tab7 vinculumlaw03_CodecEncodes.bits7 (fun HT_ HW_ => ?_)
          generalize w19.drew = w28 at HO198 HO202 BK190 BK199 HB hHeld ⊢
          refine take_ (i := 0) (N := some 19) (v := ?_) (a' := ?_) #[true, false, false, false, false, false, false, false, false, false, false, false] rfl rfl (take_ofW HT_.out HW_.out (by kernel_rfl)) (fun _ _ _ h => h) (Or.inl ⟨by rfl, ?_⟩) hHeld ?_ ?_
          rotate_left
          · rintro w' ⟨s0, s1, s2, s3, s4, s5, s6, s7⟩
            go_simp
            with_reducible rfl
          rotate_left
          · simp only [Act.put, List.setIfInBounds_toArray, List.set_cons_zero, List.set_cons_succ, i64_w, i32_w]
            rfl
          refine take_ (i := 2) (N := some 21) (v := ?_) (a' := ?_) #[true, false, true, false, false, false, false, false, false, false, false, false] rfl rfl (take_ofW HT_.out HW_.out (by kernel_rfl)) (fun _ _ _ h => h) (Or.inl ⟨by rfl, ?_⟩) hHeld ?_ ?_
          rotate_left
          · rintro w' ⟨s0, s1, s2, s3, s4, s5, s6, s7⟩
            go_simp
            with_reducible rfl
          rotate_left
          · simp only [Act.put, List.setIfInBounds_toArray, List.set_cons_zero, List.set_cons_succ, i64_w, i32_w]
            rfl
          refine one_ (i := 1) (N := some 20) #[true, true, true, false, false, false, false, false, false, false, false, false] rfl rfl (one_of HT_.out (by kernel_rfl)) (by decide) (fun K hK => ?_)
          refine goes_ Try.func15 (by kernel_rfl) rfl #[.agg #[.int .i64 t193, .int .i64 t194, .string t195, .slice Ao18 t196.length co18]] (by rfl) rfl rfl (by (try simp only [List.map_toArray, List.map_cons, List.map_nil]); first | done | rfl | (simp only [List.length_drop, List.length_take]; rfl)) ?_
          with_reducible refine (codec_Valid.calls k t193 t194 t195 _ _ t196 t204 _ ?side1 ?side2 A20.out).mono ?_
          (case side1 => repeat (first | exact (Kd.R_reads' HO198.out).2.2 | (with_reducible refine Kd.C_alloc ?_ _) | (with_reducible refine Kd.C_drewN ?_ _) | (with_reducible refine Kd.C_drew ?_)))
          (case side2 => exact (Kd.R_reads' HO198.out).2.1)
          rintro e w29 ⟨rfl, hb⟩
          refine ⟨_, rfl, ?_⟩
          have n0_ := Aside0.mk (Kd.R_below (by (with_reducible repeat (first | apply Kd.R_alloc | apply Kd.R_drewN | apply Kd.R_drew)); exact HO198.out) hb)
          have n1_ := Aside0.mk (Kd.R_below (by (with_reducible repeat (first | apply Kd.R_alloc | apply Kd.R_drewN | apply Kd.R_drew)); exact HO202.out) hb)
          have n2_ := Aside0.mk (blk_below (g := gb190) (o := .cells #[.int .i64 a0_0, .int .i64 a0_1, .string a0_2, .slice A0_3 l0_3.length c0_3] 24 (0, 0)) (by (with_reducible repeat (first | refine blk_drewN ?_ _ | refine blk_drew ?_ | refine blk_alloc ?_ _)); exact BK190.out) hb)
          have n3_ := Aside0.mk (blk_below (g := gb199) (o := .cells #[.int .i64 t193, .int .i64 t194, .string t195, .slice Ao18 t196.length co18] 29 (0, 0)) (by (with_reducible repeat (first | refine blk_drewN ?_ _ | refine blk_drew ?_ | refine blk_alloc ?_ _)); exact BK199.out) hb)
          have n4_ := Aside0.mk (below_step (by repeat (first | (with_reducible first | exact HB.out | apply below_alloc | apply pw_below_drewN | apply below_drew1 | refine below_set ?_ GE190.out | refine below_set ?_ GE199.out) | exact HB.out)) hb)
          clear HO198
          clear HO202
          clear BK190
          clear BK199
          clear HB
          have HO198 := n0_
          have HO202 := n1_
          have BK190 := n2_
          have BK199 := n3_
          have HB := n4_
          clear n0_ n1_ n2_ n3_ n4_
          (try clear hb)
          (try clear hb2)
          (try clear hk)
          (try clear hi)
          refine hK.out _ _ ⟨(blk_cell BK199.out 0).trans rfl, (blk_cell BK199.out 1).trans rfl, (blk_cell BK199.out 2).trans rfl, (blk_cell BK199.out 3).trans rfl, (blk_cell BK190.out 0).trans rfl, (blk_cell BK190.out 1).trans rfl, (blk_cell BK190.out 2).trans rfl, (blk_cell BK190.out 3).trans rfl⟩ (fun hHeld => ?_)
          clear hK K
          refine norm_ (a' := ?_) ?_ ?_
          rotate_left
          · show Act.put _ (some 20) _ = _
            simp only [Act.put, List.setIfInBounds_toArray, List.set_cons_zero, List.set_cons_succ, i64_w, i32_w]
            rfl
          refine one_ (i := 3) (N := some 22) #[true, true, true, true, false, false, false, false, false, false, false, false] rfl rfl (one_of HT_.out (by kernel_rfl)) (by decide) (fun K hK => ?_)
          refine goes_ Try.func16 (by kernel_rfl) rfl #[.agg #[.int .i64 a0_0, .int .i64 a0_1, .string a0_2, .slice A0_3 l0_3.length c0_3]] (by rfl) rfl rfl (by (try simp only [List.map_toArray, List.map_cons, List.map_nil]); first | done | rfl | (simp only [List.length_drop, List.length_take]; rfl)) ?_
          with_reducible refine (vinculumref03_Valid.calls k a0_0 a0_1 a0_2 _ _ l0_3 t205 _ ?side1 ?side2 A21.out).mono ?_
          (case side1 => repeat (first | exact (Kd.C_below HR0_3.out HB.out) | (with_reducible refine Kd.C_alloc ?_ _) | (with_reducible refine Kd.C_drewN ?_ _) | (with_reducible refine Kd.C_drew ?_)))
          (case side2 => exact HC0_3.out)
          rintro e w30 ⟨rfl, hb⟩
          refine ⟨_, rfl, ?_⟩
          have n0_ := Aside0.mk (Kd.R_below (by (with_reducible repeat (first | apply Kd.R_alloc | apply Kd.R_drewN | apply Kd.R_drew)); exact HO198.out) hb)
          have n1_ := Aside0.mk (Kd.R_below (by (with_reducible repeat (first | apply Kd.R_alloc | apply Kd.R_drewN | apply Kd.R_drew)); exact HO202.out) hb)
          have n2_ := Aside0.mk (blk_below (g := gb190) (o := .cells #[.int .i64 a0_0, .int .i64 a0_1, .string a0_2, .slice A0_3 l0_3.length c0_3] 24 (0, 0)) (by (with_reducible repeat (first | refine blk_drewN ?_ _ | refine blk_drew ?_ | refine blk_alloc ?_ _)); exact BK190.out) hb)
          have n3_ := Aside0.mk (blk_below (g := gb199) (o := .cells #[.int .i64 t193, .int .i64 t194, .string t195, .slice Ao18 t196.length co18] 29 (0, 0)) (by (with_reducible repeat (first | refine blk_drewN ?_ _ | refine blk_drew ?_ | refine blk_alloc ?_ _)); exact BK199.out) hb)
          have n4_ := Aside0.mk (below_step (by repeat (first | (with_reducible first | exact HB.out | apply below_alloc | apply pw_below_drewN | apply below_drew1 | refine below_set ?_ GE190.out | refine below_set ?_ GE199.out) | exact HB.out)) hb)
          clear HO198
          clear HO202
          clear BK190
          clear BK199
          clear HB
          have HO198 := n0_
          have HO202 := n1_
          have BK190 := n2_
          have BK199 := n3_
          have HB := n4_
          clear n0_ n1_ n2_ n3_ n4_
          (try clear hb)
          (try clear hb2)
          (try clear hk)
          (try clear hi)
          refine hK.out _ _ ⟨(blk_cell BK199.out 0).trans rfl, (blk_cell BK199.out 1).trans rfl, (blk_cell BK199.out 2).trans rfl, (blk_cell BK199.out 3).trans rfl, (blk_cell BK190.out 0).trans rfl, (blk_cell BK190.out 1).trans rfl, (blk_cell BK190.out 2).trans rfl, (blk_cell BK190.out 3).trans rfl⟩ (fun hHeld => ?_)
          clear hK K
          refine norm_ (a' := ?_) ?_ ?_
          rotate_left
          · show Act.put _ (some 22) _ = _
            simp only [Act.put, List.setIfInBounds_toArray, List.set_cons_zero, List.set_cons_succ, i64_w, i32_w]
            rfl
          refine pure_ (i := 4) (N := some 23) (v := ?_) (a' := ?_) #[true, true, true, true, true, false, false, false, false, false, false, false] rfl rfl (any_of HT_.out (by kernel_rfl)) (fun _ _ _ h => h) (Or.inl ⟨by rfl, ?_⟩) ?_ ?_
          rotate_left
          · intro w'
            go_simp
            with_reducible rfl
          rotate_left
          · simp only [Act.put, List.setIfInBounds_toArray, List.set_cons_zero, List.set_cons_succ, i64_w, i32_w]
            rfl
          refine pure_ (i := 5) (N := some 24) (v := ?_) (a' := ?_) #[true, true, true, true, true, true, false, false, false, false, false, false] rfl rfl (any_of HT_.out (by kernel_rfl)) (fun _ _ _ h => h) (Or.inl ⟨by rfl, ?_⟩) ?_ ?_
          rotate_left
          · intro w'
            go_simp
            with_reducible rfl
          rotate_left
          · simp only [Act.put, List.setIfInBounds_toArray, List.set_cons_zero, List.set_cons_succ, i64_w, i32_w]
            rfl
          refine take_ (i := 6) (N := some 25) (v := ?_) (a' := ?_) #[true, true, true, true, true, true, true, false, false, false, false, false] rfl rfl (take_ofW HT_.out HW_.out (by kernel_rfl)) (fun _ _ _ h => h) (Or.inl ⟨by rfl, ?_⟩) hHeld ?_ ?_
          rotate_left
          · rintro w' ⟨s0, s1, s2, s3, s4, s5, s6, s7⟩
            go_simp
            with_reducible rfl
          rotate_left
          · simp only [Act.put, List.setIfInBounds_toArray, List.set_cons_zero, List.set_cons_succ, i64_w, i32_w]
            rfl
          refine take_ (i := 8) (N := some 27) (v := ?_) (a' := ?_) #[true, true, true, true, true, true, true, false, true, false, false, false] rfl rfl (take_ofW HT_.out HW_.out (by kernel_rfl)) (fun _ _ _ h => h) (Or.inl ⟨by rfl, ?_⟩) hHeld ?_ ?_
          rotate_left
          · rintro w' ⟨s0, s1, s2, s3, s4, s5, s6, s7⟩
            go_simp
            with_reducible rfl
          rotate_left
          · simp only [Act.put, List.setIfInBounds_toArray, List.set_cons_zero, List.set_cons_succ, i64_w, i32_w]
            rfl
          refine one_ (i := 7) (N := some 26) #[true, true, true, true, true, true, true, true, true, false, false, false] rfl rfl (one_of HT_.out (by kernel_rfl)) (by decide) (fun K hK => ?_)
          refine goes_ Try.func17 (by kernel_rfl) rfl #[.agg #[.int .i64 t193, .int .i64 t194, .string t195, .slice Ao18 t196.length co18]] (by rfl) rfl rfl (by (try simp only [List.map_toArray, List.map_cons, List.map_nil]); first | done | rfl | (simp only [List.length_drop, List.length_take]; rfl)) ?_
          with_reducible refine (codec_Depth.calls k t193 t194 t195 _ _ t196 t206 _ ?side1 ?side2 A26.out).mono ?_
          (case side1 => repeat (first | exact (Kd.R_reads' HO198.out).2.2 | (with_reducible refine Kd.C_alloc ?_ _) | (with_reducible refine Kd.C_drewN ?_ _) | (with_reducible refine Kd.C_drew ?_)))
          (case side2 => exact (Kd.R_reads' HO198.out).2.1)
          rintro e w31 ⟨rfl, hb⟩
          refine ⟨_, rfl, ?_⟩
          have n0_ := Aside0.mk (Kd.R_below (by (with_reducible repeat (first | apply Kd.R_alloc | apply Kd.R_drewN | apply Kd.R_drew)); exact HO198.out) hb)
          have n1_ := Aside0.mk (Kd.R_below (by (with_reducible repeat (first | apply Kd.R_alloc | apply Kd.R_drewN | apply Kd.R_drew)); exact HO202.out) hb)
          have n2_ := Aside0.mk (blk_below (g := gb190) (o := .cells #[.int .i64 a0_0, .int .i64 a0_1, .string a0_2, .slice A0_3 l0_3.length c0_3] 24 (0, 0)) (by (with_reducible repeat (first | refine blk_drewN ?_ _ | refine blk_drew ?_ | refine blk_alloc ?_ _)); exact BK190.out) hb)
          have n3_ := Aside0.mk (blk_below (g := gb199) (o := .cells #[.int .i64 t193, .int .i64 t194, .string t195, .slice Ao18 t196.length co18] 29 (0, 0)) (by (with_reducible repeat (first | refine blk_drewN ?_ _ | refine blk_drew ?_ | refine blk_alloc ?_ _)); exact BK199.out) hb)
          have n4_ := Aside0.mk (below_step (by repeat (first | (with_reducible first | exact HB.out | apply below_alloc | apply pw_below_drewN | apply below_drew1 | refine below_set ?_ GE190.out | refine below_set ?_ GE199.out) | exact HB.out)) hb)
          clear HO198
          clear HO202
          clear BK190
          clear BK199
          clear HB
          have HO198 := n0_
          have HO202 := n1_
          have BK190 := n2_
          have BK199 := n3_
          have HB := n4_
          clear n0_ n1_ n2_ n3_ n4_
          (try clear hb)
          (try clear hb2)
          (try clear hk)
          (try clear hi)
          refine hK.out _ _ ⟨(blk_cell BK199.out 0).trans rfl, (blk_cell BK199.out 1).trans rfl, (blk_cell BK199.out 2).trans rfl, (blk_cell BK199.out 3).trans rfl, (blk_cell BK190.out 0).trans rfl, (blk_cell BK190.out 1).trans rfl, (blk_cell BK190.out 2).trans rfl, (blk_cell BK190.out 3).trans rfl⟩ (fun hHeld => ?_)
          clear hK K
          refine norm_ (a' := ?_) ?_ ?_
          rotate_left
          · show Act.put _ (some 26) _ = _
            simp only [Act.put, List.setIfInBounds_toArray, List.set_cons_zero, List.set_cons_succ, i64_w, i32_w]
            rfl
          refine one_ (i := 9) (N := some 28) #[true, true, true, true, true, true, true, true, true, true, false, false] rfl rfl (one_of HT_.out (by kernel_rfl)) (by decide) (fun K hK => ?_)
          refine goes_ Try.func18 (by kernel_rfl) rfl #[.agg #[.int .i64 a0_0, .int .i64 a0_1, .string a0_2, .slice A0_3 l0_3.length c0_3]] (by rfl) rfl rfl (by (try simp only [List.map_toArray, List.map_cons, List.map_nil]); first | done | rfl | (simp only [List.length_drop, List.length_take]; rfl)) ?_
          with_reducible refine (vinculumref03_Depth.calls k a0_0 a0_1 a0_2 _ _ l0_3 t207 _ ?side1 ?side2 A27.out).mono ?_
          (case side1 => repeat (first | exact (Kd.C_below HR0_3.out HB.out) | (with_reducible refine Kd.C_alloc ?_ _) | (with_reducible refine Kd.C_drewN ?_ _) | (with_reducible refine Kd.C_drew ?_)))
          (case side2 => exact HC0_3.out)
          rintro e w32 ⟨rfl, hb⟩
          refine ⟨_, rfl, ?_⟩
          have n0_ := Aside0.mk (Kd.R_below (by (with_reducible repeat (first | apply Kd.R_alloc | apply Kd.R_drewN | apply Kd.R_drew)); exact HO198.out) hb)
          have n1_ := Aside0.mk (Kd.R_below (by (with_reducible repeat (first | apply Kd.R_alloc | apply Kd.R_drewN | apply Kd.R_drew)); exact HO202.out) hb)
          have n2_ := Aside0.mk (blk_below (g := gb190) (o := .cells #[.int .i64 a0_0, .int .i64 a0_1, .string a0_2, .slice A0_3 l0_3.length c0_3] 24 (0, 0)) (by (with_reducible repeat (first | refine blk_drewN ?_ _ | refine blk_drew ?_ | refine blk_alloc ?_ _)); exact BK190.out) hb)
          have n3_ := Aside0.mk (blk_below (g := gb199) (o := .cells #[.int .i64 t193, .int .i64 t194, .string t195, .slice Ao18 t196.length co18] 29 (0, 0)) (by (with_reducible repeat (first | refine blk_drewN ?_ _ | refine blk_drew ?_ | refine blk_alloc ?_ _)); exact BK199.out) hb)
          have n4_ := Aside0.mk (below_step (by repeat (first | (with_reducible first | exact HB.out | apply below_alloc | apply pw_below_drewN | apply below_drew1 | refine below_set ?_ GE190.out | refine below_set ?_ GE199.out) | exact HB.out)) hb)
          clear HO198
          clear HO202
          clear BK190
          clear BK199
          clear HB
          have HO198 := n0_
          have HO202 := n1_
          have BK190 := n2_
          have BK199 := n3_
          have HB := n4_
          clear n0_ n1_ n2_ n3_ n4_
          (try clear hb)
          (try clear hb2)
          (try clear hk)
          (try clear hi)
          refine hK.out _ _ ⟨(blk_cell BK199.out 0).trans rfl, (blk_cell BK199.out 1).trans rfl, (blk_cell BK199.out 2).trans rfl, (blk_cell BK199.out 3).trans rfl, (blk_cell BK190.out 0).trans rfl, (blk_cell BK190.out 1).trans rfl, (blk_cell BK190.out 2).trans rfl, (blk_cell BK190.out 3).trans rfl⟩ (fun hHeld => ?_)
          clear hK K
          refine norm_ (a' := ?_) ?_ ?_
          rotate_left
          · show Act.put _ (some 28) _ = _
            simp only [Act.put, List.setIfInBounds_toArray, List.set_cons_zero, List.set_cons_succ, i64_w, i32_w]
            rfl
          refine pure_ (i := 10) (N := some 29) (v := ?_) (a' := ?_) #[true, true, true, true, true, true, true, true, true, true, true, false] rfl rfl (any_of HT_.out (by kernel_rfl)) (fun _ _ _ h => h) (Or.inl ⟨by rfl, ?_⟩) ?_ ?_
          rotate_left
          · intro w'
            go_simp
            with_reducible rfl
          rotate_left
          · simp only [Act.put, List.setIfInBounds_toArray, List.set_cons_zero, List.set_cons_succ, i64_w, i32_w]
            rfl
          refine pure_ (i := 11) (N := some 30) (v := ?_) (a' := ?_) #[true, true, true, true, true, true, true, true, true, true, true, true] rfl rfl (any_of HT_.out (by kernel_rfl)) (fun _ _ _ h => h) (Or.inl ⟨by rfl, ?_⟩) ?_ ?_
          rotate_left
          · intro w'
            go_simp
            with_reducible rfl
          rotate_left
          · simp only [Act.put, List.setIfInBounds_toArray, List.set_cons_zero, List.set_cons_succ, i64_w, i32_w]
            rfl
          refine done_ (done_of HT_.out (by kernel_rfl)) ?_
          try go_wp2
          go_meet
          case rel => exact ⟨_, ((t206 != t207)), (by first | rfl | (simp; done) | (simp [*]; done) | (simp [ne_nil_bool]; done)), H', ⟨by first | omega | exact Nat.le_refl _⟩, ⟨by (with_reducible repeat (first | apply Kd.R_alloc | apply Kd.R_drewN | apply Kd.R_drew)); exact HO202.out⟩, ⟨by (with_reducible repeat (first | apply Kd.R_alloc | apply Kd.R_drewN | apply Kd.R_drew)); exact Kd.R_mono HO198.out (fun _ hk => hk.2)⟩, ⟨by (with_reducible repeat (first | refine blk_drewN ?_ _ | refine blk_drew ?_ | refine blk_alloc ?_ _)); exact BK190.out⟩, ⟨by (with_reducible repeat (first | refine blk_drewN ?_ _ | refine blk_drew ?_ | refine blk_alloc ?_ _)); exact BK199.out⟩, ⟨by repeat (first | (with_reducible first | exact HB.out | apply below_alloc | apply pw_below_drewN | apply below_drew1 | refine below_set ?_ GE190.out | refine below_set ?_ GE199.out) | exact HB.out)⟩⟩
      case rest =>
        clear HC8
        try clear c1
        try clear c2
        try clear p2
        try clear c3
        try clear c5
        try clear c11
        try clear c12
        try clear c13
        try clear c14
        try clear c15
        try clear c16
        try clear c17
        try clear c18
        try clear c22
        try clear c22b0
        try clear c22b1
        try clear c22b2
        try clear hcz11_0
        try clear hcz11_1
        try clear hcz11_2
        try clear hcz11_3
        try clear hcz13_0
        try clear hcz13_1
        try clear hcz13_2
        try clear hcz13_3
        try clear hcz17_0
        try clear hcz17_1
        try clear hcz17_2
        try clear hcz17_3
        try clear hfz11_0
        try clear hfz11_1
        try clear hfz11_2
        try clear hfz11_3
        try clear hfz13_0
        try clear hfz13_1
        try clear hfz13_2
        try clear hfz13_3
        try clear hfz17_0
        try clear hfz17_1
        try clear hfz17_2
        try clear hfz17_3
        obtain ⟨kq, x30_7, rfl, HA, HJ7, HO_4, HO_200003, BK190, BK199, HB⟩ := hcut
        cases kq with
        | zero => exact absurd HA.out (by simp [vinculumlaw03_CodecEncodes.j0])
        | succ kj7 =>
          have H := HA.out
          clear HA
          simp only [vinculumlaw03_CodecEncodes.j0] at H
          by_cases c33 : x30_7 = true
          · subst c33
            have H1 : (some false) = some r := by rw [if_pos rfl] at H; exact H
            clear H
            have H := H1
            clear H1
            obtain rfl := Option.some.inj H
            go_wp2
            go_ret
            exact ⟨by first | rfl | (simp [errW_none, errW_some] <;> rfl) | (simp [*, errW_none, errW_some] <;> rfl), by repeat (first | (with_reducible first | exact HB.out | apply below_alloc | apply pw_below_drewN | apply below_drew1 | refine below_set ?_ GE190.out | refine below_set ?_ GE199.out) | exact HB.out)⟩
          · replace c33 := Bool.eq_false_iff.mpr c33
            subst c33
            have H1 : ((vinculumref03_Valid.f kj7 a0_0 a0_1 a0_2 l0_3).bind fun t208 => (if t208 = true then ((vinculumref03_Encode.f kj7 a0_0 a0_1 a0_2 l0_3).bind fun t209 => (if (t209.length : Int) > 1048576 then (if t203 = 6 then (some ((t200.length : Int) == 0)) else (some false)) else (if t203 = 0 then (some ((strOfNums t200).toList == (strOfNums t209).toList)) else (some false)))) else (if t203 = 1 then (some ((t200.length : Int) == 0)) else (some false)))) = some r := by rw [if_neg (show ¬ (false = true) by decide)] at H; exact H
            clear H
            have H := H1
            clear H1
            replace H := Option.bind_eq_some_iff.mp H
            obtain ⟨t208, A340, H⟩ := H
            replace H : (if t208 = true then ((vinculumref03_Encode.f kj7 a0_0 a0_1 a0_2 l0_3).bind fun t209 => (if (t209.length : Int) > 1048576 then (if t203 = 6 then (some ((t200.length : Int) == 0)) else (some false)) else (if t203 = 0 then (some ((strOfNums t200).toList == (strOfNums t209).toList)) else (some false)))) else (if t203 = 1 then (some ((t200.length : Int) == 0)) else (some false))) = some r := H
            have A34 := Aside0.mk A340
            clear A340
            by_cases c35 : t208 = true
            · subst c35
              have H1 : ((vinculumref03_Encode.f kj7 a0_0 a0_1 a0_2 l0_3).bind fun t209 => (if (t209.length : Int) > 1048576 then (if t203 = 6 then (some ((t200.length : Int) == 0)) else (some false)) else (if t203 = 0 then (some ((strOfNums t200).toList == (strOfNums t209).toList)) else (some false)))) = some r := by rw [if_pos rfl] at H; exact H
              clear H
              have H := H1
              clear H1
              replace H := Option.bind_eq_some_iff.mp H
              obtain ⟨t209, A360, H⟩ := H
              replace H : (if (t209.length : Int) > 1048576 then (if t203 = 6 then (some ((t200.length : Int) == 0)) else (some false)) else (if t203 = 0 then (some ((strOfNums t200).toList == (strOfNums t209).toList)) else (some false))) = some r := H
              have A36 := Aside0.mk A360
              clear A360
              by_cases c37 : (t209.length : Int) > 1048576
              · rw [if_pos c37] at H
                have c37b0 : decide (1048576 < (t209.length : Int)) = true := decide_eq_true c37
                have c37b1 : decide (1048576 < t209.length) = true := decide_eq_true (by omega)
                clear c37
                by_cases c38 : t203 = 6
                · rw [if_pos c38] at H
                  have c38b0 : (t203 == 6) = true := beq_iff_eq.mpr c38
                  have c38b1 : (t203 != 6) = false := bne_eq_false_iff_eq.mpr c38
                  clear c38
                  obtain rfl := Option.some.inj H
                  have hnb39 := NB190_199.out
                  have hnc39 := NB199_190.out
                  have hcz40_0 : wc.cell? ⟨gb190, 0, none⟩ = some (.int .i64 a0_0) := (blk_cell BK190.out 0).trans rfl
                  have hcz40_1 : wc.cell? ⟨gb190, 1, none⟩ = some (.int .i64 a0_1) := (blk_cell BK190.out 1).trans rfl
                  have hcz40_2 : wc.cell? ⟨gb190, 2, none⟩ = some (.string a0_2) := (blk_cell BK190.out 2).trans rfl
                  have hcz40_3 : wc.cell? ⟨gb190, 3, none⟩ = some (.slice A0_3 l0_3.length c0_3) := (blk_cell BK190.out 3).trans rfl
                  have hfz40_0 := blk_frozen BK190.out 0
                  have hfz40_1 := blk_frozen BK190.out 1
                  have hfz40_2 := blk_frozen BK190.out 2
                  have hfz40_3 := blk_frozen BK190.out 3
                  go_wp2_with (first | ((with_reducible refine gate_callee (f := 16) rfl ?_); refine goesL_ (some 32) rfl rfl Try.func16 (by kernel_rfl) rfl #[.agg #[.int .i64 a0_0, .int .i64 a0_1, .string a0_2, .slice A0_3 l0_3.length c0_3]] rfl (by (try simp only [List.map_toArray, List.map_cons, List.map_nil]); first | done | rfl | (simp only [List.length_drop, List.length_take]; rfl)) ?_; (with_reducible refine (vinculumref03_Valid.calls kj7 a0_0 a0_1 a0_2 _ _ l0_3 true _ ?side1 ?side2 A34.out).mono ?_); (case side1 => repeat (first | exact (Kd.C_below HR0_3.out HB.out) | (with_reducible refine Kd.C_alloc ?_ _) | (with_reducible refine Kd.C_drewN ?_ _) | (with_reducible refine Kd.C_drew ?_))); (case side2 => exact HC0_3.out); rintro e w41 ⟨rfl, hb⟩; refine ⟨_, rfl, ?_⟩; have n0_ := Aside0.mk (Kd.R_below (by (with_reducible repeat (first | apply Kd.R_alloc | apply Kd.R_drewN | apply Kd.R_drew)); exact HO_4.out) hb); have n1_ := Aside0.mk (Kd.R_below (by (with_reducible repeat (first | apply Kd.R_alloc | apply Kd.R_drewN | apply Kd.R_drew)); exact HO_200003.out) hb); have n2_ := Aside0.mk (blk_below (g := gb190) (o := .cells #[.int .i64 a0_0, .int .i64 a0_1, .string a0_2, .slice A0_3 l0_3.length c0_3] 24 (0, 0)) (by (with_reducible repeat (first | refine blk_drewN ?_ _ | refine blk_drew ?_ | refine blk_alloc ?_ _)); exact BK190.out) hb); have n3_ := Aside0.mk (blk_below (g := gb199) (o := .cells #[.int .i64 t193, .int .i64 t194, .string t195, .slice Ao18 t196.length co18] 29 (0, 0)) (by (with_reducible repeat (first | refine blk_drewN ?_ _ | refine blk_drew ?_ | refine blk_alloc ?_ _)); exact BK199.out) hb); have n4_ := Aside0.mk (below_step (by repeat (first | (with_reducible first | exact HB.out | apply below_alloc | apply pw_below_drewN | apply below_drew1 | refine below_set ?_ GE190.out | refine below_set ?_ GE199.out) | exact HB.out)) hb); clear HO_4; clear HO_200003; clear BK190; clear BK199; clear HB; have HO_4 := n0_; have HO_200003 := n1_; have BK190 := n2_; have BK199 := n3_; have HB := n4_; clear n0_ n1_ n2_ n3_ n4_; (try clear hb); (try clear hb2); (try clear hk); (try clear hi); have hcz42_0 : w41.cell? ⟨gb190, 0, none⟩ = some (.int .i64 a0_0) := (blk_cell BK190.out 0).trans rfl; have hcz42_1 : w41.cell? ⟨gb190, 1, none⟩ = some (.int .i64 a0_1) := (blk_cell BK190.out 1).trans rfl; have hcz42_2 : w41.cell? ⟨gb190, 2, none⟩ = some (.string a0_2) := (blk_cell BK190.out 2).trans rfl; have hcz42_3 : w41.cell? ⟨gb190, 3, none⟩ = some (.slice A0_3 l0_3.length c0_3) := (blk_cell BK190.out 3).trans rfl; have hfz42_0 := blk_frozen BK190.out 0; have hfz42_1 := blk_frozen BK190.out 1; have hfz42_2 := blk_frozen BK190.out 2; have hfz42_3 := blk_frozen BK190.out 3) | ((with_reducible refine gate_callee (f := 19) rfl ?_); refine goesL_ (some 42) rfl rfl Try.func19 (by kernel_rfl) rfl #[.agg #[.int .i64 a0_0, .int .i64 a0_1, .string a0_2, .slice A0_3 l0_3.length c0_3]] rfl (by (try simp only [List.map_toArray, List.map_cons, List.map_nil]); first | done | rfl | (simp only [List.length_drop, List.length_take]; rfl)) ?_; (with_reducible refine (vinculumref03_Encode.calls kj7 a0_0 a0_1 a0_2 _ _ l0_3 t209 _ ?side1 ?side2 A36.out).mono ?_); (case side1 => repeat (first | exact (Kd.C_below HR0_3.out HB.out) | (with_reducible refine Kd.C_alloc ?_ _) | (with_reducible refine Kd.C_drewN ?_ _) | (with_reducible refine Kd.C_drew ?_))); (case side2 => exact HC0_3.out); rintro e w43 ⟨v210, rfl, ho0, hb⟩; refine ⟨_, rfl, ?_⟩; have n0_ := Aside0.mk (Kd.R_elder' (by (with_reducible repeat (first | apply Kd.R_alloc | apply Kd.R_drewN | apply Kd.R_drew)); exact HO_4.out) (Kd.R_base ho0) hb); have n1_ := Aside0.mk (Kd.R_below (by (with_reducible repeat (first | apply Kd.R_alloc | apply Kd.R_drewN | apply Kd.R_drew)); exact HO_200003.out) hb); have n2_ := Aside0.mk (Kd.R_lower (Kd.R_new' ho0 (Kd.R_lt (by (with_reducible repeat (first | apply Kd.R_alloc | apply Kd.R_drewN | apply Kd.R_drew)); exact HO_4.out))) (below_size (by repeat (first | (with_reducible first | exact HB.out | apply below_alloc | apply pw_below_drewN | apply below_drew1 | refine below_set ?_ GE190.out | refine below_set ?_ GE199.out) | exact HB.out)))); have n3_ := Aside0.mk (blk_below (g := gb190) (o := .cells #[.int .i64 a0_0, .int .i64 a0_1, .string a0_2, .slice A0_3 l0_3.length c0_3] 24 (0, 0)) (by (with_reducible repeat (first | refine blk_drewN ?_ _ | refine blk_drew ?_ | refine blk_alloc ?_ _)); exact BK190.out) hb); have n4_ := Aside0.mk (blk_below (g := gb199) (o := .cells #[.int .i64 t193, .int .i64 t194, .string t195, .slice Ao18 t196.length co18] 29 (0, 0)) (by (with_reducible repeat (first | refine blk_drewN ?_ _ | refine blk_drew ?_ | refine blk_alloc ?_ _)); exact BK199.out) hb); have n5_ := Aside0.mk (below_step (by repeat (first | (with_reducible first | exact HB.out | apply below_alloc | apply pw_below_drewN | apply below_drew1 | refine below_set ?_ GE190.out | refine below_set ?_ GE199.out) | exact HB.out)) hb); clear HO_4; clear HO_200003; clear BK190; clear BK199; clear HB; have HO_4 := n0_; have HO_200003 := n1_; have HO211 := n2_; have BK190 := n3_; have BK199 := n4_; have HB := n5_; clear n0_ n1_ n2_ n3_ n4_ n5_; (try clear hb); (try clear hb2); (try clear hk); (try clear hi); (try clear ho0); obtain ⟨Ao44, co44, eo44⟩ := Kd.R_slice HO211.out; subst eo44; obtain ⟨Ao45, co45, eo45⟩ := Kd.R_slice HO_4.out; subst eo45))
                  go_ret
                  exact ⟨by first | rfl | (simp [errW_none, errW_some] <;> rfl) | (simp [*, errW_none, errW_some] <;> rfl), by repeat (first | (with_reducible first | exact HB.out | apply below_alloc | apply pw_below_drewN | apply below_drew1 | refine below_set ?_ GE190.out | refine below_set ?_ GE199.out) | exact HB.out)⟩
                · rw [if_neg c38] at H
                  have c38b0 : (t203 == 6) = false := beq_eq_false_iff_ne.mpr c38
                  have c38b1 : (t203 != 6) = true := bne_iff_ne.mpr c38
                  obtain rfl := Option.some.inj H
                  have hnb46 := NB190_199.out
                  have hnc46 := NB199_190.out
                  have hcz47_0 : wc.cell? ⟨gb190, 0, none⟩ = some (.int .i64 a0_0) := (blk_cell BK190.out 0).trans rfl
                  have hcz47_1 : wc.cell? ⟨gb190, 1, none⟩ = some (.int .i64 a0_1) := (blk_cell BK190.out 1).trans rfl
                  have hcz47_2 : wc.cell? ⟨gb190, 2, none⟩ = some (.string a0_2) := (blk_cell BK190.out 2).trans rfl
                  have hcz47_3 : wc.cell? ⟨gb190, 3, none⟩ = some (.slice A0_3 l0_3.length c0_3) := (blk_cell BK190.out 3).trans rfl
                  have hfz47_0 := blk_frozen BK190.out 0
                  have hfz47_1 := blk_frozen BK190.out 1
                  have hfz47_2 := blk_frozen BK190.out 2
                  have hfz47_3 := blk_frozen BK190.out 3
                  go_wp2_with (first | ((with_reducible refine gate_callee (f := 16) rfl ?_); refine goesL_ (some 32) rfl rfl Try.func16 (by kernel_rfl) rfl #[.agg #[.int .i64 a0_0, .int .i64 a0_1, .string a0_2, .slice A0_3 l0_3.length c0_3]] rfl (by (try simp only [List.map_toArray, List.map_cons, List.map_nil]); first | done | rfl | (simp only [List.length_drop, List.length_take]; rfl)) ?_; (with_reducible refine (vinculumref03_Valid.calls kj7 a0_0 a0_1 a0_2 _ _ l0_3 true _ ?side1 ?side2 A34.out).mono ?_); (case side1 => repeat (first | exact (Kd.C_below HR0_3.out HB.out) | (with_reducible refine Kd.C_alloc ?_ _) | (with_reducible refine Kd.C_drewN ?_ _) | (with_reducible refine Kd.C_drew ?_))); (case side2 => exact HC0_3.out); rintro e w48 ⟨rfl, hb⟩; refine ⟨_, rfl, ?_⟩; have n0_ := Aside0.mk (Kd.R_below (by (with_reducible repeat (first | apply Kd.R_alloc | apply Kd.R_drewN | apply Kd.R_drew)); exact HO_4.out) hb); have n1_ := Aside0.mk (Kd.R_below (by (with_reducible repeat (first | apply Kd.R_alloc | apply Kd.R_drewN | apply Kd.R_drew)); exact HO_200003.out) hb); have n2_ := Aside0.mk (blk_below (g := gb190) (o := .cells #[.int .i64 a0_0, .int .i64 a0_1, .string a0_2, .slice A0_3 l0_3.length c0_3] 24 (0, 0)) (by (with_reducible repeat (first | refine blk_drewN ?_ _ | refine blk_drew ?_ | refine blk_alloc ?_ _)); exact BK190.out) hb); have n3_ := Aside0.mk (blk_below (g := gb199) (o := .cells #[.int .i64 t193, .int .i64 t194, .string t195, .slice Ao18 t196.length co18] 29 (0, 0)) (by (with_reducible repeat (first | refine blk_drewN ?_ _ | refine blk_drew ?_ | refine blk_alloc ?_ _)); exact BK199.out) hb); have n4_ := Aside0.mk (below_step (by repeat (first | (with_reducible first | exact HB.out | apply below_alloc | apply pw_below_drewN | apply below_drew1 | refine below_set ?_ GE190.out | refine below_set ?_ GE199.out) | exact HB.out)) hb); clear HO_4; clear HO_200003; clear BK190; clear BK199; clear HB; have HO_4 := n0_; have HO_200003 := n1_; have BK190 := n2_; have BK199 := n3_; have HB := n4_; clear n0_ n1_ n2_ n3_ n4_; (try clear hb); (try clear hb2); (try clear hk); (try clear hi); have hcz49_0 : w48.cell? ⟨gb190, 0, none⟩ = some (.int .i64 a0_0) := (blk_cell BK190.out 0).trans rfl; have hcz49_1 : w48.cell? ⟨gb190, 1, none⟩ = some (.int .i64 a0_1) := (blk_cell BK190.out 1).trans rfl; have hcz49_2 : w48.cell? ⟨gb190, 2, none⟩ = some (.string a0_2) := (blk_cell BK190.out 2).trans rfl; have hcz49_3 : w48.cell? ⟨gb190, 3, none⟩ = some (.slice A0_3 l0_3.length c0_3) := (blk_cell BK190.out 3).trans rfl; have hfz49_0 := blk_frozen BK190.out 0; have hfz49_1 := blk_frozen BK190.out 1; have hfz49_2 := blk_frozen BK190.out 2; have hfz49_3 := blk_frozen BK190.out 3) | ((with_reducible refine gate_callee (f := 19) rfl ?_); refine goesL_ (some 42) rfl rfl Try.func19 (by kernel_rfl) rfl #[.agg #[.int .i64 a0_0, .int .i64 a0_1, .string a0_2, .slice A0_3 l0_3.length c0_3]] rfl (by (try simp only [List.map_toArray, List.map_cons, List.map_nil]); first | done | rfl | (simp only [List.length_drop, List.length_take]; rfl)) ?_; (with_reducible refine (vinculumref03_Encode.calls kj7 a0_0 a0_1 a0_2 _ _ l0_3 t209 _ ?side1 ?side2 A36.out).mono ?_); (case side1 => repeat (first | exact (Kd.C_below HR0_3.out HB.out) | (with_reducible refine Kd.C_alloc ?_ _) | (with_reducible refine Kd.C_drewN ?_ _) | (with_reducible refine Kd.C_drew ?_))); (case side2 => exact HC0_3.out); rintro e w50 ⟨v210, rfl, ho0, hb⟩; refine ⟨_, rfl, ?_⟩; have n0_ := Aside0.mk (Kd.R_elder' (by (with_reducible repeat (first | apply Kd.R_alloc | apply Kd.R_drewN | apply Kd.R_drew)); exact HO_4.out) (Kd.R_base ho0) hb); have n1_ := Aside0.mk (Kd.R_below (by (with_reducible repeat (first | apply Kd.R_alloc | apply Kd.R_drewN | apply Kd.R_drew)); exact HO_200003.out) hb); have n2_ := Aside0.mk (Kd.R_lower (Kd.R_new' ho0 (Kd.R_lt (by (with_reducible repeat (first | apply Kd.R_alloc | apply Kd.R_drewN | apply Kd.R_drew)); exact HO_4.out))) (below_size (by repeat (first | (with_reducible first | exact HB.out | apply below_alloc | apply pw_below_drewN | apply below_drew1 | refine below_set ?_ GE190.out | refine below_set ?_ GE199.out) | exact HB.out)))); have n3_ := Aside0.mk (blk_below (g := gb190) (o := .cells #[.int .i64 a0_0, .int .i64 a0_1, .string a0_2, .slice A0_3 l0_3.length c0_3] 24 (0, 0)) (by (with_reducible repeat (first | refine blk_drewN ?_ _ | refine blk_drew ?_ | refine blk_alloc ?_ _)); exact BK190.out) hb); have n4_ := Aside0.mk (blk_below (g := gb199) (o := .cells #[.int .i64 t193, .int .i64 t194, .string t195, .slice Ao18 t196.length co18] 29 (0, 0)) (by (with_reducible repeat (first | refine blk_drewN ?_ _ | refine blk_drew ?_ | refine blk_alloc ?_ _)); exact BK199.out) hb); have n5_ := Aside0.mk (below_step (by repeat (first | (with_reducible first | exact HB.out | apply below_alloc | apply pw_below_drewN | apply below_drew1 | refine below_set ?_ GE190.out | refine below_set ?_ GE199.out) | exact HB.out)) hb); clear HO_4; clear HO_200003; clear BK190; clear BK199; clear HB; have HO_4 := n0_; have HO_200003 := n1_; have HO211 := n2_; have BK190 := n3_; have BK199 := n4_; have HB := n5_; clear n0_ n1_ n2_ n3_ n4_ n5_; (try clear hb); (try clear hb2); (try clear hk); (try clear hi); (try clear ho0); obtain ⟨Ao51, co51, eo51⟩ := Kd.R_slice HO211.out; subst eo51))
                  go_ret
                  exact ⟨by first | rfl | (simp [errW_none, errW_some] <;> rfl) | (simp [*, errW_none, errW_some] <;> rfl), by repeat (first | (with_reducible first | exact HB.out | apply below_alloc | apply pw_below_drewN | apply below_drew1 | refine below_set ?_ GE190.out | refine below_set ?_ GE199.out) | exact HB.out)⟩
              · rw [if_neg c37] at H
                have c37b0 : decide (1048576 < (t209.length : Int)) = false := decide_eq_false c37
                have c37b1 : decide (1048576 < t209.length) = false := decide_eq_false (by omega)
                clear c37
                by_cases c52 : t203 = 0
                · rw [if_pos c52] at H
                  have c52b0 : (t203 == 0) = true := beq_iff_eq.mpr c52
                  have c52b1 : (t203 != 0) = false := bne_eq_false_iff_eq.mpr c52
                  clear c52
                  obtain rfl := Option.some.inj H
                  have hnb53 := NB190_199.out
                  have hnc53 := NB199_190.out
                  have hcz54_0 : wc.cell? ⟨gb190, 0, none⟩ = some (.int .i64 a0_0) := (blk_cell BK190.out 0).trans rfl
                  have hcz54_1 : wc.cell? ⟨gb190, 1, none⟩ = some (.int .i64 a0_1) := (blk_cell BK190.out 1).trans rfl
                  have hcz54_2 : wc.cell? ⟨gb190, 2, none⟩ = some (.string a0_2) := (blk_cell BK190.out 2).trans rfl
                  have hcz54_3 : wc.cell? ⟨gb190, 3, none⟩ = some (.slice A0_3 l0_3.length c0_3) := (blk_cell BK190.out 3).trans rfl
                  have hfz54_0 := blk_frozen BK190.out 0
                  have hfz54_1 := blk_frozen BK190.out 1
                  have hfz54_2 := blk_frozen BK190.out 2
                  have hfz54_3 := blk_frozen BK190.out 3
                  go_wp2_with (first | ((with_reducible refine gate_callee (f := 16) rfl ?_); refine goesL_ (some 32) rfl rfl Try.func16 (by kernel_rfl) rfl #[.agg #[.int .i64 a0_0, .int .i64 a0_1, .string a0_2, .slice A0_3 l0_3.length c0_3]] rfl (by (try simp only [List.map_toArray, List.map_cons, List.map_nil]); first | done | rfl | (simp only [List.length_drop, List.length_take]; rfl)) ?_; (with_reducible refine (vinculumref03_Valid.calls kj7 a0_0 a0_1 a0_2 _ _ l0_3 true _ ?side1 ?side2 A34.out).mono ?_); (case side1 => repeat (first | exact (Kd.C_below HR0_3.out HB.out) | (with_reducible refine Kd.C_alloc ?_ _) | (with_reducible refine Kd.C_drewN ?_ _) | (with_reducible refine Kd.C_drew ?_))); (case side2 => exact HC0_3.out); rintro e w55 ⟨rfl, hb⟩; refine ⟨_, rfl, ?_⟩; have n0_ := Aside0.mk (Kd.R_below (by (with_reducible repeat (first | apply Kd.R_alloc | apply Kd.R_drewN | apply Kd.R_drew)); exact HO_4.out) hb); have n1_ := Aside0.mk (Kd.R_below (by (with_reducible repeat (first | apply Kd.R_alloc | apply Kd.R_drewN | apply Kd.R_drew)); exact HO_200003.out) hb); have n2_ := Aside0.mk (blk_below (g := gb190) (o := .cells #[.int .i64 a0_0, .int .i64 a0_1, .string a0_2, .slice A0_3 l0_3.length c0_3] 24 (0, 0)) (by (with_reducible repeat (first | refine blk_drewN ?_ _ | refine blk_drew ?_ | refine blk_alloc ?_ _)); exact BK190.out) hb); have n3_ := Aside0.mk (blk_below (g := gb199) (o := .cells #[.int .i64 t193, .int .i64 t194, .string t195, .slice Ao18 t196.length co18] 29 (0, 0)) (by (with_reducible repeat (first | refine blk_drewN ?_ _ | refine blk_drew ?_ | refine blk_alloc ?_ _)); exact BK199.out) hb); have n4_ := Aside0.mk (below_step (by repeat (first | (with_reducible first | exact HB.out | apply below_alloc | apply pw_below_drewN | apply below_drew1 | refine below_set ?_ GE190.out | refine below_set ?_ GE199.out) | exact HB.out)) hb); clear HO_4; clear HO_200003; clear BK190; clear BK199; clear HB; have HO_4 := n0_; have HO_200003 := n1_; have BK190 := n2_; have BK199 := n3_; have HB := n4_; clear n0_ n1_ n2_ n3_ n4_; (try clear hb); (try clear hb2); (try clear hk); (try clear hi); have hcz56_0 : w55.cell? ⟨gb190, 0, none⟩ = some (.int .i64 a0_0) := (blk_cell BK190.out 0).trans rfl; have hcz56_1 : w55.cell? ⟨gb190, 1, none⟩ = some (.int .i64 a0_1) := (blk_cell BK190.out 1).trans rfl; have hcz56_2 : w55.cell? ⟨gb190, 2, none⟩ = some (.string a0_2) := (blk_cell BK190.out 2).trans rfl; have hcz56_3 : w55.cell? ⟨gb190, 3, none⟩ = some (.slice A0_3 l0_3.length c0_3) := (blk_cell BK190.out 3).trans rfl; have hfz56_0 := blk_frozen BK190.out 0; have hfz56_1 := blk_frozen BK190.out 1; have hfz56_2 := blk_frozen BK190.out 2; have hfz56_3 := blk_frozen BK190.out 3) | ((with_reducible refine gate_callee (f := 19) rfl ?_); refine goesL_ (some 42) rfl rfl Try.func19 (by kernel_rfl) rfl #[.agg #[.int .i64 a0_0, .int .i64 a0_1, .string a0_2, .slice A0_3 l0_3.length c0_3]] rfl (by (try simp only [List.map_toArray, List.map_cons, List.map_nil]); first | done | rfl | (simp only [List.length_drop, List.length_take]; rfl)) ?_; (with_reducible refine (vinculumref03_Encode.calls kj7 a0_0 a0_1 a0_2 _ _ l0_3 t209 _ ?side1 ?side2 A36.out).mono ?_); (case side1 => repeat (first | exact (Kd.C_below HR0_3.out HB.out) | (with_reducible refine Kd.C_alloc ?_ _) | (with_reducible refine Kd.C_drewN ?_ _) | (with_reducible refine Kd.C_drew ?_))); (case side2 => exact HC0_3.out); rintro e w57 ⟨v210, rfl, ho0, hb⟩; refine ⟨_, rfl, ?_⟩; have n0_ := Aside0.mk (Kd.R_elder' (by (with_reducible repeat (first | apply Kd.R_alloc | apply Kd.R_drewN | apply Kd.R_drew)); exact HO_4.out) (Kd.R_base ho0) hb); have n1_ := Aside0.mk (Kd.R_below (by (with_reducible repeat (first | apply Kd.R_alloc | apply Kd.R_drewN | apply Kd.R_drew)); exact HO_200003.out) hb); have n2_ := Aside0.mk (Kd.R_lower (Kd.R_new' ho0 (Kd.R_lt (by (with_reducible repeat (first | apply Kd.R_alloc | apply Kd.R_drewN | apply Kd.R_drew)); exact HO_4.out))) (below_size (by repeat (first | (with_reducible first | exact HB.out | apply below_alloc | apply pw_below_drewN | apply below_drew1 | refine below_set ?_ GE190.out | refine below_set ?_ GE199.out) | exact HB.out)))); have n3_ := Aside0.mk (blk_below (g := gb190) (o := .cells #[.int .i64 a0_0, .int .i64 a0_1, .string a0_2, .slice A0_3 l0_3.length c0_3] 24 (0, 0)) (by (with_reducible repeat (first | refine blk_drewN ?_ _ | refine blk_drew ?_ | refine blk_alloc ?_ _)); exact BK190.out) hb); have n4_ := Aside0.mk (blk_below (g := gb199) (o := .cells #[.int .i64 t193, .int .i64 t194, .string t195, .slice Ao18 t196.length co18] 29 (0, 0)) (by (with_reducible repeat (first | refine blk_drewN ?_ _ | refine blk_drew ?_ | refine blk_alloc ?_ _)); exact BK199.out) hb); have n5_ := Aside0.mk (below_step (by repeat (first | (with_reducible first | exact HB.out | apply below_alloc | apply pw_below_drewN | apply below_drew1 | refine below_set ?_ GE190.out | refine below_set ?_ GE199.out) | exact HB.out)) hb); clear HO_4; clear HO_200003; clear BK190; clear BK199; clear HB; have HO_4 := n0_; have HO_200003 := n1_; have HO211 := n2_; have BK190 := n3_; have BK199 := n4_; have HB := n5_; clear n0_ n1_ n2_ n3_ n4_ n5_; (try clear hb); (try clear hb2); (try clear hk); (try clear hi); (try clear ho0); obtain ⟨Ao58, co58, eo58⟩ := Kd.R_slice HO211.out; subst eo58; have hcv59 := own_string (P := Try.prog) Try.underlying31 Try.underlying5 Try.underlying9 (Kd.own_of_R HO_4.out); have hcv60 := own_string (P := Try.prog) Try.underlying31 Try.underlying5 Try.underlying9 (Kd.own_of_R HO211.out)))
                  go_ret
                  exact ⟨by first | rfl | (simp [errW_none, errW_some] <;> rfl) | (simp [*, errW_none, errW_some] <;> rfl), by repeat (first | (with_reducible first | exact HB.out | apply below_alloc | apply pw_below_drewN | apply below_drew1 | refine below_set ?_ GE190.out | refine below_set ?_ GE199.out) | exact HB.out)⟩
                · rw [if_neg c52] at H
                  have c52b0 : (t203 == 0) = false := beq_eq_false_iff_ne.mpr c52
                  have c52b1 : (t203 != 0) = true := bne_iff_ne.mpr c52
                  obtain rfl := Option.some.inj H
                  have hnb61 := NB190_199.out
                  have hnc61 := NB199_190.out
                  have hcz62_0 : wc.cell? ⟨gb190, 0, none⟩ = some (.int .i64 a0_0) := (blk_cell BK190.out 0).trans rfl
                  have hcz62_1 : wc.cell? ⟨gb190, 1, none⟩ = some (.int .i64 a0_1) := (blk_cell BK190.out 1).trans rfl
                  have hcz62_2 : wc.cell? ⟨gb190, 2, none⟩ = some (.string a0_2) := (blk_cell BK190.out 2).trans rfl
                  have hcz62_3 : wc.cell? ⟨gb190, 3, none⟩ = some (.slice A0_3 l0_3.length c0_3) := (blk_cell BK190.out 3).trans rfl
                  have hfz62_0 := blk_frozen BK190.out 0
                  have hfz62_1 := blk_frozen BK190.out 1
                  have hfz62_2 := blk_frozen BK190.out 2
                  have hfz62_3 := blk_frozen BK190.out 3
                  go_wp2_with (first | ((with_reducible refine gate_callee (f := 16) rfl ?_); refine goesL_ (some 32) rfl rfl Try.func16 (by kernel_rfl) rfl #[.agg #[.int .i64 a0_0, .int .i64 a0_1, .string a0_2, .slice A0_3 l0_3.length c0_3]] rfl (by (try simp only [List.map_toArray, List.map_cons, List.map_nil]); first | done | rfl | (simp only [List.length_drop, List.length_take]; rfl)) ?_; (with_reducible refine (vinculumref03_Valid.calls kj7 a0_0 a0_1 a0_2 _ _ l0_3 true _ ?side1 ?side2 A34.out).mono ?_); (case side1 => repeat (first | exact (Kd.C_below HR0_3.out HB.out) | (with_reducible refine Kd.C_alloc ?_ _) | (with_reducible refine Kd.C_drewN ?_ _) | (with_reducible refine Kd.C_drew ?_))); (case side2 => exact HC0_3.out); rintro e w63 ⟨rfl, hb⟩; refine ⟨_, rfl, ?_⟩; have n0_ := Aside0.mk (Kd.R_below (by (with_reducible repeat (first | apply Kd.R_alloc | apply Kd.R_drewN | apply Kd.R_drew)); exact HO_4.out) hb); have n1_ := Aside0.mk (Kd.R_below (by (with_reducible repeat (first | apply Kd.R_alloc | apply Kd.R_drewN | apply Kd.R_drew)); exact HO_200003.out) hb); have n2_ := Aside0.mk (blk_below (g := gb190) (o := .cells #[.int .i64 a0_0, .int .i64 a0_1, .string a0_2, .slice A0_3 l0_3.length c0_3] 24 (0, 0)) (by (with_reducible repeat (first | refine blk_drewN ?_ _ | refine blk_drew ?_ | refine blk_alloc ?_ _)); exact BK190.out) hb); have n3_ := Aside0.mk (blk_below (g := gb199) (o := .cells #[.int .i64 t193, .int .i64 t194, .string t195, .slice Ao18 t196.length co18] 29 (0, 0)) (by (with_reducible repeat (first | refine blk_drewN ?_ _ | refine blk_drew ?_ | refine blk_alloc ?_ _)); exact BK199.out) hb); have n4_ := Aside0.mk (below_step (by repeat (first | (with_reducible first | exact HB.out | apply below_alloc | apply pw_below_drewN | apply below_drew1 | refine below_set ?_ GE190.out | refine below_set ?_ GE199.out) | exact HB.out)) hb); clear HO_4; clear HO_200003; clear BK190; clear BK199; clear HB; have HO_4 := n0_; have HO_200003 := n1_; have BK190 := n2_; have BK199 := n3_; have HB := n4_; clear n0_ n1_ n2_ n3_ n4_; (try clear hb); (try clear hb2); (try clear hk); (try clear hi); have hcz64_0 : w63.cell? ⟨gb190, 0, none⟩ = some (.int .i64 a0_0) := (blk_cell BK190.out 0).trans rfl; have hcz64_1 : w63.cell? ⟨gb190, 1, none⟩ = some (.int .i64 a0_1) := (blk_cell BK190.out 1).trans rfl; have hcz64_2 : w63.cell? ⟨gb190, 2, none⟩ = some (.string a0_2) := (blk_cell BK190.out 2).trans rfl; have hcz64_3 : w63.cell? ⟨gb190, 3, none⟩ = some (.slice A0_3 l0_3.length c0_3) := (blk_cell BK190.out 3).trans rfl; have hfz64_0 := blk_frozen BK190.out 0; have hfz64_1 := blk_frozen BK190.out 1; have hfz64_2 := blk_frozen BK190.out 2; have hfz64_3 := blk_frozen BK190.out 3) | ((with_reducible refine gate_callee (f := 19) rfl ?_); refine goesL_ (some 42) rfl rfl Try.func19 (by kernel_rfl) rfl #[.agg #[.int .i64 a0_0, .int .i64 a0_1, .string a0_2, .slice A0_3 l0_3.length c0_3]] rfl (by (try simp only [List.map_toArray, List.map_cons, List.map_nil]); first | done | rfl | (simp only [List.length_drop, List.length_take]; rfl)) ?_; (with_reducible refine (vinculumref03_Encode.calls kj7 a0_0 a0_1 a0_2 _ _ l0_3 t209 _ ?side1 ?side2 A36.out).mono ?_); (case side1 => repeat (first | exact (Kd.C_below HR0_3.out HB.out) | (with_reducible refine Kd.C_alloc ?_ _) | (with_reducible refine Kd.C_drewN ?_ _) | (with_reducible refine Kd.C_drew ?_))); (case side2 => exact HC0_3.out); rintro e w65 ⟨v210, rfl, ho0, hb⟩; refine ⟨_, rfl, ?_⟩; have n0_ := Aside0.mk (Kd.R_elder' (by (with_reducible repeat (first | apply Kd.R_alloc | apply Kd.R_drewN | apply Kd.R_drew)); exact HO_4.out) (Kd.R_base ho0) hb); have n1_ := Aside0.mk (Kd.R_below (by (with_reducible repeat (first | apply Kd.R_alloc | apply Kd.R_drewN | apply Kd.R_drew)); exact HO_200003.out) hb); have n2_ := Aside0.mk (Kd.R_lower (Kd.R_new' ho0 (Kd.R_lt (by (with_reducible repeat (first | apply Kd.R_alloc | apply Kd.R_drewN | apply Kd.R_drew)); exact HO_4.out))) (below_size (by repeat (first | (with_reducible first | exact HB.out | apply below_alloc | apply pw_below_drewN | apply below_drew1 | refine below_set ?_ GE190.out | refine below_set ?_ GE199.out) | exact HB.out)))); have n3_ := Aside0.mk (blk_below (g := gb190) (o := .cells #[.int .i64 a0_0, .int .i64 a0_1, .string a0_2, .slice A0_3 l0_3.length c0_3] 24 (0, 0)) (by (with_reducible repeat (first | refine blk_drewN ?_ _ | refine blk_drew ?_ | refine blk_alloc ?_ _)); exact BK190.out) hb); have n4_ := Aside0.mk (blk_below (g := gb199) (o := .cells #[.int .i64 t193, .int .i64 t194, .string t195, .slice Ao18 t196.length co18] 29 (0, 0)) (by (with_reducible repeat (first | refine blk_drewN ?_ _ | refine blk_drew ?_ | refine blk_alloc ?_ _)); exact BK199.out) hb); have n5_ := Aside0.mk (below_step (by repeat (first | (with_reducible first | exact HB.out | apply below_alloc | apply pw_below_drewN | apply below_drew1 | refine below_set ?_ GE190.out | refine below_set ?_ GE199.out) | exact HB.out)) hb); clear HO_4; clear HO_200003; clear BK190; clear BK199; clear HB; have HO_4 := n0_; have HO_200003 := n1_; have HO211 := n2_; have BK190 := n3_; have BK199 := n4_; have HB := n5_; clear n0_ n1_ n2_ n3_ n4_ n5_; (try clear hb); (try clear hb2); (try clear hk); (try clear hi); (try clear ho0); obtain ⟨Ao66, co66, eo66⟩ := Kd.R_slice HO211.out; subst eo66))
                  go_ret
                  exact ⟨by first | rfl | (simp [errW_none, errW_some] <;> rfl) | (simp [*, errW_none, errW_some] <;> rfl), by repeat (first | (with_reducible first | exact HB.out | apply below_alloc | apply pw_below_drewN | apply below_drew1 | refine below_set ?_ GE190.out | refine below_set ?_ GE199.out) | exact HB.out)⟩
            · replace c35 := Bool.eq_false_iff.mpr c35
              subst c35
              have H1 : (if t203 = 1 then (some ((t200.length : Int) == 0)) else (some false)) = some r := by rw [if_neg (show ¬ (false = true) by decide)] at H; exact H
              clear H
              have H := H1
              clear H1
              by_cases c67 : t203 = 1
              · rw [if_pos c67] at H
                have c67b0 : (t203 == 1) = true := beq_iff_eq.mpr c67
                have c67b1 : (t203 != 1) = false := bne_eq_false_iff_eq.mpr c67
                clear c67
                obtain rfl := Option.some.inj H
                have hnb68 := NB190_199.out
                have hnc68 := NB199_190.out
                have hcz69_0 : wc.cell? ⟨gb190, 0, none⟩ = some (.int .i64 a0_0) := (blk_cell BK190.out 0).trans rfl
                have hcz69_1 : wc.cell? ⟨gb190, 1, none⟩ = some (.int .i64 a0_1) := (blk_cell BK190.out 1).trans rfl
                have hcz69_2 : wc.cell? ⟨gb190, 2, none⟩ = some (.string a0_2) := (blk_cell BK190.out 2).trans rfl
                have hcz69_3 : wc.cell? ⟨gb190, 3, none⟩ = some (.slice A0_3 l0_3.length c0_3) := (blk_cell BK190.out 3).trans rfl
                have hfz69_0 := blk_frozen BK190.out 0
                have hfz69_1 := blk_frozen BK190.out 1
                have hfz69_2 := blk_frozen BK190.out 2
                have hfz69_3 := blk_frozen BK190.out 3
                go_wp2_with (first | ((with_reducible refine gate_callee (f := 16) rfl ?_); refine goesL_ (some 32) rfl rfl Try.func16 (by kernel_rfl) rfl #[.agg #[.int .i64 a0_0, .int .i64 a0_1, .string a0_2, .slice A0_3 l0_3.length c0_3]] rfl (by (try simp only [List.map_toArray, List.map_cons, List.map_nil]); first | done | rfl | (simp only [List.length_drop, List.length_take]; rfl)) ?_; (with_reducible refine (vinculumref03_Valid.calls kj7 a0_0 a0_1 a0_2 _ _ l0_3 false _ ?side1 ?side2 A34.out).mono ?_); (case side1 => repeat (first | exact (Kd.C_below HR0_3.out HB.out) | (with_reducible refine Kd.C_alloc ?_ _) | (with_reducible refine Kd.C_drewN ?_ _) | (with_reducible refine Kd.C_drew ?_))); (case side2 => exact HC0_3.out); rintro e w70 ⟨rfl, hb⟩; refine ⟨_, rfl, ?_⟩; have n0_ := Aside0.mk (Kd.R_below (by (with_reducible repeat (first | apply Kd.R_alloc | apply Kd.R_drewN | apply Kd.R_drew)); exact HO_4.out) hb); have n1_ := Aside0.mk (Kd.R_below (by (with_reducible repeat (first | apply Kd.R_alloc | apply Kd.R_drewN | apply Kd.R_drew)); exact HO_200003.out) hb); have n2_ := Aside0.mk (blk_below (g := gb190) (o := .cells #[.int .i64 a0_0, .int .i64 a0_1, .string a0_2, .slice A0_3 l0_3.length c0_3] 24 (0, 0)) (by (with_reducible repeat (first | refine blk_drewN ?_ _ | refine blk_drew ?_ | refine blk_alloc ?_ _)); exact BK190.out) hb); have n3_ := Aside0.mk (blk_below (g := gb199) (o := .cells #[.int .i64 t193, .int .i64 t194, .string t195, .slice Ao18 t196.length co18] 29 (0, 0)) (by (with_reducible repeat (first | refine blk_drewN ?_ _ | refine blk_drew ?_ | refine blk_alloc ?_ _)); exact BK199.out) hb); have n4_ := Aside0.mk (below_step (by repeat (first | (with_reducible first | exact HB.out | apply below_alloc | apply pw_below_drewN | apply below_drew1 | refine below_set ?_ GE190.out | refine below_set ?_ GE199.out) | exact HB.out)) hb); clear HO_4; clear HO_200003; clear BK190; clear BK199; clear HB; have HO_4 := n0_; have HO_200003 := n1_; have BK190 := n2_; have BK199 := n3_; have HB := n4_; clear n0_ n1_ n2_ n3_ n4_; (try clear hb); (try clear hb2); (try clear hk); (try clear hi); obtain ⟨Ao71, co71, eo71⟩ := Kd.R_slice HO_4.out; subst eo71))
                go_ret
                exact ⟨by first | rfl | (simp [errW_none, errW_some] <;> rfl) | (simp [*, errW_none, errW_some] <;> rfl), by repeat (first | (with_reducible first | exact HB.out | apply below_alloc | apply pw_below_drewN | apply below_drew1 | refine below_set ?_ GE190.out | refine below_set ?_ GE199.out) | exact HB.out)⟩
              · rw [if_neg c67] at H
                have c67b0 : (t203 == 1) = false := beq_eq_false_iff_ne.mpr c67
                have c67b1 : (t203 != 1) = true := bne_iff_ne.mpr c67
                obtain rfl := Option.some.inj H
                have hnb72 := NB190_199.out
                have hnc72 := NB199_190.out
                have hcz73_0 : wc.cell? ⟨gb190, 0, none⟩ = some (.int .i64 a0_0) := (blk_cell BK190.out 0).trans rfl
                have hcz73_1 : wc.cell? ⟨gb190, 1, none⟩ = some (.int .i64 a0_1) := (blk_cell BK190.out 1).trans rfl
                have hcz73_2 : wc.cell? ⟨gb190, 2, none⟩ = some (.string a0_2) := (blk_cell BK190.out 2).trans rfl
                have hcz73_3 : wc.cell? ⟨gb190, 3, none⟩ = some (.slice A0_3 l0_3.length c0_3) := (blk_cell BK190.out 3).trans rfl
                have hfz73_0 := blk_frozen BK190.out 0
                have hfz73_1 := blk_frozen BK190.out 1
                have hfz73_2 := blk_frozen BK190.out 2
                have hfz73_3 := blk_frozen BK190.out 3
                go_wp2_with (first | ((with_reducible refine gate_callee (f := 16) rfl ?_); refine goesL_ (some 32) rfl rfl Try.func16 (by kernel_rfl) rfl #[.agg #[.int .i64 a0_0, .int .i64 a0_1, .string a0_2, .slice A0_3 l0_3.length c0_3]] rfl (by (try simp only [List.map_toArray, List.map_cons, List.map_nil]); first | done | rfl | (simp only [List.length_drop, List.length_take]; rfl)) ?_; (with_reducible refine (vinculumref03_Valid.calls kj7 a0_0 a0_1 a0_2 _ _ l0_3 false _ ?side1 ?side2 A34.out).mono ?_); (case side1 => repeat (first | exact (Kd.C_below HR0_3.out HB.out) | (with_reducible refine Kd.C_alloc ?_ _) | (with_reducible refine Kd.C_drewN ?_ _) | (with_reducible refine Kd.C_drew ?_))); (case side2 => exact HC0_3.out); rintro e w74 ⟨rfl, hb⟩; refine ⟨_, rfl, ?_⟩; have n0_ := Aside0.mk (Kd.R_below (by (with_reducible repeat (first | apply Kd.R_alloc | apply Kd.R_drewN | apply Kd.R_drew)); exact HO_4.out) hb); have n1_ := Aside0.mk (Kd.R_below (by (with_reducible repeat (first | apply Kd.R_alloc | apply Kd.R_drewN | apply Kd.R_drew)); exact HO_200003.out) hb); have n2_ := Aside0.mk (blk_below (g := gb190) (o := .cells #[.int .i64 a0_0, .int .i64 a0_1, .string a0_2, .slice A0_3 l0_3.length c0_3] 24 (0, 0)) (by (with_reducible repeat (first | refine blk_drewN ?_ _ | refine blk_drew ?_ | refine blk_alloc ?_ _)); exact BK190.out) hb); have n3_ := Aside0.mk (blk_below (g := gb199) (o := .cells #[.int .i64 t193, .int .i64 t194, .string t195, .slice Ao18 t196.length co18] 29 (0, 0)) (by (with_reducible repeat (first | refine blk_drewN ?_ _ | refine blk_drew ?_ | refine blk_alloc ?_ _)); exact BK199.out) hb); have n4_ := Aside0.mk (below_step (by repeat (first | (with_reducible first | exact HB.out | apply below_alloc | apply pw_below_drewN | apply below_drew1 | refine below_set ?_ GE190.out | refine below_set ?_ GE199.out) | exact HB.out)) hb); clear HO_4; clear HO_200003; clear BK190; clear BK199; clear HB; have HO_4 := n0_; have HO_200003 := n1_; have BK190 := n2_; have BK199 := n3_; have HB := n4_; clear n0_ n1_ n2_ n3_ n4_; (try clear hb); (try clear hb2); (try clear hk); (try clear hi)))
                go_ret
                exact ⟨by first | rfl | (simp [errW_none, errW_some] <;> rfl) | (simp [*, errW_none, errW_some] <;> rfl), by repeat (first | (with_reducible first | exact HB.out | apply below_alloc | apply pw_below_drewN | apply below_drew1 | refine below_set ?_ GE190.out | refine below_set ?_ GE199.out) | exact HB.out)⟩
    · replace c5 := Bool.eq_false_iff.mpr c5
      subst c5
      have H1 : (some true) = some r := by rw [if_neg (show ¬ (false = true) by decide)] at H; exact H
      clear H
      have H := H1
      clear H1
      obtain rfl := Option.some.inj H
      go_enter Try.func3, Try.ntmps3
      go_wp2_with (first | ((with_reducible refine gate_dst (N := 1) rfl ?_); (try (refine gate_guard (by rfl) ?_; dsimp only)); refine box_event ?hg (N := 1) ?hd (cs := #[.int .i64 a0_0, .int .i64 a0_1, .string a0_2, .slice A0_3 l0_3.length c0_3]) (t := 24) ?hr ?_; (case hd => rfl); (case hg => rfl); (case hr => first | (go_simp; done) | (go_simp; rfl)); intro gb190 hg w75 hbox hb; have n0_ := Aside0.mk (below_step (by repeat (first | (with_reducible first | exact HB.out | apply below_alloc | apply pw_below_drewN | apply below_drew1) | exact HB.out)) hb); have n1_ := Aside0.mk (hbox); have n2_ := Aside0.mk ((by rw [hg]; exact (below_size (by repeat (first | (with_reducible first | exact HB.out | apply below_alloc | apply pw_below_drewN | apply below_drew1) | exact HB.out))) : w.heap.size ≤ gb190)); have n3_ := Aside0.mk ((by rw [hg]; exact (below_size (by repeat (first | (with_reducible first | exact HB.out | apply below_alloc | apply pw_below_drewN | apply below_drew1) | exact HB.out))) : w.heap.size ≤ gb190)); clear HB; have HB := n0_; have BK190 := n1_; have GW190 := n2_; have GE190 := n3_; clear n0_ n1_ n2_ n3_; clear hb hbox hg) | ((with_reducible refine gate_callee (f := 11) rfl ?_); refine goesL_ (some 7) rfl rfl Try.func11 (by kernel_rfl) rfl #[] rfl (by (try simp only [List.map_toArray, List.map_cons, List.map_nil]); first | done | rfl | (simp only [List.length_drop, List.length_take]; rfl)) ?_; (with_reducible refine (vinculumlaw03_awake.calls k  true _ A2.out).mono ?_); rintro e w76 ⟨rfl, hb⟩; refine ⟨_, rfl, ?_⟩; have n0_ := Aside0.mk (blk_below (g := gb190) (o := .cells #[.int .i64 a0_0, .int .i64 a0_1, .string a0_2, .slice A0_3 l0_3.length c0_3] 24 (0, 0)) (by (with_reducible repeat (first | refine blk_drewN ?_ _ | refine blk_drew ?_ | refine blk_alloc ?_ _)); exact BK190.out) hb); have n1_ := Aside0.mk (below_step (by repeat (first | (with_reducible first | exact HB.out | apply below_alloc | apply pw_below_drewN | apply below_drew1 | refine below_set ?_ GE190.out) | exact HB.out)) hb); clear BK190; clear HB; have BK190 := n0_; have HB := n1_; clear n0_ n1_; (try clear hb); (try clear hb2); (try clear hk); (try clear hi); have hcz77_0 : w76.cell? ⟨gb190, 0, none⟩ = some (.int .i64 a0_0) := (blk_cell BK190.out 0).trans rfl; have hcz77_1 : w76.cell? ⟨gb190, 1, none⟩ = some (.int .i64 a0_1) := (blk_cell BK190.out 1).trans rfl; have hcz77_2 : w76.cell? ⟨gb190, 2, none⟩ = some (.string a0_2) := (blk_cell BK190.out 2).trans rfl; have hcz77_3 : w76.cell? ⟨gb190, 3, none⟩ = some (.slice A0_3 l0_3.length c0_3) := (blk_cell BK190.out 3).trans rfl; have hfz77_0 := blk_frozen BK190.out 0; have hfz77_1 := blk_frozen BK190.out 1; have hfz77_2 := blk_frozen BK190.out 2; have hfz77_3 := blk_frozen BK190.out 3) | ((with_reducible refine gate_callee (f := 12) rfl ?_); refine goesL_ (some 10) rfl rfl Try.func12 (by kernel_rfl) rfl #[.agg #[.int .i64 a0_0, .int .i64 a0_1, .string a0_2, .slice A0_3 l0_3.length c0_3]] rfl (by (try simp only [List.map_toArray, List.map_cons, List.map_nil]); first | done | rfl | (simp only [List.length_drop, List.length_take]; rfl)) ?_; (with_reducible refine (vinculumlaw03_few.calls k a0_0 a0_1 a0_2 _ _ l0_3 false _ ?side1 ?side2 A4.out).mono ?_); (case side1 => repeat (first | exact (Kd.C_below HR0_3.out HB.out) | (with_reducible refine Kd.C_alloc ?_ _) | (with_reducible refine Kd.C_drewN ?_ _) | (with_reducible refine Kd.C_drew ?_))); (case side2 => exact HC0_3.out); rintro e w78 ⟨rfl, hb⟩; refine ⟨_, rfl, ?_⟩; have n0_ := Aside0.mk (blk_below (g := gb190) (o := .cells #[.int .i64 a0_0, .int .i64 a0_1, .string a0_2, .slice A0_3 l0_3.length c0_3] 24 (0, 0)) (by (with_reducible repeat (first | refine blk_drewN ?_ _ | refine blk_drew ?_ | refine blk_alloc ?_ _)); exact BK190.out) hb); have n1_ := Aside0.mk (below_step (by repeat (first | (with_reducible first | exact HB.out | apply below_alloc | apply pw_below_drewN | apply below_drew1 | refine below_set ?_ GE190.out) | exact HB.out)) hb); clear BK190; clear HB; have BK190 := n0_; have HB := n1_; clear n0_ n1_; (try clear hb); (try clear hb2); (try clear hk); (try clear hi)))
      go_ret
      exact ⟨by first | rfl | (simp [errW_none, errW_some] <;> rfl) | (simp [*, errW_none, errW_some] <;> rfl), by repeat (first | (with_reducible first | exact HB.out | apply below_alloc | apply pw_below_drewN | apply below_drew1 | refine below_set ?_ GE190.out) | exact HB.out)⟩
  · replace c3 := Bool.eq_false_iff.mpr c3
    subst c3
    have H1 : (some false) = some r := by rw [if_neg (show ¬ (false = true) by decide)] at H; exact H
    clear H
    have H := H1
    clear H1
    obtain rfl := Option.some.inj H
    go_enter Try.func3, Try.ntmps3
    go_wp2_with (first | ((with_reducible refine gate_dst (N := 1) rfl ?_); (try (refine gate_guard (by rfl) ?_; dsimp only)); refine box_event ?hg (N := 1) ?hd (cs := #[.int .i64 a0_0, .int .i64 a0_1, .string a0_2, .slice A0_3 l0_3.length c0_3]) (t := 24) ?hr ?_; (case hd => rfl); (case hg => rfl); (case hr => first | (go_simp; done) | (go_simp; rfl)); intro gb190 hg w79 hbox hb; have n0_ := Aside0.mk (below_step (by repeat (first | (with_reducible first | exact HB.out | apply below_alloc | apply pw_below_drewN | apply below_drew1) | exact HB.out)) hb); have n1_ := Aside0.mk (hbox); have n2_ := Aside0.mk ((by rw [hg]; exact (below_size (by repeat (first | (with_reducible first | exact HB.out | apply below_alloc | apply pw_below_drewN | apply below_drew1) | exact HB.out))) : w.heap.size ≤ gb190)); have n3_ := Aside0.mk ((by rw [hg]; exact (below_size (by repeat (first | (with_reducible first | exact HB.out | apply below_alloc | apply pw_below_drewN | apply below_drew1) | exact HB.out))) : w.heap.size ≤ gb190)); clear HB; have HB := n0_; have BK190 := n1_; have GW190 := n2_; have GE190 := n3_; clear n0_ n1_ n2_ n3_; clear hb hbox hg) | ((with_reducible refine gate_callee (f := 11) rfl ?_); refine goesL_ (some 7) rfl rfl Try.func11 (by kernel_rfl) rfl #[] rfl (by (try simp only [List.map_toArray, List.map_cons, List.map_nil]); first | done | rfl | (simp only [List.length_drop, List.length_take]; rfl)) ?_; (with_reducible refine (vinculumlaw03_awake.calls k  false _ A2.out).mono ?_); rintro e w80 ⟨rfl, hb⟩; refine ⟨_, rfl, ?_⟩; have n0_ := Aside0.mk (blk_below (g := gb190) (o := .cells #[.int .i64 a0_0, .int .i64 a0_1, .string a0_2, .slice A0_3 l0_3.length c0_3] 24 (0, 0)) (by (with_reducible repeat (first | refine blk_drewN ?_ _ | refine blk_drew ?_ | refine blk_alloc ?_ _)); exact BK190.out) hb); have n1_ := Aside0.mk (below_step (by repeat (first | (with_reducible first | exact HB.out | apply below_alloc | apply pw_below_drewN | apply below_drew1 | refine below_set ?_ GE190.out) | exact HB.out)) hb); clear BK190; clear HB; have BK190 := n0_; have HB := n1_; clear n0_ n1_; (try clear hb); (try clear hb2); (try clear hk); (try clear hi)))
    go_ret
    exact ⟨by first | rfl | (simp [errW_none, errW_some] <;> rfl) | (simp [*, errW_none, errW_some] <;> rfl), by repeat (first | (with_reducible first | exact HB.out | apply below_alloc | apply pw_below_drewN | apply below_drew1 | refine below_set ?_ GE190.out) | exact HB.out)⟩

end Go.Proofs.Ytploigkfnkgjiaa.PE
