-- Written by a program of this place (wip/gen.py) with the kit's print; not trusted: Lean checks it.
import Derived.Test.YtploigkfnkgjiaaPFx0
import Derived.Test.YtploigkfnkgjiaaPFx1
import Derived.Test.YtploigkfnkgjiaaPFx2
import Derived.Test.YtploigkfnkgjiaaPFx3
import Derived.Test.YtploigkfnkgjiaaPFx4
import Derived.Test.YtploigkfnkgjiaaPFx6
namespace Go.Proofs.Ytploigkfnkgjiaa.PF
open Go.RowKit Go.Proofs.YtploigkfnkgjiaaW.PrintWords Go.Proofs.YtploigkfnkgjiaaW.PrintLast Go.Proofs.YtploigkfnkgjiaaW.PrintMore
attribute [local go_sem] max2_int min2_int max_two min_two max_three min_three max_four min_four   -- for this text's walks alone
set_option linter.unusedVariables false
set_option linter.unusedSimpArgs false

/-! ### vinculumlaw03_CodecRoundTrip: function 10 -/
mutual
def vinculumlaw03_CodecRoundTrip.j0 : Nat → List Int → Bool → Int → Int → ByteArray → List (S24) → Option (Bool)
  | 0, _, _, _, _, _, _ => none
  | k + 1, x1, x22, x151000, x151001, x151002, x151003 => if x22 = true then (some true) else ((vinculumlaw03_own.f k x151000 x151001 x151002 x151003).bind fun bt153 => ((codec_Encode.f k bt153.1 bt153.2.1 bt153.2.2.1 bt153.2.2.2).bind fun bt159 => (if bt159.2 = 0 then ((codec_Decode.f k bt159.1).bind fun bt163 => (if bt163.2.2.2.2 = 0 then ((vinculumlaw03_own.f k x151000 x151001 x151002 x151003).bind fun bt171 => ((codec_Equal.f k bt163.1 bt163.2.1 bt163.2.2.1 bt163.2.2.2.1 bt171.1 bt171.2.1 bt171.2.2.1 bt171.2.2.2).bind fun t177 => (if t177 = true then (vinculumlaw03_CodecRoundTrip.j1 k x1) else (some false)))) else (some false))) else (vinculumlaw03_CodecRoundTrip.j1 k x1))))
def vinculumlaw03_CodecRoundTrip.j1 : Nat → List Int → Option (Bool)
  | 0, _ => none
  | k + 1, x1 => (codec_Decode.f k x1).bind fun bt178 => (if bt178.2.2.2.2 = 0 then ((codec_Encode.f k bt178.1 bt178.2.1 bt178.2.2.1 bt178.2.2.2.1).bind fun bt186 => (if bt186.2 = 0 then (if (strOfNums bt186.1).toList = (strOfNums x1).toList then ((codec_Valid.f k bt178.1 bt178.2.1 bt178.2.2.1 bt178.2.2.2.1).bind fun t190 => (some t190)) else (some false)) else (some false))) else (some (bt178.2.2.2.2 == 4)))
end
def vinculumlaw03_CodecRoundTrip.f (k : Nat) (a0_0 : Int) (a0_1 : Int) (a0_2 : ByteArray) (l0_3 : List (S24)) (l1 : List Int) : Option (Bool) := (vinculumlaw03_awake.f k).bind fun t151 => (if t151 = true then ((vinculumlaw03_few.f k a0_0 a0_1 a0_2 l0_3).bind fun t152 => (if t152 = true then (vinculumlaw03_CodecRoundTrip.j0 k l1 (decide ((l1.length : Int) > 3000)) a0_0 a0_1 a0_2 l0_3) else (vinculumlaw03_CodecRoundTrip.j0 k l1 true a0_0 a0_1 a0_2 l0_3))) else (some false))
theorem vinculumlaw03_CodecRoundTrip.mono_l : ∀ k, (∀ y0 y1 y2 y3 y4 y5, LeO (vinculumlaw03_CodecRoundTrip.j0 k y0 y1 y2 y3 y4 y5) (vinculumlaw03_CodecRoundTrip.j0 (k + 1) y0 y1 y2 y3 y4 y5)) ∧ (∀ y0, LeO (vinculumlaw03_CodecRoundTrip.j1 k y0) (vinculumlaw03_CodecRoundTrip.j1 (k + 1) y0))
  | 0 => ⟨fun _ _ _ _ _ _ r h => by simp [vinculumlaw03_CodecRoundTrip.j0] at h, fun _ r h => by simp [vinculumlaw03_CodecRoundTrip.j1] at h⟩
  | k + 1 => by
    obtain ⟨ih0, ih1⟩ := vinculumlaw03_CodecRoundTrip.mono_l k
    refine ⟨?_, ?_⟩
    · intro y0 y1 y2 y3 y4 y5
      unfold vinculumlaw03_CodecRoundTrip.j0
      repeat' first
      | (with_reducible exact ih0 _ _ _ _ _ _)
      | (with_reducible exact ih1 _)
      | (with_reducible exact codec_Decode.mono _ _)
      | (with_reducible exact codec_Encode.mono _ _ _ _ _)
      | (with_reducible exact codec_Equal.mono _ _ _ _ _ _ _ _ _)
      | (with_reducible exact codec_Valid.mono _ _ _ _ _)
      | (with_reducible exact vinculumlaw03_awake.mono _)
      | (with_reducible exact vinculumlaw03_few.mono _ _ _ _ _)
      | (with_reducible exact vinculumlaw03_own.mono _ _ _ _ _)
      | (with_reducible exact LeO.refl _)
      | (with_reducible exact LeO.none _)
      | (with_reducible refine LeO.ite ?_ ?_)
      | (with_reducible refine LeO.bind ?_ (fun _ => ?_))
      | exact ih0 _ _ _ _ _ _
      | exact ih1 _
      | exact codec_Decode.mono _ _
      | exact codec_Encode.mono _ _ _ _ _
      | exact codec_Equal.mono _ _ _ _ _ _ _ _ _
      | exact codec_Valid.mono _ _ _ _ _
      | exact vinculumlaw03_awake.mono _
      | exact vinculumlaw03_few.mono _ _ _ _ _
      | exact vinculumlaw03_own.mono _ _ _ _ _
      | exact LeO.none _
      | refine LeO.ite ?_ ?_
      | refine LeO.bind ?_ (fun _ => ?_)
    · intro y0
      unfold vinculumlaw03_CodecRoundTrip.j1
      repeat' first
      | (with_reducible exact ih0 _ _ _ _ _ _)
      | (with_reducible exact ih1 _)
      | (with_reducible exact codec_Decode.mono _ _)
      | (with_reducible exact codec_Encode.mono _ _ _ _ _)
      | (with_reducible exact codec_Equal.mono _ _ _ _ _ _ _ _ _)
      | (with_reducible exact codec_Valid.mono _ _ _ _ _)
      | (with_reducible exact vinculumlaw03_awake.mono _)
      | (with_reducible exact vinculumlaw03_few.mono _ _ _ _ _)
      | (with_reducible exact vinculumlaw03_own.mono _ _ _ _ _)
      | (with_reducible exact LeO.refl _)
      | (with_reducible exact LeO.none _)
      | (with_reducible refine LeO.ite ?_ ?_)
      | (with_reducible refine LeO.bind ?_ (fun _ => ?_))
      | exact ih0 _ _ _ _ _ _
      | exact ih1 _
      | exact codec_Decode.mono _ _
      | exact codec_Encode.mono _ _ _ _ _
      | exact codec_Equal.mono _ _ _ _ _ _ _ _ _
      | exact codec_Valid.mono _ _ _ _ _
      | exact vinculumlaw03_awake.mono _
      | exact vinculumlaw03_few.mono _ _ _ _ _
      | exact vinculumlaw03_own.mono _ _ _ _ _
      | exact LeO.none _
      | refine LeO.ite ?_ ?_
      | refine LeO.bind ?_ (fun _ => ?_)
theorem vinculumlaw03_CodecRoundTrip.mono : ∀ a0 a1 a2 a3 a4 k, LeO (vinculumlaw03_CodecRoundTrip.f k a0 a1 a2 a3 a4) (vinculumlaw03_CodecRoundTrip.f (k + 1) a0 a1 a2 a3 a4) := by
  intro a0 a1 a2 a3 a4 k
  obtain ⟨ih0, ih1⟩ := vinculumlaw03_CodecRoundTrip.mono_l k
  unfold vinculumlaw03_CodecRoundTrip.f
  repeat' first
      | (with_reducible exact ih0 _ _ _ _ _ _)
      | (with_reducible exact ih1 _)
      | (with_reducible exact codec_Decode.mono _ _)
      | (with_reducible exact codec_Encode.mono _ _ _ _ _)
      | (with_reducible exact codec_Equal.mono _ _ _ _ _ _ _ _ _)
      | (with_reducible exact codec_Valid.mono _ _ _ _ _)
      | (with_reducible exact vinculumlaw03_awake.mono _)
      | (with_reducible exact vinculumlaw03_few.mono _ _ _ _ _)
      | (with_reducible exact vinculumlaw03_own.mono _ _ _ _ _)
      | (with_reducible exact LeO.refl _)
      | (with_reducible exact LeO.none _)
      | (with_reducible refine LeO.ite ?_ ?_)
      | (with_reducible refine LeO.bind ?_ (fun _ => ?_))
      | exact ih0 _ _ _ _ _ _
      | exact ih1 _
      | exact codec_Decode.mono _ _
      | exact codec_Encode.mono _ _ _ _ _
      | exact codec_Equal.mono _ _ _ _ _ _ _ _ _
      | exact codec_Valid.mono _ _ _ _ _
      | exact vinculumlaw03_awake.mono _
      | exact vinculumlaw03_few.mono _ _ _ _ _
      | exact vinculumlaw03_own.mono _ _ _ _ _
      | exact LeO.none _
      | refine LeO.ite ?_ ?_
      | refine LeO.bind ?_ (fun _ => ?_)
def vinculumlaw03_CodecRoundTrip.T8 : Bool × List (List Nat × List Nat) := (true, [([], []), ([0], [0]), ([1], [1]), ([2], [2]), ([2], [2]), ([4, 2, 2], [2, 4]), ([3, 5, 5, 2], [2, 3, 5]), ([6, 2], [2, 6]), ([2, 7], [2, 7])])
def vinculumlaw03_CodecRoundTrip.B8 : List Nat := [0, 1, 3, 7, 7, 23, 63, 127, 255]
theorem vinculumlaw03_CodecRoundTrip.tab8 : rtab .any (opsOf Try.f10 8) = vinculumlaw03_CodecRoundTrip.T8 := by kernel_rfl
theorem vinculumlaw03_CodecRoundTrip.bits8 : waitsOk vinculumlaw03_CodecRoundTrip.T8.2 vinculumlaw03_CodecRoundTrip.B8 = true := by kernel_rfl
set_option maxHeartbeats 8000000 in
set_option maxRecDepth 100000 in
theorem vinculumlaw03_CodecRoundTrip.calls (k : Nat) (a0_0 : Int) (a0_1 : Int) (a0_2 : ByteArray) (A0_3 : Option Addr) (c0_3 : Nat) (l0_3 : List (S24)) (A1 : Option Addr) (c1 : Nat) (l1 : List Int) (r : Bool) (w : World) (hr0_3 : Kd.C k24 w A0_3 l0_3.length l0_3) (hc0_3 : l0_3.length ≤ c0_3) (hr1 : Kd.C (Kd.int .u8) w A1 l1.length l1) (hc1 : l1.length ≤ c1) (h : vinculumlaw03_CodecRoundTrip.f k a0_0 a0_1 a0_2 l0_3 l1 = some r) :
    Calls Try.prog 10 #[.agg #[.int .i64 a0_0, .int .i64 a0_1, .string a0_2, .slice A0_3 l0_3.length c0_3], .slice A1 l1.length c1] w fun e w' => e = .returned (.bool r) ∧ Below w.heap.size w w' := by
  have hu24 := Try.underlying24
  have hu29 := Try.underlying29
  have HR0_3 := Aside0.mk hr0_3
  have HC0_3 := Aside0.mk hc0_3
  clear hr0_3 hc0_3
  have HR1 := Aside0.mk hr1
  have HC1 := Aside0.mk hc1
  clear hr1 hc1
  have HB := Aside0.mk (Below.refl w.heap.size w)
  have H : ((vinculumlaw03_awake.f k).bind fun t151 => (if t151 = true then ((vinculumlaw03_few.f k a0_0 a0_1 a0_2 l0_3).bind fun t152 => (if t152 = true then (vinculumlaw03_CodecRoundTrip.j0 k l1 (decide ((l1.length : Int) > 3000)) a0_0 a0_1 a0_2 l0_3) else (vinculumlaw03_CodecRoundTrip.j0 k l1 true a0_0 a0_1 a0_2 l0_3))) else (some false))) = some r := h
  clear h
  replace H := Option.bind_eq_some_iff.mp H
  obtain ⟨t151, A30, H⟩ := H
  replace H : (if t151 = true then ((vinculumlaw03_few.f k a0_0 a0_1 a0_2 l0_3).bind fun t152 => (if t152 = true then (vinculumlaw03_CodecRoundTrip.j0 k l1 (decide ((l1.length : Int) > 3000)) a0_0 a0_1 a0_2 l0_3) else (vinculumlaw03_CodecRoundTrip.j0 k l1 true a0_0 a0_1 a0_2 l0_3))) else (some false)) = some r := H
  have A3 := Aside0.mk A30
  clear A30
  by_cases c4 : t151 = true
  · subst c4
    have H1 : ((vinculumlaw03_few.f k a0_0 a0_1 a0_2 l0_3).bind fun t152 => (if t152 = true then (vinculumlaw03_CodecRoundTrip.j0 k l1 (decide ((l1.length : Int) > 3000)) a0_0 a0_1 a0_2 l0_3) else (vinculumlaw03_CodecRoundTrip.j0 k l1 true a0_0 a0_1 a0_2 l0_3))) = some r := by rw [if_pos rfl] at H; exact H
    clear H
    have H := H1
    clear H1
    have HC5 := Aside0.mk H
    clear H
    go_enter Try.func10, Try.ntmps10
    go_upto_region 3 with (first | ((with_reducible refine gate_dst (N := 2) rfl ?_); (try (refine gate_guard (by rfl) ?_; dsimp only)); refine box_event ?hg (N := 2) ?hd (cs := #[.int .i64 a0_0, .int .i64 a0_1, .string a0_2, .slice A0_3 l0_3.length c0_3]) (t := 24) ?hr ?_; (case hd => rfl); (case hg => rfl); (case hr => first | (go_simp; done) | (go_simp; rfl)); intro gb150 hg w6 hbox hb; have n0_ := Aside0.mk (below_step (by repeat (first | (with_reducible first | exact HB.out | apply below_alloc | apply pw_below_drewN | apply below_drew1) | exact HB.out)) hb); have n1_ := Aside0.mk (hbox); have n2_ := Aside0.mk ((by rw [hg]; exact (below_size (by repeat (first | (with_reducible first | exact HB.out | apply below_alloc | apply pw_below_drewN | apply below_drew1) | exact HB.out))) : w.heap.size ≤ gb150)); have n3_ := Aside0.mk ((by rw [hg]; exact (below_size (by repeat (first | (with_reducible first | exact HB.out | apply below_alloc | apply pw_below_drewN | apply below_drew1) | exact HB.out))) : w.heap.size ≤ gb150)); clear HB; have HB := n0_; have BK150 := n1_; have GW150 := n2_; have GE150 := n3_; clear n0_ n1_ n2_ n3_; clear hb hbox hg) | ((with_reducible refine gate_callee (f := 11) rfl ?_); refine goesL_ (some 13) rfl rfl Try.func11 (by kernel_rfl) rfl #[] rfl (by (try simp only [List.map_toArray, List.map_cons, List.map_nil]); first | done | rfl | (simp only [List.length_drop, List.length_take]; rfl)) ?_; (with_reducible refine (vinculumlaw03_awake.calls k  true _ A3.out).mono ?_); rintro e w7 ⟨rfl, hb⟩; refine ⟨_, rfl, ?_⟩; have n0_ := Aside0.mk (blk_below (g := gb150) (o := .cells #[.int .i64 a0_0, .int .i64 a0_1, .string a0_2, .slice A0_3 l0_3.length c0_3] 24 (0, 0)) (by (with_reducible repeat (first | refine blk_drewN ?_ _ | refine blk_drew ?_ | refine blk_alloc ?_ _)); exact BK150.out) hb); have n1_ := Aside0.mk (below_step (by repeat (first | (with_reducible first | exact HB.out | apply below_alloc | apply pw_below_drewN | apply below_drew1 | refine below_set ?_ GE150.out) | exact HB.out)) hb); clear BK150; clear HB; have BK150 := n0_; have HB := n1_; clear n0_ n1_; (try clear hb); (try clear hb2); (try clear hk); (try clear hi)))
    (try simp only [Act.put, List.setIfInBounds_toArray, List.set_cons_zero, List.set_cons_succ])
    go_cut [22] (fun v22 wc => ∃ (kq : Nat) (x22_4 : Bool), v22 = .bool x22_4 ∧ Aside0 (vinculumlaw03_CodecRoundTrip.j0 kq l1 x22_4 a0_0 a0_1 a0_2 l0_3 = some r) ∧ Aside0 (kq ≤ k) ∧ Aside0 (wc.heap[gb150]? = some (.cells #[.int .i64 a0_0, .int .i64 a0_1, .string a0_2, (.slice A0_3 l0_3.length c0_3)] 24 (0, 0))) ∧ Aside0 (Below w.heap.size w wc))
    case first =>
      have H := HC5.out
      clear HC5
      replace H := Option.bind_eq_some_iff.mp H
      obtain ⟨t152, A80, H⟩ := H
      replace H : (if t152 = true then (vinculumlaw03_CodecRoundTrip.j0 k l1 (decide ((l1.length : Int) > 3000)) a0_0 a0_1 a0_2 l0_3) else (vinculumlaw03_CodecRoundTrip.j0 k l1 true a0_0 a0_1 a0_2 l0_3)) = some r := H
      have A8 := Aside0.mk A80
      clear A80
      by_cases c9 : t152 = true
      · subst c9
        have H1 : (vinculumlaw03_CodecRoundTrip.j0 k l1 (decide ((l1.length : Int) > 3000)) a0_0 a0_1 a0_2 l0_3) = some r := by rw [if_pos rfl] at H; exact H
        clear H
        have H := H1
        clear H1
        have H' := Aside0.mk H
        clear H
        have hcz10_0 : w7.cell? ⟨gb150, 0, none⟩ = some (.int .i64 a0_0) := (blk_cell BK150.out 0).trans rfl
        have hcz10_1 : w7.cell? ⟨gb150, 1, none⟩ = some (.int .i64 a0_1) := (blk_cell BK150.out 1).trans rfl
        have hcz10_2 : w7.cell? ⟨gb150, 2, none⟩ = some (.string a0_2) := (blk_cell BK150.out 2).trans rfl
        have hcz10_3 : w7.cell? ⟨gb150, 3, none⟩ = some (.slice A0_3 l0_3.length c0_3) := (blk_cell BK150.out 3).trans rfl
        have hfz10_0 := blk_frozen BK150.out 0
        have hfz10_1 := blk_frozen BK150.out 1
        have hfz10_2 := blk_frozen BK150.out 2
        have hfz10_3 := blk_frozen BK150.out 3
        go_wp2_with (first | ((with_reducible refine gate_callee (f := 12) rfl ?_); refine goesL_ (some 16) rfl rfl Try.func12 (by kernel_rfl) rfl #[.agg #[.int .i64 a0_0, .int .i64 a0_1, .string a0_2, .slice A0_3 l0_3.length c0_3]] rfl (by (try simp only [List.map_toArray, List.map_cons, List.map_nil]); first | done | rfl | (simp only [List.length_drop, List.length_take]; rfl)) ?_; (with_reducible refine (vinculumlaw03_few.calls k a0_0 a0_1 a0_2 _ _ l0_3 true _ ?side1 ?side2 A8.out).mono ?_); (case side1 => repeat (first | exact (Kd.C_below HR0_3.out HB.out) | (with_reducible refine Kd.C_alloc ?_ _) | (with_reducible refine Kd.C_drewN ?_ _) | (with_reducible refine Kd.C_drew ?_))); (case side2 => exact HC0_3.out); rintro e w11 ⟨rfl, hb⟩; refine ⟨_, rfl, ?_⟩; have n0_ := Aside0.mk (blk_below (g := gb150) (o := .cells #[.int .i64 a0_0, .int .i64 a0_1, .string a0_2, .slice A0_3 l0_3.length c0_3] 24 (0, 0)) (by (with_reducible repeat (first | refine blk_drewN ?_ _ | refine blk_drew ?_ | refine blk_alloc ?_ _)); exact BK150.out) hb); have n1_ := Aside0.mk (below_step (by repeat (first | (with_reducible first | exact HB.out | apply below_alloc | apply pw_below_drewN | apply below_drew1 | refine below_set ?_ GE150.out) | exact HB.out)) hb); clear BK150; clear HB; have BK150 := n0_; have HB := n1_; clear n0_ n1_; (try clear hb); (try clear hb2); (try clear hk); (try clear hi)))
        go_meet
        case rel => exact ⟨_, (decide ((l1.length : Int) > 3000)), (by first | rfl | (simp; done) | (simp [*]; done) | (simp [ne_nil_bool]; done)), H', ⟨by first | omega | exact Nat.le_refl _⟩, ⟨by (with_reducible repeat (first | refine blk_drewN ?_ _ | refine blk_drew ?_ | refine blk_alloc ?_ _)); exact BK150.out⟩, ⟨by repeat (first | (with_reducible first | exact HB.out | apply below_alloc | apply pw_below_drewN | apply below_drew1 | refine below_set ?_ GE150.out) | exact HB.out)⟩⟩
      · replace c9 := Bool.eq_false_iff.mpr c9
        subst c9
        have H1 : (vinculumlaw03_CodecRoundTrip.j0 k l1 true a0_0 a0_1 a0_2 l0_3) = some r := by rw [if_neg (show ¬ (false = true) by decide)] at H; exact H
        clear H
        have H := H1
        clear H1
        have H' := Aside0.mk H
        clear H
        have hcz12_0 : w7.cell? ⟨gb150, 0, none⟩ = some (.int .i64 a0_0) := (blk_cell BK150.out 0).trans rfl
        have hcz12_1 : w7.cell? ⟨gb150, 1, none⟩ = some (.int .i64 a0_1) := (blk_cell BK150.out 1).trans rfl
        have hcz12_2 : w7.cell? ⟨gb150, 2, none⟩ = some (.string a0_2) := (blk_cell BK150.out 2).trans rfl
        have hcz12_3 : w7.cell? ⟨gb150, 3, none⟩ = some (.slice A0_3 l0_3.length c0_3) := (blk_cell BK150.out 3).trans rfl
        have hfz12_0 := blk_frozen BK150.out 0
        have hfz12_1 := blk_frozen BK150.out 1
        have hfz12_2 := blk_frozen BK150.out 2
        have hfz12_3 := blk_frozen BK150.out 3
        go_wp2_with (first | ((with_reducible refine gate_callee (f := 12) rfl ?_); refine goesL_ (some 16) rfl rfl Try.func12 (by kernel_rfl) rfl #[.agg #[.int .i64 a0_0, .int .i64 a0_1, .string a0_2, .slice A0_3 l0_3.length c0_3]] rfl (by (try simp only [List.map_toArray, List.map_cons, List.map_nil]); first | done | rfl | (simp only [List.length_drop, List.length_take]; rfl)) ?_; (with_reducible refine (vinculumlaw03_few.calls k a0_0 a0_1 a0_2 _ _ l0_3 false _ ?side1 ?side2 A8.out).mono ?_); (case side1 => repeat (first | exact (Kd.C_below HR0_3.out HB.out) | (with_reducible refine Kd.C_alloc ?_ _) | (with_reducible refine Kd.C_drewN ?_ _) | (with_reducible refine Kd.C_drew ?_))); (case side2 => exact HC0_3.out); rintro e w13 ⟨rfl, hb⟩; refine ⟨_, rfl, ?_⟩; have n0_ := Aside0.mk (blk_below (g := gb150) (o := .cells #[.int .i64 a0_0, .int .i64 a0_1, .string a0_2, .slice A0_3 l0_3.length c0_3] 24 (0, 0)) (by (with_reducible repeat (first | refine blk_drewN ?_ _ | refine blk_drew ?_ | refine blk_alloc ?_ _)); exact BK150.out) hb); have n1_ := Aside0.mk (below_step (by repeat (first | (with_reducible first | exact HB.out | apply below_alloc | apply pw_below_drewN | apply below_drew1 | refine below_set ?_ GE150.out) | exact HB.out)) hb); clear BK150; clear HB; have BK150 := n0_; have HB := n1_; clear n0_ n1_; (try clear hb); (try clear hb2); (try clear hk); (try clear hi)))
        go_meet
        case rel => exact ⟨_, (true), (by first | rfl | (simp; done) | (simp [*]; done) | (simp [ne_nil_bool]; done)), H', ⟨by first | omega | exact Nat.le_refl _⟩, ⟨by (with_reducible repeat (first | refine blk_drewN ?_ _ | refine blk_drew ?_ | refine blk_alloc ?_ _)); exact BK150.out⟩, ⟨by repeat (first | (with_reducible first | exact HB.out | apply below_alloc | apply pw_below_drewN | apply below_drew1 | refine below_set ?_ GE150.out) | exact HB.out)⟩⟩
    case rest =>
      clear HC5
      try clear c1
      try clear p2
      try clear c4
      try clear c9
      try clear c10
      try clear c11
      try clear c12
      try clear hcz10_0
      try clear hcz10_1
      try clear hcz10_2
      try clear hcz10_3
      try clear hcz12_0
      try clear hcz12_1
      try clear hcz12_2
      try clear hcz12_3
      try clear hfz10_0
      try clear hfz10_1
      try clear hfz10_2
      try clear hfz10_3
      try clear hfz12_0
      try clear hfz12_1
      try clear hfz12_2
      try clear hfz12_3
      obtain ⟨kq, x22_4, rfl, HA, HJ4, BK150, HB⟩ := hcut
      cases kq with
      | zero => exact absurd HA.out (by simp [vinculumlaw03_CodecRoundTrip.j0])
      | succ kj4 =>
        have H := HA.out
        clear HA
        simp only [vinculumlaw03_CodecRoundTrip.j0] at H
        by_cases c14 : x22_4 = true
        · subst c14
          have H1 : (some true) = some r := by rw [if_pos rfl] at H; exact H
          clear H
          have H := H1
          clear H1
          obtain rfl := Option.some.inj H
          go_wp2
          go_ret
          exact ⟨by first | rfl | (simp [errW_none, errW_some] <;> rfl) | (simp [*, errW_none, errW_some] <;> rfl), by repeat (first | (with_reducible first | exact HB.out | apply below_alloc | apply pw_below_drewN | apply below_drew1 | refine below_set ?_ GE150.out) | exact HB.out)⟩
        · replace c14 := Bool.eq_false_iff.mpr c14
          subst c14
          have H1 : ((vinculumlaw03_own.f kj4 a0_0 a0_1 a0_2 l0_3).bind fun bt153 => ((codec_Encode.f kj4 bt153.1 bt153.2.1 bt153.2.2.1 bt153.2.2.2).bind fun bt159 => (if bt159.2 = 0 then ((codec_Decode.f kj4 bt159.1).bind fun bt163 => (if bt163.2.2.2.2 = 0 then ((vinculumlaw03_own.f kj4 a0_0 a0_1 a0_2 l0_3).bind fun bt171 => ((codec_Equal.f kj4 bt163.1 bt163.2.1 bt163.2.2.1 bt163.2.2.2.1 bt171.1 bt171.2.1 bt171.2.2.1 bt171.2.2.2).bind fun t177 => (if t177 = true then (vinculumlaw03_CodecRoundTrip.j1 kj4 l1) else (some false)))) else (some false))) else (vinculumlaw03_CodecRoundTrip.j1 kj4 l1)))) = some r := by rw [if_neg (show ¬ (false = true) by decide)] at H; exact H
          clear H
          have H := H1
          clear H1
          replace H := Option.bind_eq_some_iff.mp H
          obtain ⟨⟨t153, t154, t155, t156⟩, A150, H⟩ := H
          replace H : ((codec_Encode.f kj4 t153 t154 t155 t156).bind fun bt159 => (if bt159.2 = 0 then ((codec_Decode.f kj4 bt159.1).bind fun bt163 => (if bt163.2.2.2.2 = 0 then ((vinculumlaw03_own.f kj4 a0_0 a0_1 a0_2 l0_3).bind fun bt171 => ((codec_Equal.f kj4 bt163.1 bt163.2.1 bt163.2.2.1 bt163.2.2.2.1 bt171.1 bt171.2.1 bt171.2.2.1 bt171.2.2.2).bind fun t177 => (if t177 = true then (vinculumlaw03_CodecRoundTrip.j1 kj4 l1) else (some false)))) else (some false))) else (vinculumlaw03_CodecRoundTrip.j1 kj4 l1))) = some r := H
          have A15 := Aside0.mk A150
          clear A150
          replace H := Option.bind_eq_some_iff.mp H
          obtain ⟨⟨t159, t162⟩, A160, H⟩ := H
          replace H : (if t162 = 0 then ((codec_Decode.f kj4 t159).bind fun bt163 => (if bt163.2.2.2.2 = 0 then ((vinculumlaw03_own.f kj4 a0_0 a0_1 a0_2 l0_3).bind fun bt171 => ((codec_Equal.f kj4 bt163.1 bt163.2.1 bt163.2.2.1 bt163.2.2.2.1 bt171.1 bt171.2.1 bt171.2.2.1 bt171.2.2.2).bind fun t177 => (if t177 = true then (vinculumlaw03_CodecRoundTrip.j1 kj4 l1) else (some false)))) else (some false))) else (vinculumlaw03_CodecRoundTrip.j1 kj4 l1)) = some r := H
          have A16 := Aside0.mk A160
          clear A160
          have HC17 := Aside0.mk H
          clear H
          have hcz18_0 : wc.cell? ⟨gb150, 0, none⟩ = some (.int .i64 a0_0) := (blk_cell BK150.out 0).trans rfl
          have hcz18_1 : wc.cell? ⟨gb150, 1, none⟩ = some (.int .i64 a0_1) := (blk_cell BK150.out 1).trans rfl
          have hcz18_2 : wc.cell? ⟨gb150, 2, none⟩ = some (.string a0_2) := (blk_cell BK150.out 2).trans rfl
          have hcz18_3 : wc.cell? ⟨gb150, 3, none⟩ = some (.slice A0_3 l0_3.length c0_3) := (blk_cell BK150.out 3).trans rfl
          have hfz18_0 := blk_frozen BK150.out 0
          have hfz18_1 := blk_frozen BK150.out 1
          have hfz18_2 := blk_frozen BK150.out 2
          have hfz18_3 := blk_frozen BK150.out 3
          go_upto_if 30 with (first | ((with_reducible refine gate_callee (f := 13) rfl ?_); refine goesL_ (some 25) rfl rfl Try.func13 (by kernel_rfl) rfl #[.agg #[.int .i64 a0_0, .int .i64 a0_1, .string a0_2, .slice A0_3 l0_3.length c0_3]] rfl (by (try simp only [List.map_toArray, List.map_cons, List.map_nil]); first | done | rfl | (simp only [List.length_drop, List.length_take]; rfl)) ?_; (with_reducible refine (vinculumlaw03_own.calls kj4 a0_0 a0_1 a0_2 _ _ l0_3 t153 t154 t155 t156 _ ?side1 ?side2 A15.out).mono ?_); (case side1 => repeat (first | exact (Kd.C_below HR0_3.out HB.out) | (with_reducible refine Kd.C_alloc ?_ _) | (with_reducible refine Kd.C_drewN ?_ _) | (with_reducible refine Kd.C_drew ?_))); (case side2 => exact HC0_3.out); rintro e w19 ⟨v157, rfl, ho0, hb⟩; refine ⟨_, rfl, ?_⟩; have n0_ := Aside0.mk (Kd.R_lower ho0 (below_size (by repeat (first | (with_reducible first | exact HB.out | apply below_alloc | apply pw_below_drewN | apply below_drew1 | refine below_set ?_ GE150.out) | exact HB.out)))); have n1_ := Aside0.mk (blk_below (g := gb150) (o := .cells #[.int .i64 a0_0, .int .i64 a0_1, .string a0_2, .slice A0_3 l0_3.length c0_3] 24 (0, 0)) (by (with_reducible repeat (first | refine blk_drewN ?_ _ | refine blk_drew ?_ | refine blk_alloc ?_ _)); exact BK150.out) hb); have n2_ := Aside0.mk (below_step (by repeat (first | (with_reducible first | exact HB.out | apply below_alloc | apply pw_below_drewN | apply below_drew1 | refine below_set ?_ GE150.out) | exact HB.out)) hb); clear BK150; clear HB; have HO158 := n0_; have BK150 := n1_; have HB := n2_; clear n0_ n1_ n2_; (try clear hb); (try clear hb2); (try clear hk); (try clear hi); (try clear ho0); obtain ⟨Ao20, co20, eo20⟩ := Kd.R_slice HO158.out; subst eo20) | ((with_reducible refine gate_callee (f := 14) rfl ?_); refine goesL_ (some 26) rfl rfl Try.func14 (by kernel_rfl) rfl #[.agg #[.int .i64 t153, .int .i64 t154, .string t155, .slice Ao20 t156.length co20]] rfl (by (try simp only [List.map_toArray, List.map_cons, List.map_nil]); first | done | rfl | (simp only [List.length_drop, List.length_take]; rfl)) ?_; (with_reducible refine (codec_Encode.calls kj4 t153 t154 t155 _ _ t156 t159 t162 _ ?side1 ?side2 A16.out).mono ?_); (case side1 => repeat (first | exact (Kd.R_reads' HO158.out).2.2 | (with_reducible refine Kd.C_alloc ?_ _) | (with_reducible refine Kd.C_drewN ?_ _) | (with_reducible refine Kd.C_drew ?_))); (case side2 => exact (Kd.R_reads' HO158.out).2.1); rintro e w21 ⟨v160, rfl, ho0, hb⟩; refine ⟨_, rfl, ?_⟩; have n0_ := Aside0.mk (Kd.R_below (by (with_reducible repeat (first | apply Kd.R_alloc | apply Kd.R_drewN | apply Kd.R_drew)); exact HO158.out) hb); have n1_ := Aside0.mk (Kd.R_lower ho0 (below_size (by repeat (first | (with_reducible first | exact HB.out | apply below_alloc | apply pw_below_drewN | apply below_drew1 | refine below_set ?_ GE150.out) | exact HB.out)))); have n2_ := Aside0.mk (blk_below (g := gb150) (o := .cells #[.int .i64 a0_0, .int .i64 a0_1, .string a0_2, .slice A0_3 l0_3.length c0_3] 24 (0, 0)) (by (with_reducible repeat (first | refine blk_drewN ?_ _ | refine blk_drew ?_ | refine blk_alloc ?_ _)); exact BK150.out) hb); have n3_ := Aside0.mk (below_step (by repeat (first | (with_reducible first | exact HB.out | apply below_alloc | apply pw_below_drewN | apply below_drew1 | refine below_set ?_ GE150.out) | exact HB.out)) hb); clear HO158; clear BK150; clear HB; have HO158 := n0_; have HO161 := n1_; have BK150 := n2_; have HB := n3_; clear n0_ n1_ n2_ n3_; (try clear hb); (try clear hb2); (try clear hk); (try clear hi); (try clear ho0)))
          (try simp only [Act.put, List.setIfInBounds_toArray, List.set_cons_zero, List.set_cons_succ])
          go_cut [] (fun wc => ∃ (kq : Nat), Aside0 (vinculumlaw03_CodecRoundTrip.j1 kq l1 = some r) ∧ Aside0 (kq ≤ kj4) ∧ Aside0 (wc.heap[gb150]? = some (.cells #[.int .i64 a0_0, .int .i64 a0_1, .string a0_2, (.slice A0_3 l0_3.length c0_3)] 24 (0, 0))) ∧ Aside0 (Below w.heap.size w wc))
          case first =>
            have H := HC17.out
            clear HC17
            by_cases c22 : t162 = 0
            · rw [if_pos c22] at H
              have c22b0 : (t162 == 0) = true := beq_iff_eq.mpr c22
              have c22b1 : (t162 != 0) = false := bne_eq_false_iff_eq.mpr c22
              clear c22
              (first | rw [c22b0] | (simp only [i64_w, i32_w]; rw [c22b0]) | skip)
              replace H := Option.bind_eq_some_iff.mp H
              obtain ⟨⟨t163, t164, t165, t166, t169⟩, A230, H⟩ := H
              replace H : (if t169 = 0 then ((vinculumlaw03_own.f kj4 a0_0 a0_1 a0_2 l0_3).bind fun bt171 => ((codec_Equal.f kj4 t163 t164 t165 t166 bt171.1 bt171.2.1 bt171.2.2.1 bt171.2.2.2).bind fun t177 => (if t177 = true then (vinculumlaw03_CodecRoundTrip.j1 kj4 l1) else (some false)))) else (some false)) = some r := H
              have A23 := Aside0.mk A230
              clear A230
              by_cases c24 : t169 = 0
              · rw [if_pos c24] at H
                have c24b0 : (t169 == 0) = true := beq_iff_eq.mpr c24
                have c24b1 : (t169 != 0) = false := bne_eq_false_iff_eq.mpr c24
                clear c24
                replace H := Option.bind_eq_some_iff.mp H
                obtain ⟨⟨t171, t172, t173, t174⟩, A250, H⟩ := H
                replace H : ((codec_Equal.f kj4 t163 t164 t165 t166 t171 t172 t173 t174).bind fun t177 => (if t177 = true then (vinculumlaw03_CodecRoundTrip.j1 kj4 l1) else (some false))) = some r := H
                have A25 := Aside0.mk A250
                clear A250
                replace H := Option.bind_eq_some_iff.mp H
                obtain ⟨t177, A260, H⟩ := H
                replace H : (if t177 = true then (vinculumlaw03_CodecRoundTrip.j1 kj4 l1) else (some false)) = some r := H
                have A26 := Aside0.mk A260
                clear A260
                by_cases c27 : t177 = true
                · subst c27
                  have H1 : (vinculumlaw03_CodecRoundTrip.j1 kj4 l1) = some r := by rw [if_pos rfl] at H; exact H
                  clear H
                  have H := H1
                  clear H1
                  have H' := Aside0.mk H
                  clear H
                  obtain ⟨Ao28, co28, eo28⟩ := Kd.R_slice HO161.out
                  subst eo28
                  try go_wp2_with (first | ((with_reducible refine gate_callee (f := 22) rfl ?_); refine goesL_ (some 33) rfl rfl Try.func22 (by kernel_rfl) rfl #[.slice Ao28 t159.length co28] rfl (by (try simp only [List.map_toArray, List.map_cons, List.map_nil]); first | done | rfl | (simp only [List.length_drop, List.length_take]; rfl)) ?_; (with_reducible refine (codec_Decode.calls kj4 _ _ t159 t163 t164 t165 t166 t169 _ ?side1 ?side2 A23.out).mono ?_); (case side1 => repeat (first | exact (Kd.R_reads' HO161.out).2.2 | (with_reducible refine Kd.C_alloc ?_ _) | (with_reducible refine Kd.C_drewN ?_ _) | (with_reducible refine Kd.C_drew ?_))); (case side2 => exact (Kd.R_reads' HO161.out).2.1); rintro e w29 ⟨v167, rfl, ho0, hb⟩; refine ⟨_, rfl, ?_⟩; have n0_ := Aside0.mk (Kd.R_elder' (by (with_reducible repeat (first | apply Kd.R_alloc | apply Kd.R_drewN | apply Kd.R_drew)); exact HO158.out) (Kd.R_base ho0) hb); have n1_ := Aside0.mk (Kd.R_below (by (with_reducible repeat (first | apply Kd.R_alloc | apply Kd.R_drewN | apply Kd.R_drew)); exact HO161.out) hb); have n2_ := Aside0.mk (Kd.R_lower (Kd.R_new' ho0 (Kd.R_lt (by (with_reducible repeat (first | apply Kd.R_alloc | apply Kd.R_drewN | apply Kd.R_drew)); exact HO158.out))) (below_size (by repeat (first | (with_reducible first | exact HB.out | apply below_alloc | apply pw_below_drewN | apply below_drew1 | refine below_set ?_ GE150.out) | exact HB.out)))); have n3_ := Aside0.mk (blk_below (g := gb150) (o := .cells #[.int .i64 a0_0, .int .i64 a0_1, .string a0_2, .slice A0_3 l0_3.length c0_3] 24 (0, 0)) (by (with_reducible repeat (first | refine blk_drewN ?_ _ | refine blk_drew ?_ | refine blk_alloc ?_ _)); exact BK150.out) hb); have n4_ := Aside0.mk (below_step (by repeat (first | (with_reducible first | exact HB.out | apply below_alloc | apply pw_below_drewN | apply below_drew1 | refine below_set ?_ GE150.out) | exact HB.out)) hb); clear HO158; clear HO161; clear BK150; clear HB; have HO158 := n0_; have HO161 := n1_; have HO168 := n2_; have BK150 := n3_; have HB := n4_; clear n0_ n1_ n2_ n3_ n4_; (try clear hb); (try clear hb2); (try clear hk); (try clear hi); (try clear ho0)) | ((with_reducible refine gate_dst (N := 7) rfl ?_); (try (refine gate_guard (by rfl) ?_; dsimp only)); refine box_event ?hg (N := 7) ?hd (cs := #[.int .i64 0, .int .i64 0, .string (⟨#[]⟩ : ByteArray), .slice none 0 0]) (t := 29) ?hr ?_; (case hd => rfl); (case hg => rfl); (case hr => first | (go_simp; done) | (go_simp; rfl)); intro gb170 hg w30 hbox hb; have n0_ := Aside0.mk (Kd.R_below (Kd.R_elderB (by (with_reducible repeat (first | apply Kd.R_alloc | apply Kd.R_drewN | apply Kd.R_drew)); exact HO158.out) gb170 (Nat.le_of_eq hg.symm)) hb); have n1_ := Aside0.mk (Kd.R_below (by (with_reducible repeat (first | apply Kd.R_alloc | apply Kd.R_drewN | apply Kd.R_drew)); exact HO161.out) hb); have n2_ := Aside0.mk (Kd.R_below (Kd.R_elderB (by (with_reducible repeat (first | apply Kd.R_alloc | apply Kd.R_drewN | apply Kd.R_drew)); exact HO168.out) gb170 (Nat.le_of_eq hg.symm)) hb); have n3_ := Aside0.mk (blk_below (g := gb150) (o := .cells #[.int .i64 a0_0, .int .i64 a0_1, .string a0_2, .slice A0_3 l0_3.length c0_3] 24 (0, 0)) (by (with_reducible repeat (first | refine blk_drewN ?_ _ | refine blk_drew ?_ | refine blk_alloc ?_ _)); exact BK150.out) hb); have n4_ := Aside0.mk (below_step (by repeat (first | (with_reducible first | exact HB.out | apply below_alloc | apply pw_below_drewN | apply below_drew1 | refine below_set ?_ GE150.out) | exact HB.out)) hb); have n5_ := Aside0.mk (hbox); have n6_ := Aside0.mk ((by rw [hg]; exact (below_size (by repeat (first | (with_reducible first | exact HB.out | apply below_alloc | apply pw_below_drewN | apply below_drew1 | refine below_set ?_ GE150.out) | exact HB.out))) : w.heap.size ≤ gb170)); have n7_ := Aside0.mk ((by rw [hg]; exact (below_size (by repeat (first | (with_reducible first | exact HB.out | apply below_alloc | apply pw_below_drewN | apply below_drew1 | refine below_set ?_ GE150.out) | exact HB.out))) : w.heap.size ≤ gb170)); have n8_ := Aside0.mk ((by rw [hg]; exact Nat.ne_of_lt (blk_lt (g := gb150) (o := .cells #[.int .i64 a0_0, .int .i64 a0_1, .string a0_2, .slice A0_3 l0_3.length c0_3] 24 (0, 0)) (by (with_reducible repeat (first | refine blk_drewN ?_ _ | refine blk_drew ?_ | refine blk_alloc ?_ _)); exact BK150.out)) : gb150 ≠ gb170)); have n9_ := Aside0.mk ((by rw [hg]; exact Nat.ne_of_gt (blk_lt (g := gb150) (o := .cells #[.int .i64 a0_0, .int .i64 a0_1, .string a0_2, .slice A0_3 l0_3.length c0_3] 24 (0, 0)) (by (with_reducible repeat (first | refine blk_drewN ?_ _ | refine blk_drew ?_ | refine blk_alloc ?_ _)); exact BK150.out)) : gb170 ≠ gb150)); clear HO158; clear HO161; clear HO168; clear BK150; clear HB; have HO158 := n0_; have HO161 := n1_; have HO168 := n2_; have BK150 := n3_; have HB := n4_; have BK170 := n5_; have GW170 := n6_; have GE170 := n7_; have NB150_170 := n8_; have NB170_150 := n9_; clear n0_ n1_ n2_ n3_ n4_ n5_ n6_ n7_ n8_ n9_; clear hb hbox hg; have hnb31 := NB170_150.out; have hnc31 := NB150_170.out; have hcz32_0 : w30.cell? ⟨gb170, 0, none⟩ = some (.int .i64 0) := (blk_cell BK170.out 0).trans rfl; have hcz32_1 : w30.cell? ⟨gb170, 1, none⟩ = some (.int .i64 0) := (blk_cell BK170.out 1).trans rfl; have hcz32_2 : w30.cell? ⟨gb170, 2, none⟩ = some (.string (⟨#[]⟩ : ByteArray)) := (blk_cell BK170.out 2).trans rfl; have hcz32_3 : w30.cell? ⟨gb170, 3, none⟩ = some (.slice none 0 0) := (blk_cell BK170.out 3).trans rfl; have hfz32_0 := blk_frozen BK170.out 0; have hfz32_1 := blk_frozen BK170.out 1; have hfz32_2 := blk_frozen BK170.out 2; have hfz32_3 := blk_frozen BK170.out 3; obtain ⟨Ao33, co33, eo33⟩ := Kd.R_slice HO168.out; subst eo33))
                  have n0_ : Aside0 (Kd.R k29 29 ((((w30.setCell ⟨gb170, 0, none⟩ (.int .i64 t163)).setCell ⟨gb170, 1, none⟩ (.int .i64 t164)).setCell ⟨gb170, 2, none⟩ (.string t165)).setCell ⟨gb170, 3, none⟩ (.slice Ao33 t166.length co33)) w.heap.size (fun k_ => some k_ ≠ (.slice Ao33 t166.length co33 : Value).ownBlock ∧ k_ ≠ gb170) (.slice Ao20 t156.length co20) t156) := ⟨by (with_reducible repeat (first | apply Kd.R_alloc | apply Kd.R_drewN | apply Kd.R_drew)); exact Kd.R_mono (Kd.R_far (p := ⟨gb170, 3, none⟩) (Kd.R_far (p := ⟨gb170, 2, none⟩) (Kd.R_far (p := ⟨gb170, 1, none⟩) (Kd.R_far (p := ⟨gb170, 0, none⟩) (Kd.R_mono HO158.out (fun k_ hk => (⟨hk, hk.2⟩ : _ ∧ k_ ≠ gb170))) (fun _ hk => hk.2) (.int .i64 t163)) (fun _ hk => hk.2) (.int .i64 t164)) (fun _ hk => hk.2) (.string t165)) (fun _ hk => hk.2) (.slice Ao33 t166.length co33)) (fun _ hk => ⟨hk.1.1.2, hk.1.2⟩)⟩
                  have n1_ : Aside0 (Kd.R (Kd.int .u8) 5 ((((w30.setCell ⟨gb170, 0, none⟩ (.int .i64 t163)).setCell ⟨gb170, 1, none⟩ (.int .i64 t164)).setCell ⟨gb170, 2, none⟩ (.string t165)).setCell ⟨gb170, 3, none⟩ (.slice Ao33 t166.length co33)) w.heap.size (fun _ => True) (.slice Ao28 t159.length co28) t159) := ⟨by (with_reducible repeat (first | apply Kd.R_alloc | apply Kd.R_drewN | apply Kd.R_drew)); exact Kd.R_mono (Kd.R_far (p := ⟨gb170, 3, none⟩) (Kd.R_far (p := ⟨gb170, 2, none⟩) (Kd.R_far (p := ⟨gb170, 1, none⟩) (Kd.R_far (p := ⟨gb170, 0, none⟩) (Kd.R_types HO161.out BK170.out (by decide)) (fun _ hk => hk.2) (.int .i64 t163)) (fun _ hk => hk.2) (.int .i64 t164)) (fun _ hk => hk.2) (.string t165)) (fun _ hk => hk.2) (.slice Ao33 t166.length co33)) (fun _ hk => trivial)⟩
                  have n2_ : Aside0 (Kd.R k29 29 ((((w30.setCell ⟨gb170, 0, none⟩ (.int .i64 t163)).setCell ⟨gb170, 1, none⟩ (.int .i64 t164)).setCell ⟨gb170, 2, none⟩ (.string t165)).setCell ⟨gb170, 3, none⟩ (.slice Ao33 t166.length co33)) w.heap.size (fun k_ => some k_ ≠ (.slice Ao20 t156.length co20 : Value).ownBlock ∧ k_ ≠ gb170) (.slice Ao33 t166.length co33) t166) := ⟨by (with_reducible repeat (first | apply Kd.R_alloc | apply Kd.R_drewN | apply Kd.R_drew)); exact Kd.R_mono (Kd.R_far (p := ⟨gb170, 3, none⟩) (Kd.R_far (p := ⟨gb170, 2, none⟩) (Kd.R_far (p := ⟨gb170, 1, none⟩) (Kd.R_far (p := ⟨gb170, 0, none⟩) (Kd.R_mono HO168.out (fun k_ hk => (⟨hk, hk.2⟩ : _ ∧ k_ ≠ gb170))) (fun _ hk => hk.2) (.int .i64 t163)) (fun _ hk => hk.2) (.int .i64 t164)) (fun _ hk => hk.2) (.string t165)) (fun _ hk => hk.2) (.slice Ao33 t166.length co33)) (fun _ hk => ⟨hk.1.1.2, hk.1.2⟩)⟩
                  have n3_ : Aside0 (((((w30.setCell ⟨gb170, 0, none⟩ (.int .i64 t163)).setCell ⟨gb170, 1, none⟩ (.int .i64 t164)).setCell ⟨gb170, 2, none⟩ (.string t165)).setCell ⟨gb170, 3, none⟩ (.slice Ao33 t166.length co33)).heap[gb150]? = some (.cells #[.int .i64 a0_0, .int .i64 a0_1, .string a0_2, .slice A0_3 l0_3.length c0_3] 24 (0, 0))) := ⟨by (with_reducible repeat (first | refine blk_drewN ?_ _ | refine blk_drew ?_ | refine blk_alloc ?_ _)); refine blk_far ?_ NB150_170.out _; (with_reducible repeat (first | refine blk_drewN ?_ _ | refine blk_drew ?_ | refine blk_alloc ?_ _)); refine blk_far ?_ NB150_170.out _; (with_reducible repeat (first | refine blk_drewN ?_ _ | refine blk_drew ?_ | refine blk_alloc ?_ _)); refine blk_far ?_ NB150_170.out _; (with_reducible repeat (first | refine blk_drewN ?_ _ | refine blk_drew ?_ | refine blk_alloc ?_ _)); refine blk_far ?_ NB150_170.out _; (with_reducible repeat (first | refine blk_drewN ?_ _ | refine blk_drew ?_ | refine blk_alloc ?_ _)); exact BK150.out⟩
                  have n4_ : Aside0 (((((w30.setCell ⟨gb170, 0, none⟩ (.int .i64 t163)).setCell ⟨gb170, 1, none⟩ (.int .i64 t164)).setCell ⟨gb170, 2, none⟩ (.string t165)).setCell ⟨gb170, 3, none⟩ (.slice Ao33 t166.length co33)).heap[gb170]? = some (.cells #[.int .i64 t163, .int .i64 t164, .string t165, .slice Ao33 t166.length co33] 29 (0, 0))) := ⟨by (with_reducible repeat (first | refine blk_drewN ?_ _ | refine blk_drew ?_ | refine blk_alloc ?_ _)); refine blk_put (cs := #[.int .i64 t163, .int .i64 t164, .string t165, .slice none 0 0]) ?_ 3 _ rfl; (with_reducible repeat (first | refine blk_drewN ?_ _ | refine blk_drew ?_ | refine blk_alloc ?_ _)); refine blk_put (cs := #[.int .i64 t163, .int .i64 t164, .string (⟨#[]⟩ : ByteArray), .slice none 0 0]) ?_ 2 _ rfl; (with_reducible repeat (first | refine blk_drewN ?_ _ | refine blk_drew ?_ | refine blk_alloc ?_ _)); refine blk_put (cs := #[.int .i64 t163, .int .i64 0, .string (⟨#[]⟩ : ByteArray), .slice none 0 0]) ?_ 1 _ rfl; (with_reducible repeat (first | refine blk_drewN ?_ _ | refine blk_drew ?_ | refine blk_alloc ?_ _)); refine blk_put (cs := #[.int .i64 0, .int .i64 0, .string (⟨#[]⟩ : ByteArray), .slice none 0 0]) ?_ 0 _ rfl; (with_reducible repeat (first | refine blk_drewN ?_ _ | refine blk_drew ?_ | refine blk_alloc ?_ _)); exact BK170.out⟩
                  have n5_ : Aside0 (Below w.heap.size w ((((w30.setCell ⟨gb170, 0, none⟩ (.int .i64 t163)).setCell ⟨gb170, 1, none⟩ (.int .i64 t164)).setCell ⟨gb170, 2, none⟩ (.string t165)).setCell ⟨gb170, 3, none⟩ (.slice Ao33 t166.length co33))) := ⟨by repeat (first | (with_reducible first | exact HB.out | apply below_alloc | apply pw_below_drewN | apply below_drew1 | refine below_set ?_ GE150.out | refine below_set ?_ GE170.out) | exact HB.out)⟩
                  (try clear HO158)
                  (try clear HO161)
                  (try clear HO168)
                  (try clear BK150)
                  (try clear BK170)
                  (try clear HB)
                  generalize ((((w30.setCell ⟨gb170, 0, none⟩ (.int .i64 t163)).setCell ⟨gb170, 1, none⟩ (.int .i64 t164)).setCell ⟨gb170, 2, none⟩ (.string t165)).setCell ⟨gb170, 3, none⟩ (.slice Ao33 t166.length co33)) = w34 at n0_ n1_ n2_ n3_ n4_ n5_ ⊢
                  have HO158 := n0_
                  have HO161 := n1_
                  have HO168 := n2_
                  have BK150 := n3_
                  have BK170 := n4_
                  have HB := n5_
                  clear n0_ n1_ n2_ n3_ n4_ n5_
                  have n0_ := Aside0.mk (Kd.R_drew HO158.out)
                  have n1_ := Aside0.mk (Kd.R_drew HO161.out)
                  have n2_ := Aside0.mk (Kd.R_drew HO168.out)
                  have n3_ := Aside0.mk (blk_drew BK150.out)
                  have n4_ := Aside0.mk (blk_drew BK170.out)
                  have n5_ := Aside0.mk (below_drew1 HB.out)
                  clear HO158
                  clear HO161
                  clear HO168
                  clear BK150
                  clear BK170
                  clear HB
                  have HO158 := n0_
                  have HO161 := n1_
                  have HO168 := n2_
                  have BK150 := n3_
                  have BK170 := n4_
                  have HB := n5_
                  clear n0_ n1_ n2_ n3_ n4_ n5_
                  refine start_ (n := 9) (S := fun w' => w'.cell? ⟨gb170, 0, none⟩ = some (.int .i64 t163) ∧ w'.cell? ⟨gb170, 1, none⟩ = some (.int .i64 t164) ∧ w'.cell? ⟨gb170, 2, none⟩ = some (.string t165) ∧ w'.cell? ⟨gb170, 3, none⟩ = some (.slice Ao33 t166.length co33) ∧ w'.cell? ⟨gb150, 0, none⟩ = some (.int .i64 a0_0) ∧ w'.cell? ⟨gb150, 1, none⟩ = some (.int .i64 a0_1) ∧ w'.cell? ⟨gb150, 2, none⟩ = some (.string a0_2) ∧ w'.cell? ⟨gb150, 3, none⟩ = some (.slice A0_3 l0_3.length c0_3)) (ds := []) #[false, false, false, false, false, false, false, false, false] (by kernel_rfl) rfl rfl ⟨(blk_cell BK170.out 0).trans rfl, (blk_cell BK170.out 1).trans rfl, (blk_cell BK170.out 2).trans rfl, (blk_cell BK170.out 3).trans rfl, (blk_cell BK150.out 0).trans rfl, (blk_cell BK150.out 1).trans rfl, (blk_cell BK150.out 2).trans rfl, (blk_cell BK150.out 3).trans rfl⟩ (fun hHeld => ?_); refine with_tabW vinculumlaw03_CodecRoundTrip.tab8 vinculumlaw03_CodecRoundTrip.bits8 (fun HT_ HW_ => ?_)
                  generalize w34.drew = w35 at HO158 HO161 HO168 BK150 BK170 HB hHeld ⊢
                  refine pure_ (i := 0) (N := some 36) (v := ?_) (a' := ?_) #[true, false, false, false, false, false, false, false, false] rfl rfl (any_of HT_.out (by kernel_rfl)) (fun _ _ _ h => h) (Or.inl ⟨by rfl, ?_⟩) ?_ ?_
                  rotate_left
                  · intro w'
                    go_simp
                    with_reducible rfl
                  rotate_left
                  · simp only [Act.put, List.setIfInBounds_toArray, List.set_cons_zero, List.set_cons_succ, i64_w, i32_w]
                    rfl
                  refine pure_ (i := 1) (N := some 37) (v := ?_) (a' := ?_) #[true, true, false, false, false, false, false, false, false] rfl rfl (any_of HT_.out (by kernel_rfl)) (fun _ _ _ h => h) (Or.inl ⟨by rfl, ?_⟩) ?_ ?_
                  rotate_left
                  · intro w'
                    go_simp
                    with_reducible rfl
                  rotate_left
                  · simp only [Act.put, List.setIfInBounds_toArray, List.set_cons_zero, List.set_cons_succ, i64_w, i32_w]
                    rfl
                  refine pure_ (i := 2) (N := some 38) (v := ?_) (a' := ?_) #[true, true, true, false, false, false, false, false, false] rfl rfl (any_of HT_.out (by kernel_rfl)) (fun _ _ _ h => h) (Or.inl ⟨by rfl, ?_⟩) ?_ ?_
                  rotate_left
                  · intro w'
                    go_simp
                    with_reducible rfl
                  rotate_left
                  · simp only [Act.put, List.setIfInBounds_toArray, List.set_cons_zero, List.set_cons_succ, i64_w, i32_w]
                    rfl
                  refine take_ (i := 3) (N := some 39) (v := ?_) (a' := ?_) #[true, true, true, true, false, false, false, false, false] rfl rfl (take_ofW HT_.out HW_.out (by kernel_rfl)) (fun _ _ _ h => h) (Or.inl ⟨by rfl, ?_⟩) hHeld ?_ ?_
                  rotate_left
                  · rintro w' ⟨s0, s1, s2, s3, s4, s5, s6, s7⟩
                    go_simp
                    with_reducible rfl
                  rotate_left
                  · simp only [Act.put, List.setIfInBounds_toArray, List.set_cons_zero, List.set_cons_succ, i64_w, i32_w]
                    rfl
                  refine take_ (i := 4) (N := some 40) (v := ?_) (a' := ?_) #[true, true, true, true, true, false, false, false, false] rfl rfl (take_ofW HT_.out HW_.out (by kernel_rfl)) (fun _ _ _ h => h) (Or.inl ⟨by rfl, ?_⟩) hHeld ?_ ?_
                  rotate_left
                  · rintro w' ⟨s0, s1, s2, s3, s4, s5, s6, s7⟩
                    go_simp
                    with_reducible rfl
                  rotate_left
                  · simp only [Act.put, List.setIfInBounds_toArray, List.set_cons_zero, List.set_cons_succ, i64_w, i32_w]
                    rfl
                  refine one_ (i := 5) (N := some 41) #[true, true, true, true, true, true, false, false, false] rfl rfl (one_of HT_.out (by kernel_rfl)) (by decide) (fun K hK => ?_)
                  refine goes_ Try.func13 (by kernel_rfl) rfl #[.agg #[.int .i64 a0_0, .int .i64 a0_1, .string a0_2, .slice A0_3 l0_3.length c0_3]] (by rfl) rfl rfl (by (try simp only [List.map_toArray, List.map_cons, List.map_nil]); first | done | rfl | (simp only [List.length_drop, List.length_take]; rfl)) ?_
                  with_reducible refine (vinculumlaw03_own.calls kj4 a0_0 a0_1 a0_2 _ _ l0_3 t171 t172 t173 t174 _ ?side1 ?side2 A25.out).mono ?_
                  (case side1 => repeat (first | exact (Kd.C_below HR0_3.out HB.out) | (with_reducible refine Kd.C_alloc ?_ _) | (with_reducible refine Kd.C_drewN ?_ _) | (with_reducible refine Kd.C_drew ?_)))
                  (case side2 => exact HC0_3.out)
                  rintro e w36 ⟨v175, rfl, ho0, hb⟩
                  refine ⟨_, rfl, ?_⟩
                  have n0_ := Aside0.mk (Kd.R_elder' (by (with_reducible repeat (first | apply Kd.R_alloc | apply Kd.R_drewN | apply Kd.R_drew)); exact HO158.out) (Kd.R_base ho0) hb)
                  have n1_ := Aside0.mk (Kd.R_below (by (with_reducible repeat (first | apply Kd.R_alloc | apply Kd.R_drewN | apply Kd.R_drew)); exact HO161.out) hb)
                  have n2_ := Aside0.mk (Kd.R_elder' (by (with_reducible repeat (first | apply Kd.R_alloc | apply Kd.R_drewN | apply Kd.R_drew)); exact HO168.out) (Kd.R_base ho0) hb)
                  have n3_ := Aside0.mk (Kd.R_lower (Kd.R_newB (Kd.R_new' (Kd.R_new' ho0 (Kd.R_lt (by (with_reducible repeat (first | apply Kd.R_alloc | apply Kd.R_drewN | apply Kd.R_drew)); exact HO158.out))) (Kd.R_lt (by (with_reducible repeat (first | apply Kd.R_alloc | apply Kd.R_drewN | apply Kd.R_drew)); exact HO168.out))) (g := gb170) (o := .cells #[.int .i64 t163, .int .i64 t164, .string t165, .slice Ao33 t166.length co33] 29 (0, 0)) (by (with_reducible repeat (first | refine blk_drewN ?_ _ | refine blk_drew ?_ | refine blk_alloc ?_ _)); exact BK170.out)) (below_size (by repeat (first | (with_reducible first | exact HB.out | apply below_alloc | apply pw_below_drewN | apply below_drew1 | refine below_set ?_ GE150.out | refine below_set ?_ GE170.out) | exact HB.out))))
                  have n4_ := Aside0.mk (blk_below (g := gb150) (o := .cells #[.int .i64 a0_0, .int .i64 a0_1, .string a0_2, .slice A0_3 l0_3.length c0_3] 24 (0, 0)) (by (with_reducible repeat (first | refine blk_drewN ?_ _ | refine blk_drew ?_ | refine blk_alloc ?_ _)); exact BK150.out) hb)
                  have n5_ := Aside0.mk (blk_below (g := gb170) (o := .cells #[.int .i64 t163, .int .i64 t164, .string t165, .slice Ao33 t166.length co33] 29 (0, 0)) (by (with_reducible repeat (first | refine blk_drewN ?_ _ | refine blk_drew ?_ | refine blk_alloc ?_ _)); exact BK170.out) hb)
                  have n6_ := Aside0.mk (below_step (by repeat (first | (with_reducible first | exact HB.out | apply below_alloc | apply pw_below_drewN | apply below_drew1 | refine below_set ?_ GE150.out | refine below_set ?_ GE170.out) | exact HB.out)) hb)
                  clear HO158
                  clear HO161
                  clear HO168
                  clear BK150
                  clear BK170
                  clear HB
                  have HO158 := n0_
                  have HO161 := n1_
                  have HO168 := n2_
                  have HO176 := n3_
                  have BK150 := n4_
                  have BK170 := n5_
                  have HB := n6_
                  clear n0_ n1_ n2_ n3_ n4_ n5_ n6_
                  (try clear hb)
                  (try clear hb2)
                  (try clear hk)
                  (try clear hi)
                  (try clear ho0)
                  obtain ⟨Ao37, co37, eo37⟩ := Kd.R_slice HO176.out
                  (first | subst eo37 | (injection eo37 with f1_ f2_ f3_; have f4_ := f1_.symm; have f5_ := f3_.symm; clear f1_ f2_ f3_; subst f4_; subst f5_))
                  refine hK.out _ _ ⟨(blk_cell BK170.out 0).trans rfl, (blk_cell BK170.out 1).trans rfl, (blk_cell BK170.out 2).trans rfl, (blk_cell BK170.out 3).trans rfl, (blk_cell BK150.out 0).trans rfl, (blk_cell BK150.out 1).trans rfl, (blk_cell BK150.out 2).trans rfl, (blk_cell BK150.out 3).trans rfl⟩ (fun hHeld => ?_)
                  clear hK K
                  refine norm_ (a' := ?_) ?_ ?_
                  rotate_left
                  · show Act.put _ (some 41) _ = _
                    simp only [Act.put, List.setIfInBounds_toArray, List.set_cons_zero, List.set_cons_succ, i64_w, i32_w]
                    rfl
                  refine one_ (i := 6) (N := some 42) #[true, true, true, true, true, true, true, false, false] rfl rfl (one_of HT_.out (by kernel_rfl)) (by decide) (fun K hK => ?_)
                  refine goes_ Try.func20 (by kernel_rfl) rfl #[.agg #[.int .i64 t163, .int .i64 t164, .string t165, .slice Ao33 t166.length co33], .agg #[.int .i64 t171, .int .i64 t172, .string t173, .slice Ao37 t174.length co37]] (by rfl) rfl rfl (by (try simp only [List.map_toArray, List.map_cons, List.map_nil]); first | done | rfl | (simp only [List.length_drop, List.length_take]; rfl)) ?_
                  with_reducible refine (codec_Equal.calls kj4 t163 t164 t165 _ _ t166 t171 t172 t173 _ _ t174 true _ ?side1 ?side2 ?side3 ?side4 A26.out).mono ?_
                  (case side1 => repeat (first | exact (Kd.R_reads' HO168.out).2.2 | (with_reducible refine Kd.C_alloc ?_ _) | (with_reducible refine Kd.C_drewN ?_ _) | (with_reducible refine Kd.C_drew ?_)))
                  (case side2 => exact (Kd.R_reads' HO168.out).2.1)
                  (case side3 => repeat (first | exact (Kd.R_reads' HO176.out).2.2 | (with_reducible refine Kd.C_alloc ?_ _) | (with_reducible refine Kd.C_drewN ?_ _) | (with_reducible refine Kd.C_drew ?_)))
                  (case side4 => exact (Kd.R_reads' HO176.out).2.1)
                  rintro e w38 ⟨rfl, hb⟩
                  refine ⟨_, rfl, ?_⟩
                  have n0_ := Aside0.mk (Kd.R_below (by (with_reducible repeat (first | apply Kd.R_alloc | apply Kd.R_drewN | apply Kd.R_drew)); exact HO158.out) hb)
                  have n1_ := Aside0.mk (Kd.R_below (by (with_reducible repeat (first | apply Kd.R_alloc | apply Kd.R_drewN | apply Kd.R_drew)); exact HO161.out) hb)
                  have n2_ := Aside0.mk (Kd.R_below (by (with_reducible repeat (first | apply Kd.R_alloc | apply Kd.R_drewN | apply Kd.R_drew)); exact HO168.out) hb)
                  have n3_ := Aside0.mk (Kd.R_below (by (with_reducible repeat (first | apply Kd.R_alloc | apply Kd.R_drewN | apply Kd.R_drew)); exact HO176.out) hb)
                  have n4_ := Aside0.mk (blk_below (g := gb150) (o := .cells #[.int .i64 a0_0, .int .i64 a0_1, .string a0_2, .slice A0_3 l0_3.length c0_3] 24 (0, 0)) (by (with_reducible repeat (first | refine blk_drewN ?_ _ | refine blk_drew ?_ | refine blk_alloc ?_ _)); exact BK150.out) hb)
                  have n5_ := Aside0.mk (blk_below (g := gb170) (o := .cells #[.int .i64 t163, .int .i64 t164, .string t165, .slice Ao33 t166.length co33] 29 (0, 0)) (by (with_reducible repeat (first | refine blk_drewN ?_ _ | refine blk_drew ?_ | refine blk_alloc ?_ _)); exact BK170.out) hb)
                  have n6_ := Aside0.mk (below_step (by repeat (first | (with_reducible first | exact HB.out | apply below_alloc | apply pw_below_drewN | apply below_drew1 | refine below_set ?_ GE150.out | refine below_set ?_ GE170.out) | exact HB.out)) hb)
                  clear HO158
                  clear HO161
                  clear HO168
                  clear HO176
                  clear BK150
                  clear BK170
                  clear HB
                  have HO158 := n0_
                  have HO161 := n1_
                  have HO168 := n2_
                  have HO176 := n3_
                  have BK150 := n4_
                  have BK170 := n5_
                  have HB := n6_
                  clear n0_ n1_ n2_ n3_ n4_ n5_ n6_
                  (try clear hb)
                  (try clear hb2)
                  (try clear hk)
                  (try clear hi)
                  refine hK.out _ _ ⟨(blk_cell BK170.out 0).trans rfl, (blk_cell BK170.out 1).trans rfl, (blk_cell BK170.out 2).trans rfl, (blk_cell BK170.out 3).trans rfl, (blk_cell BK150.out 0).trans rfl, (blk_cell BK150.out 1).trans rfl, (blk_cell BK150.out 2).trans rfl, (blk_cell BK150.out 3).trans rfl⟩ (fun hHeld => ?_)
                  clear hK K
                  refine norm_ (a' := ?_) ?_ ?_
                  rotate_left
                  · show Act.put _ (some 42) _ = _
                    simp only [Act.put, List.setIfInBounds_toArray, List.set_cons_zero, List.set_cons_succ, i64_w, i32_w]
                    rfl
                  refine pure_ (i := 7) (N := some 43) (v := ?_) (a' := ?_) #[true, true, true, true, true, true, true, true, false] rfl rfl (any_of HT_.out (by kernel_rfl)) (fun _ _ _ h => h) (Or.inl ⟨by rfl, ?_⟩) ?_ ?_
                  rotate_left
                  · intro w'
                    go_simp
                    with_reducible rfl
                  rotate_left
                  · simp only [Act.put, List.setIfInBounds_toArray, List.set_cons_zero, List.set_cons_succ, i64_w, i32_w]
                    rfl
                  refine pure_ (i := 8) (N := some 44) (v := ?_) (a' := ?_) #[true, true, true, true, true, true, true, true, true] rfl rfl (any_of HT_.out (by kernel_rfl)) (fun _ _ _ h => h) (Or.inl ⟨by rfl, ?_⟩) ?_ ?_
                  rotate_left
                  · intro w'
                    go_simp
                    with_reducible rfl
                  rotate_left
                  · simp only [Act.put, List.setIfInBounds_toArray, List.set_cons_zero, List.set_cons_succ, i64_w, i32_w]
                    rfl
                  refine done_ (done_of HT_.out (by kernel_rfl)) ?_
                  try go_wp2
                  go_meet
                  case rel => exact ⟨_, H', ⟨by have := HJ4.out; first | omega | exact Nat.le_refl _⟩, ⟨by (with_reducible repeat (first | refine blk_drewN ?_ _ | refine blk_drew ?_ | refine blk_alloc ?_ _)); exact BK150.out⟩, ⟨by repeat (first | (with_reducible first | exact HB.out | apply below_alloc | apply pw_below_drewN | apply below_drew1 | refine below_set ?_ GE150.out | refine below_set ?_ GE170.out) | exact HB.out)⟩⟩
                · replace c27 := Bool.eq_false_iff.mpr c27
                  subst c27
                  have H1 : (some false) = some r := by rw [if_neg (show ¬ (false = true) by decide)] at H; exact H
                  clear H
                  have H := H1
                  clear H1
                  obtain rfl := Option.some.inj H
                  obtain ⟨Ao39, co39, eo39⟩ := Kd.R_slice HO161.out
                  subst eo39
                  try go_wp2_with (first | ((with_reducible refine gate_callee (f := 22) rfl ?_); refine goesL_ (some 33) rfl rfl Try.func22 (by kernel_rfl) rfl #[.slice Ao39 t159.length co39] rfl (by (try simp only [List.map_toArray, List.map_cons, List.map_nil]); first | done | rfl | (simp only [List.length_drop, List.length_take]; rfl)) ?_; (with_reducible refine (codec_Decode.calls kj4 _ _ t159 t163 t164 t165 t166 t169 _ ?side1 ?side2 A23.out).mono ?_); (case side1 => repeat (first | exact (Kd.R_reads' HO161.out).2.2 | (with_reducible refine Kd.C_alloc ?_ _) | (with_reducible refine Kd.C_drewN ?_ _) | (with_reducible refine Kd.C_drew ?_))); (case side2 => exact (Kd.R_reads' HO161.out).2.1); rintro e w40 ⟨v167, rfl, ho0, hb⟩; refine ⟨_, rfl, ?_⟩; have n0_ := Aside0.mk (Kd.R_elder' (by (with_reducible repeat (first | apply Kd.R_alloc | apply Kd.R_drewN | apply Kd.R_drew)); exact HO158.out) (Kd.R_base ho0) hb); have n1_ := Aside0.mk (Kd.R_below (by (with_reducible repeat (first | apply Kd.R_alloc | apply Kd.R_drewN | apply Kd.R_drew)); exact HO161.out) hb); have n2_ := Aside0.mk (Kd.R_lower (Kd.R_new' ho0 (Kd.R_lt (by (with_reducible repeat (first | apply Kd.R_alloc | apply Kd.R_drewN | apply Kd.R_drew)); exact HO158.out))) (below_size (by repeat (first | (with_reducible first | exact HB.out | apply below_alloc | apply pw_below_drewN | apply below_drew1 | refine below_set ?_ GE150.out) | exact HB.out)))); have n3_ := Aside0.mk (blk_below (g := gb150) (o := .cells #[.int .i64 a0_0, .int .i64 a0_1, .string a0_2, .slice A0_3 l0_3.length c0_3] 24 (0, 0)) (by (with_reducible repeat (first | refine blk_drewN ?_ _ | refine blk_drew ?_ | refine blk_alloc ?_ _)); exact BK150.out) hb); have n4_ := Aside0.mk (below_step (by repeat (first | (with_reducible first | exact HB.out | apply below_alloc | apply pw_below_drewN | apply below_drew1 | refine below_set ?_ GE150.out) | exact HB.out)) hb); clear HO158; clear HO161; clear BK150; clear HB; have HO158 := n0_; have HO161 := n1_; have HO168 := n2_; have BK150 := n3_; have HB := n4_; clear n0_ n1_ n2_ n3_ n4_; (try clear hb); (try clear hb2); (try clear hk); (try clear hi); (try clear ho0)) | ((with_reducible refine gate_dst (N := 7) rfl ?_); (try (refine gate_guard (by rfl) ?_; dsimp only)); refine box_event ?hg (N := 7) ?hd (cs := #[.int .i64 0, .int .i64 0, .string (⟨#[]⟩ : ByteArray), .slice none 0 0]) (t := 29) ?hr ?_; (case hd => rfl); (case hg => rfl); (case hr => first | (go_simp; done) | (go_simp; rfl)); intro gb170 hg w41 hbox hb; have n0_ := Aside0.mk (Kd.R_below (Kd.R_elderB (by (with_reducible repeat (first | apply Kd.R_alloc | apply Kd.R_drewN | apply Kd.R_drew)); exact HO158.out) gb170 (Nat.le_of_eq hg.symm)) hb); have n1_ := Aside0.mk (Kd.R_below (by (with_reducible repeat (first | apply Kd.R_alloc | apply Kd.R_drewN | apply Kd.R_drew)); exact HO161.out) hb); have n2_ := Aside0.mk (Kd.R_below (Kd.R_elderB (by (with_reducible repeat (first | apply Kd.R_alloc | apply Kd.R_drewN | apply Kd.R_drew)); exact HO168.out) gb170 (Nat.le_of_eq hg.symm)) hb); have n3_ := Aside0.mk (blk_below (g := gb150) (o := .cells #[.int .i64 a0_0, .int .i64 a0_1, .string a0_2, .slice A0_3 l0_3.length c0_3] 24 (0, 0)) (by (with_reducible repeat (first | refine blk_drewN ?_ _ | refine blk_drew ?_ | refine blk_alloc ?_ _)); exact BK150.out) hb); have n4_ := Aside0.mk (below_step (by repeat (first | (with_reducible first | exact HB.out | apply below_alloc | apply pw_below_drewN | apply below_drew1 | refine below_set ?_ GE150.out) | exact HB.out)) hb); have n5_ := Aside0.mk (hbox); have n6_ := Aside0.mk ((by rw [hg]; exact (below_size (by repeat (first | (with_reducible first | exact HB.out | apply below_alloc | apply pw_below_drewN | apply below_drew1 | refine below_set ?_ GE150.out) | exact HB.out))) : w.heap.size ≤ gb170)); have n7_ := Aside0.mk ((by rw [hg]; exact (below_size (by repeat (first | (with_reducible first | exact HB.out | apply below_alloc | apply pw_below_drewN | apply below_drew1 | refine below_set ?_ GE150.out) | exact HB.out))) : w.heap.size ≤ gb170)); have n8_ := Aside0.mk ((by rw [hg]; exact Nat.ne_of_lt (blk_lt (g := gb150) (o := .cells #[.int .i64 a0_0, .int .i64 a0_1, .string a0_2, .slice A0_3 l0_3.length c0_3] 24 (0, 0)) (by (with_reducible repeat (first | refine blk_drewN ?_ _ | refine blk_drew ?_ | refine blk_alloc ?_ _)); exact BK150.out)) : gb150 ≠ gb170)); have n9_ := Aside0.mk ((by rw [hg]; exact Nat.ne_of_gt (blk_lt (g := gb150) (o := .cells #[.int .i64 a0_0, .int .i64 a0_1, .string a0_2, .slice A0_3 l0_3.length c0_3] 24 (0, 0)) (by (with_reducible repeat (first | refine blk_drewN ?_ _ | refine blk_drew ?_ | refine blk_alloc ?_ _)); exact BK150.out)) : gb170 ≠ gb150)); clear HO158; clear HO161; clear HO168; clear BK150; clear HB; have HO158 := n0_; have HO161 := n1_; have HO168 := n2_; have BK150 := n3_; have HB := n4_; have BK170 := n5_; have GW170 := n6_; have GE170 := n7_; have NB150_170 := n8_; have NB170_150 := n9_; clear n0_ n1_ n2_ n3_ n4_ n5_ n6_ n7_ n8_ n9_; clear hb hbox hg; have hnb42 := NB170_150.out; have hnc42 := NB150_170.out; have hcz43_0 : w41.cell? ⟨gb170, 0, none⟩ = some (.int .i64 0) := (blk_cell BK170.out 0).trans rfl; have hcz43_1 : w41.cell? ⟨gb170, 1, none⟩ = some (.int .i64 0) := (blk_cell BK170.out 1).trans rfl; have hcz43_2 : w41.cell? ⟨gb170, 2, none⟩ = some (.string (⟨#[]⟩ : ByteArray)) := (blk_cell BK170.out 2).trans rfl; have hcz43_3 : w41.cell? ⟨gb170, 3, none⟩ = some (.slice none 0 0) := (blk_cell BK170.out 3).trans rfl; have hfz43_0 := blk_frozen BK170.out 0; have hfz43_1 := blk_frozen BK170.out 1; have hfz43_2 := blk_frozen BK170.out 2; have hfz43_3 := blk_frozen BK170.out 3; obtain ⟨Ao44, co44, eo44⟩ := Kd.R_slice HO168.out; subst eo44))
                  have n0_ : Aside0 (Kd.R k29 29 ((((w41.setCell ⟨gb170, 0, none⟩ (.int .i64 t163)).setCell ⟨gb170, 1, none⟩ (.int .i64 t164)).setCell ⟨gb170, 2, none⟩ (.string t165)).setCell ⟨gb170, 3, none⟩ (.slice Ao44 t166.length co44)) w.heap.size (fun k_ => some k_ ≠ (.slice Ao44 t166.length co44 : Value).ownBlock ∧ k_ ≠ gb170) (.slice Ao20 t156.length co20) t156) := ⟨by (with_reducible repeat (first | apply Kd.R_alloc | apply Kd.R_drewN | apply Kd.R_drew)); exact Kd.R_mono (Kd.R_far (p := ⟨gb170, 3, none⟩) (Kd.R_far (p := ⟨gb170, 2, none⟩) (Kd.R_far (p := ⟨gb170, 1, none⟩) (Kd.R_far (p := ⟨gb170, 0, none⟩) (Kd.R_mono HO158.out (fun k_ hk => (⟨hk, hk.2⟩ : _ ∧ k_ ≠ gb170))) (fun _ hk => hk.2) (.int .i64 t163)) (fun _ hk => hk.2) (.int .i64 t164)) (fun _ hk => hk.2) (.string t165)) (fun _ hk => hk.2) (.slice Ao44 t166.length co44)) (fun _ hk => ⟨hk.1.1.2, hk.1.2⟩)⟩
                  have n1_ : Aside0 (Kd.R (Kd.int .u8) 5 ((((w41.setCell ⟨gb170, 0, none⟩ (.int .i64 t163)).setCell ⟨gb170, 1, none⟩ (.int .i64 t164)).setCell ⟨gb170, 2, none⟩ (.string t165)).setCell ⟨gb170, 3, none⟩ (.slice Ao44 t166.length co44)) w.heap.size (fun _ => True) (.slice Ao39 t159.length co39) t159) := ⟨by (with_reducible repeat (first | apply Kd.R_alloc | apply Kd.R_drewN | apply Kd.R_drew)); exact Kd.R_mono (Kd.R_far (p := ⟨gb170, 3, none⟩) (Kd.R_far (p := ⟨gb170, 2, none⟩) (Kd.R_far (p := ⟨gb170, 1, none⟩) (Kd.R_far (p := ⟨gb170, 0, none⟩) (Kd.R_types HO161.out BK170.out (by decide)) (fun _ hk => hk.2) (.int .i64 t163)) (fun _ hk => hk.2) (.int .i64 t164)) (fun _ hk => hk.2) (.string t165)) (fun _ hk => hk.2) (.slice Ao44 t166.length co44)) (fun _ hk => trivial)⟩
                  have n2_ : Aside0 (Kd.R k29 29 ((((w41.setCell ⟨gb170, 0, none⟩ (.int .i64 t163)).setCell ⟨gb170, 1, none⟩ (.int .i64 t164)).setCell ⟨gb170, 2, none⟩ (.string t165)).setCell ⟨gb170, 3, none⟩ (.slice Ao44 t166.length co44)) w.heap.size (fun k_ => some k_ ≠ (.slice Ao20 t156.length co20 : Value).ownBlock ∧ k_ ≠ gb170) (.slice Ao44 t166.length co44) t166) := ⟨by (with_reducible repeat (first | apply Kd.R_alloc | apply Kd.R_drewN | apply Kd.R_drew)); exact Kd.R_mono (Kd.R_far (p := ⟨gb170, 3, none⟩) (Kd.R_far (p := ⟨gb170, 2, none⟩) (Kd.R_far (p := ⟨gb170, 1, none⟩) (Kd.R_far (p := ⟨gb170, 0, none⟩) (Kd.R_mono HO168.out (fun k_ hk => (⟨hk, hk.2⟩ : _ ∧ k_ ≠ gb170))) (fun _ hk => hk.2) (.int .i64 t163)) (fun _ hk => hk.2) (.int .i64 t164)) (fun _ hk => hk.2) (.string t165)) (fun _ hk => hk.2) (.slice Ao44 t166.length co44)) (fun _ hk => ⟨hk.1.1.2, hk.1.2⟩)⟩
                  have n3_ : Aside0 (((((w41.setCell ⟨gb170, 0, none⟩ (.int .i64 t163)).setCell ⟨gb170, 1, none⟩ (.int .i64 t164)).setCell ⟨gb170, 2, none⟩ (.string t165)).setCell ⟨gb170, 3, none⟩ (.slice Ao44 t166.length co44)).heap[gb150]? = some (.cells #[.int .i64 a0_0, .int .i64 a0_1, .string a0_2, .slice A0_3 l0_3.length c0_3] 24 (0, 0))) := ⟨by (with_reducible repeat (first | refine blk_drewN ?_ _ | refine blk_drew ?_ | refine blk_alloc ?_ _)); refine blk_far ?_ NB150_170.out _; (with_reducible repeat (first | refine blk_drewN ?_ _ | refine blk_drew ?_ | refine blk_alloc ?_ _)); refine blk_far ?_ NB150_170.out _; (with_reducible repeat (first | refine blk_drewN ?_ _ | refine blk_drew ?_ | refine blk_alloc ?_ _)); refine blk_far ?_ NB150_170.out _; (with_reducible repeat (first | refine blk_drewN ?_ _ | refine blk_drew ?_ | refine blk_alloc ?_ _)); refine blk_far ?_ NB150_170.out _; (with_reducible repeat (first | refine blk_drewN ?_ _ | refine blk_drew ?_ | refine blk_alloc ?_ _)); exact BK150.out⟩
                  have n4_ : Aside0 (((((w41.setCell ⟨gb170, 0, none⟩ (.int .i64 t163)).setCell ⟨gb170, 1, none⟩ (.int .i64 t164)).setCell ⟨gb170, 2, none⟩ (.string t165)).setCell ⟨gb170, 3, none⟩ (.slice Ao44 t166.length co44)).heap[gb170]? = some (.cells #[.int .i64 t163, .int .i64 t164, .string t165, .slice Ao44 t166.length co44] 29 (0, 0))) := ⟨by (with_reducible repeat (first | refine blk_drewN ?_ _ | refine blk_drew ?_ | refine blk_alloc ?_ _)); refine blk_put (cs := #[.int .i64 t163, .int .i64 t164, .string t165, .slice none 0 0]) ?_ 3 _ rfl; (with_reducible repeat (first | refine blk_drewN ?_ _ | refine blk_drew ?_ | refine blk_alloc ?_ _)); refine blk_put (cs := #[.int .i64 t163, .int .i64 t164, .string (⟨#[]⟩ : ByteArray), .slice none 0 0]) ?_ 2 _ rfl; (with_reducible repeat (first | refine blk_drewN ?_ _ | refine blk_drew ?_ | refine blk_alloc ?_ _)); refine blk_put (cs := #[.int .i64 t163, .int .i64 0, .string (⟨#[]⟩ : ByteArray), .slice none 0 0]) ?_ 1 _ rfl; (with_reducible repeat (first | refine blk_drewN ?_ _ | refine blk_drew ?_ | refine blk_alloc ?_ _)); refine blk_put (cs := #[.int .i64 0, .int .i64 0, .string (⟨#[]⟩ : ByteArray), .slice none 0 0]) ?_ 0 _ rfl; (with_reducible repeat (first | refine blk_drewN ?_ _ | refine blk_drew ?_ | refine blk_alloc ?_ _)); exact BK170.out⟩
                  have n5_ : Aside0 (Below w.heap.size w ((((w41.setCell ⟨gb170, 0, none⟩ (.int .i64 t163)).setCell ⟨gb170, 1, none⟩ (.int .i64 t164)).setCell ⟨gb170, 2, none⟩ (.string t165)).setCell ⟨gb170, 3, none⟩ (.slice Ao44 t166.length co44))) := ⟨by repeat (first | (with_reducible first | exact HB.out | apply below_alloc | apply pw_below_drewN | apply below_drew1 | refine below_set ?_ GE150.out | refine below_set ?_ GE170.out) | exact HB.out)⟩
                  (try clear HO158)
                  (try clear HO161)
                  (try clear HO168)
                  (try clear BK150)
                  (try clear BK170)
                  (try clear HB)
                  generalize ((((w41.setCell ⟨gb170, 0, none⟩ (.int .i64 t163)).setCell ⟨gb170, 1, none⟩ (.int .i64 t164)).setCell ⟨gb170, 2, none⟩ (.string t165)).setCell ⟨gb170, 3, none⟩ (.slice Ao44 t166.length co44)) = w45 at n0_ n1_ n2_ n3_ n4_ n5_ ⊢
                  have HO158 := n0_
                  have HO161 := n1_
                  have HO168 := n2_
                  have BK150 := n3_
                  have BK170 := n4_
                  have HB := n5_
                  clear n0_ n1_ n2_ n3_ n4_ n5_
                  have n0_ := Aside0.mk (Kd.R_drew HO158.out)
                  have n1_ := Aside0.mk (Kd.R_drew HO161.out)
                  have n2_ := Aside0.mk (Kd.R_drew HO168.out)
                  have n3_ := Aside0.mk (blk_drew BK150.out)
                  have n4_ := Aside0.mk (blk_drew BK170.out)
                  have n5_ := Aside0.mk (below_drew1 HB.out)
                  clear HO158
                  clear HO161
                  clear HO168
                  clear BK150
                  clear BK170
                  clear HB
                  have HO158 := n0_
                  have HO161 := n1_
                  have HO168 := n2_
                  have BK150 := n3_
                  have BK170 := n4_
                  have HB := n5_
                  clear n0_ n1_ n2_ n3_ n4_ n5_
                  refine start_ (n := 9) (S := fun w' => w'.cell? ⟨gb170, 0, none⟩ = some (.int .i64 t163) ∧ w'.cell? ⟨gb170, 1, none⟩ = some (.int .i64 t164) ∧ w'.cell? ⟨gb170, 2, none⟩ = some (.string t165) ∧ w'.cell? ⟨gb170, 3, none⟩ = some (.slice Ao44 t166.length co44) ∧ w'.cell? ⟨gb150, 0, none⟩ = some (.int .i64 a0_0) ∧ w'.cell? ⟨gb150, 1, none⟩ = some (.int .i64 a0_1) ∧ w'.cell? ⟨gb150, 2, none⟩ = some (.string a0_2) ∧ w'.cell? ⟨gb150, 3, none⟩ = some (.slice A0_3 l0_3.length c0_3)) (ds := []) #[false, false, false, false, false, false, false, false, false] (by kernel_rfl) rfl rfl ⟨(blk_cell BK170.out 0).trans rfl, (blk_cell BK170.out 1).trans rfl, (blk_cell BK170.out 2).trans rfl, (blk_cell BK170.out 3).trans rfl, (blk_cell BK150.out 0).trans rfl, (blk_cell BK150.out 1).trans rfl, (blk_cell BK150.out 2).trans rfl, (blk_cell BK150.out 3).trans rfl⟩ (fun hHeld => ?_); refine with_tabW vinculumlaw03_CodecRoundTrip.tab8 vinculumlaw03_CodecRoundTrip.bits8 (fun HT_ HW_ => ?_)
                  generalize w45.drew = w46 at HO158 HO161 HO168 BK150 BK170 HB hHeld ⊢
                  refine pure_ (i := 0) (N := some 36) (v := ?_) (a' := ?_) #[true, false, false, false, false, false, false, false, false] rfl rfl (any_of HT_.out (by kernel_rfl)) (fun _ _ _ h => h) (Or.inl ⟨by rfl, ?_⟩) ?_ ?_
                  rotate_left
                  · intro w'
                    go_simp
                    with_reducible rfl
                  rotate_left
                  · simp only [Act.put, List.setIfInBounds_toArray, List.set_cons_zero, List.set_cons_succ, i64_w, i32_w]
                    rfl
                  refine pure_ (i := 1) (N := some 37) (v := ?_) (a' := ?_) #[true, true, false, false, false, false, false, false, false] rfl rfl (any_of HT_.out (by kernel_rfl)) (fun _ _ _ h => h) (Or.inl ⟨by rfl, ?_⟩) ?_ ?_
                  rotate_left
                  · intro w'
                    go_simp
                    with_reducible rfl
                  rotate_left
                  · simp only [Act.put, List.setIfInBounds_toArray, List.set_cons_zero, List.set_cons_succ, i64_w, i32_w]
                    rfl
                  refine pure_ (i := 2) (N := some 38) (v := ?_) (a' := ?_) #[true, true, true, false, false, false, false, false, false] rfl rfl (any_of HT_.out (by kernel_rfl)) (fun _ _ _ h => h) (Or.inl ⟨by rfl, ?_⟩) ?_ ?_
                  rotate_left
                  · intro w'
                    go_simp
                    with_reducible rfl
                  rotate_left
                  · simp only [Act.put, List.setIfInBounds_toArray, List.set_cons_zero, List.set_cons_succ, i64_w, i32_w]
                    rfl
                  refine take_ (i := 3) (N := some 39) (v := ?_) (a' := ?_) #[true, true, true, true, false, false, false, false, false] rfl rfl (take_ofW HT_.out HW_.out (by kernel_rfl)) (fun _ _ _ h => h) (Or.inl ⟨by rfl, ?_⟩) hHeld ?_ ?_
                  rotate_left
                  · rintro w' ⟨s0, s1, s2, s3, s4, s5, s6, s7⟩
                    go_simp
                    with_reducible rfl
                  rotate_left
                  · simp only [Act.put, List.setIfInBounds_toArray, List.set_cons_zero, List.set_cons_succ, i64_w, i32_w]
                    rfl
                  refine take_ (i := 4) (N := some 40) (v := ?_) (a' := ?_) #[true, true, true, true, true, false, false, false, false] rfl rfl (take_ofW HT_.out HW_.out (by kernel_rfl)) (fun _ _ _ h => h) (Or.inl ⟨by rfl, ?_⟩) hHeld ?_ ?_
                  rotate_left
                  · rintro w' ⟨s0, s1, s2, s3, s4, s5, s6, s7⟩
                    go_simp
                    with_reducible rfl
                  rotate_left
                  · simp only [Act.put, List.setIfInBounds_toArray, List.set_cons_zero, List.set_cons_succ, i64_w, i32_w]
                    rfl
                  refine one_ (i := 5) (N := some 41) #[true, true, true, true, true, true, false, false, false] rfl rfl (one_of HT_.out (by kernel_rfl)) (by decide) (fun K hK => ?_)
                  refine goes_ Try.func13 (by kernel_rfl) rfl #[.agg #[.int .i64 a0_0, .int .i64 a0_1, .string a0_2, .slice A0_3 l0_3.length c0_3]] (by rfl) rfl rfl (by (try simp only [List.map_toArray, List.map_cons, List.map_nil]); first | done | rfl | (simp only [List.length_drop, List.length_take]; rfl)) ?_
                  with_reducible refine (vinculumlaw03_own.calls kj4 a0_0 a0_1 a0_2 _ _ l0_3 t171 t172 t173 t174 _ ?side1 ?side2 A25.out).mono ?_
                  (case side1 => repeat (first | exact (Kd.C_below HR0_3.out HB.out) | (with_reducible refine Kd.C_alloc ?_ _) | (with_reducible refine Kd.C_drewN ?_ _) | (with_reducible refine Kd.C_drew ?_)))
                  (case side2 => exact HC0_3.out)
                  rintro e w47 ⟨v175, rfl, ho0, hb⟩
                  refine ⟨_, rfl, ?_⟩
                  have n0_ := Aside0.mk (Kd.R_elder' (by (with_reducible repeat (first | apply Kd.R_alloc | apply Kd.R_drewN | apply Kd.R_drew)); exact HO158.out) (Kd.R_base ho0) hb)
                  have n1_ := Aside0.mk (Kd.R_below (by (with_reducible repeat (first | apply Kd.R_alloc | apply Kd.R_drewN | apply Kd.R_drew)); exact HO161.out) hb)
                  have n2_ := Aside0.mk (Kd.R_elder' (by (with_reducible repeat (first | apply Kd.R_alloc | apply Kd.R_drewN | apply Kd.R_drew)); exact HO168.out) (Kd.R_base ho0) hb)
                  have n3_ := Aside0.mk (Kd.R_lower (Kd.R_newB (Kd.R_new' (Kd.R_new' ho0 (Kd.R_lt (by (with_reducible repeat (first | apply Kd.R_alloc | apply Kd.R_drewN | apply Kd.R_drew)); exact HO158.out))) (Kd.R_lt (by (with_reducible repeat (first | apply Kd.R_alloc | apply Kd.R_drewN | apply Kd.R_drew)); exact HO168.out))) (g := gb170) (o := .cells #[.int .i64 t163, .int .i64 t164, .string t165, .slice Ao44 t166.length co44] 29 (0, 0)) (by (with_reducible repeat (first | refine blk_drewN ?_ _ | refine blk_drew ?_ | refine blk_alloc ?_ _)); exact BK170.out)) (below_size (by repeat (first | (with_reducible first | exact HB.out | apply below_alloc | apply pw_below_drewN | apply below_drew1 | refine below_set ?_ GE150.out | refine below_set ?_ GE170.out) | exact HB.out))))
                  have n4_ := Aside0.mk (blk_below (g := gb150) (o := .cells #[.int .i64 a0_0, .int .i64 a0_1, .string a0_2, .slice A0_3 l0_3.length c0_3] 24 (0, 0)) (by (with_reducible repeat (first | refine blk_drewN ?_ _ | refine blk_drew ?_ | refine blk_alloc ?_ _)); exact BK150.out) hb)
                  have n5_ := Aside0.mk (blk_below (g := gb170) (o := .cells #[.int .i64 t163, .int .i64 t164, .string t165, .slice Ao44 t166.length co44] 29 (0, 0)) (by (with_reducible repeat (first | refine blk_drewN ?_ _ | refine blk_drew ?_ | refine blk_alloc ?_ _)); exact BK170.out) hb)
                  have n6_ := Aside0.mk (below_step (by repeat (first | (with_reducible first | exact HB.out | apply below_alloc | apply pw_below_drewN | apply below_drew1 | refine below_set ?_ GE150.out | refine below_set ?_ GE170.out) | exact HB.out)) hb)
                  clear HO158
                  clear HO161
                  clear HO168
                  clear BK150
                  clear BK170
                  clear HB
                  have HO158 := n0_
                  have HO161 := n1_
                  have HO168 := n2_
                  have HO176 := n3_
                  have BK150 := n4_
                  have BK170 := n5_
                  have HB := n6_
                  clear n0_ n1_ n2_ n3_ n4_ n5_ n6_
                  (try clear hb)
                  (try clear hb2)
                  (try clear hk)
                  (try clear hi)
                  (try clear ho0)
                  obtain ⟨Ao48, co48, eo48⟩ := Kd.R_slice HO176.out
                  (first | subst eo48 | (injection eo48 with f1_ f2_ f3_; have f4_ := f1_.symm; have f5_ := f3_.symm; clear f1_ f2_ f3_; subst f4_; subst f5_))
                  refine hK.out _ _ ⟨(blk_cell BK170.out 0).trans rfl, (blk_cell BK170.out 1).trans rfl, (blk_cell BK170.out 2).trans rfl, (blk_cell BK170.out 3).trans rfl, (blk_cell BK150.out 0).trans rfl, (blk_cell BK150.out 1).trans rfl, (blk_cell BK150.out 2).trans rfl, (blk_cell BK150.out 3).trans rfl⟩ (fun hHeld => ?_)
                  clear hK K
                  refine norm_ (a' := ?_) ?_ ?_
                  rotate_left
                  · show Act.put _ (some 41) _ = _
                    simp only [Act.put, List.setIfInBounds_toArray, List.set_cons_zero, List.set_cons_succ, i64_w, i32_w]
                    rfl
                  refine one_ (i := 6) (N := some 42) #[true, true, true, true, true, true, true, false, false] rfl rfl (one_of HT_.out (by kernel_rfl)) (by decide) (fun K hK => ?_)
                  refine goes_ Try.func20 (by kernel_rfl) rfl #[.agg #[.int .i64 t163, .int .i64 t164, .string t165, .slice Ao44 t166.length co44], .agg #[.int .i64 t171, .int .i64 t172, .string t173, .slice Ao48 t174.length co48]] (by rfl) rfl rfl (by (try simp only [List.map_toArray, List.map_cons, List.map_nil]); first | done | rfl | (simp only [List.length_drop, List.length_take]; rfl)) ?_
                  with_reducible refine (codec_Equal.calls kj4 t163 t164 t165 _ _ t166 t171 t172 t173 _ _ t174 false _ ?side1 ?side2 ?side3 ?side4 A26.out).mono ?_
                  (case side1 => repeat (first | exact (Kd.R_reads' HO168.out).2.2 | (with_reducible refine Kd.C_alloc ?_ _) | (with_reducible refine Kd.C_drewN ?_ _) | (with_reducible refine Kd.C_drew ?_)))
                  (case side2 => exact (Kd.R_reads' HO168.out).2.1)
                  (case side3 => repeat (first | exact (Kd.R_reads' HO176.out).2.2 | (with_reducible refine Kd.C_alloc ?_ _) | (with_reducible refine Kd.C_drewN ?_ _) | (with_reducible refine Kd.C_drew ?_)))
                  (case side4 => exact (Kd.R_reads' HO176.out).2.1)
                  rintro e w49 ⟨rfl, hb⟩
                  refine ⟨_, rfl, ?_⟩
                  have n0_ := Aside0.mk (Kd.R_below (by (with_reducible repeat (first | apply Kd.R_alloc | apply Kd.R_drewN | apply Kd.R_drew)); exact HO158.out) hb)
                  have n1_ := Aside0.mk (Kd.R_below (by (with_reducible repeat (first | apply Kd.R_alloc | apply Kd.R_drewN | apply Kd.R_drew)); exact HO161.out) hb)
                  have n2_ := Aside0.mk (Kd.R_below (by (with_reducible repeat (first | apply Kd.R_alloc | apply Kd.R_drewN | apply Kd.R_drew)); exact HO168.out) hb)
                  have n3_ := Aside0.mk (Kd.R_below (by (with_reducible repeat (first | apply Kd.R_alloc | apply Kd.R_drewN | apply Kd.R_drew)); exact HO176.out) hb)
                  have n4_ := Aside0.mk (blk_below (g := gb150) (o := .cells #[.int .i64 a0_0, .int .i64 a0_1, .string a0_2, .slice A0_3 l0_3.length c0_3] 24 (0, 0)) (by (with_reducible repeat (first | refine blk_drewN ?_ _ | refine blk_drew ?_ | refine blk_alloc ?_ _)); exact BK150.out) hb)
                  have n5_ := Aside0.mk (blk_below (g := gb170) (o := .cells #[.int .i64 t163, .int .i64 t164, .string t165, .slice Ao44 t166.length co44] 29 (0, 0)) (by (with_reducible repeat (first | refine blk_drewN ?_ _ | refine blk_drew ?_ | refine blk_alloc ?_ _)); exact BK170.out) hb)
                  have n6_ := Aside0.mk (below_step (by repeat (first | (with_reducible first | exact HB.out | apply below_alloc | apply pw_below_drewN | apply below_drew1 | refine below_set ?_ GE150.out | refine below_set ?_ GE170.out) | exact HB.out)) hb)
                  clear HO158
                  clear HO161
                  clear HO168
                  clear HO176
                  clear BK150
                  clear BK170
                  clear HB
                  have HO158 := n0_
                  have HO161 := n1_
                  have HO168 := n2_
                  have HO176 := n3_
                  have BK150 := n4_
                  have BK170 := n5_
                  have HB := n6_
                  clear n0_ n1_ n2_ n3_ n4_ n5_ n6_
                  (try clear hb)
                  (try clear hb2)
                  (try clear hk)
                  (try clear hi)
                  refine hK.out _ _ ⟨(blk_cell BK170.out 0).trans rfl, (blk_cell BK170.out 1).trans rfl, (blk_cell BK170.out 2).trans rfl, (blk_cell BK170.out 3).trans rfl, (blk_cell BK150.out 0).trans rfl, (blk_cell BK150.out 1).trans rfl, (blk_cell BK150.out 2).trans rfl, (blk_cell BK150.out 3).trans rfl⟩ (fun hHeld => ?_)
                  clear hK K
                  refine norm_ (a' := ?_) ?_ ?_
                  rotate_left
                  · show Act.put _ (some 42) _ = _
                    simp only [Act.put, List.setIfInBounds_toArray, List.set_cons_zero, List.set_cons_succ, i64_w, i32_w]
                    rfl
                  refine pure_ (i := 7) (N := some 43) (v := ?_) (a' := ?_) #[true, true, true, true, true, true, true, true, false] rfl rfl (any_of HT_.out (by kernel_rfl)) (fun _ _ _ h => h) (Or.inl ⟨by rfl, ?_⟩) ?_ ?_
                  rotate_left
                  · intro w'
                    go_simp
                    with_reducible rfl
                  rotate_left
                  · simp only [Act.put, List.setIfInBounds_toArray, List.set_cons_zero, List.set_cons_succ, i64_w, i32_w]
                    rfl
                  refine pure_ (i := 8) (N := some 44) (v := ?_) (a' := ?_) #[true, true, true, true, true, true, true, true, true] rfl rfl (any_of HT_.out (by kernel_rfl)) (fun _ _ _ h => h) (Or.inl ⟨by rfl, ?_⟩) ?_ ?_
                  rotate_left
                  · intro w'
                    go_simp
                    with_reducible rfl
                  rotate_left
                  · simp only [Act.put, List.setIfInBounds_toArray, List.set_cons_zero, List.set_cons_succ, i64_w, i32_w]
                    rfl
                  refine done_ (done_of HT_.out (by kernel_rfl)) ?_
                  try go_wp2
                  go_ret
                  exact ⟨by first | rfl | (simp [errW_none, errW_some] <;> rfl) | (simp [*, errW_none, errW_some] <;> rfl), by repeat (first | (with_reducible first | exact HB.out | apply below_alloc | apply pw_below_drewN | apply below_drew1 | refine below_set ?_ GE150.out | refine below_set ?_ GE170.out) | exact HB.out)⟩
              · rw [if_neg c24] at H
                have c24b0 : (t169 == 0) = false := beq_eq_false_iff_ne.mpr c24
                have c24b1 : (t169 != 0) = true := bne_iff_ne.mpr c24
                obtain rfl := Option.some.inj H
                obtain ⟨Ao50, co50, eo50⟩ := Kd.R_slice HO161.out
                subst eo50
                try go_wp2_with (first | ((with_reducible refine gate_callee (f := 22) rfl ?_); refine goesL_ (some 33) rfl rfl Try.func22 (by kernel_rfl) rfl #[.slice Ao50 t159.length co50] rfl (by (try simp only [List.map_toArray, List.map_cons, List.map_nil]); first | done | rfl | (simp only [List.length_drop, List.length_take]; rfl)) ?_; (with_reducible refine (codec_Decode.calls kj4 _ _ t159 t163 t164 t165 t166 t169 _ ?side1 ?side2 A23.out).mono ?_); (case side1 => repeat (first | exact (Kd.R_reads' HO161.out).2.2 | (with_reducible refine Kd.C_alloc ?_ _) | (with_reducible refine Kd.C_drewN ?_ _) | (with_reducible refine Kd.C_drew ?_))); (case side2 => exact (Kd.R_reads' HO161.out).2.1); rintro e w51 ⟨v167, rfl, ho0, hb⟩; refine ⟨_, rfl, ?_⟩; have n0_ := Aside0.mk (Kd.R_elder' (by (with_reducible repeat (first | apply Kd.R_alloc | apply Kd.R_drewN | apply Kd.R_drew)); exact HO158.out) (Kd.R_base ho0) hb); have n1_ := Aside0.mk (Kd.R_below (by (with_reducible repeat (first | apply Kd.R_alloc | apply Kd.R_drewN | apply Kd.R_drew)); exact HO161.out) hb); have n2_ := Aside0.mk (Kd.R_lower (Kd.R_new' ho0 (Kd.R_lt (by (with_reducible repeat (first | apply Kd.R_alloc | apply Kd.R_drewN | apply Kd.R_drew)); exact HO158.out))) (below_size (by repeat (first | (with_reducible first | exact HB.out | apply below_alloc | apply pw_below_drewN | apply below_drew1 | refine below_set ?_ GE150.out) | exact HB.out)))); have n3_ := Aside0.mk (blk_below (g := gb150) (o := .cells #[.int .i64 a0_0, .int .i64 a0_1, .string a0_2, .slice A0_3 l0_3.length c0_3] 24 (0, 0)) (by (with_reducible repeat (first | refine blk_drewN ?_ _ | refine blk_drew ?_ | refine blk_alloc ?_ _)); exact BK150.out) hb); have n4_ := Aside0.mk (below_step (by repeat (first | (with_reducible first | exact HB.out | apply below_alloc | apply pw_below_drewN | apply below_drew1 | refine below_set ?_ GE150.out) | exact HB.out)) hb); clear HO158; clear HO161; clear BK150; clear HB; have HO158 := n0_; have HO161 := n1_; have HO168 := n2_; have BK150 := n3_; have HB := n4_; clear n0_ n1_ n2_ n3_ n4_; (try clear hb); (try clear hb2); (try clear hk); (try clear hi); (try clear ho0)) | ((with_reducible refine gate_dst (N := 7) rfl ?_); (try (refine gate_guard (by rfl) ?_; dsimp only)); refine box_event ?hg (N := 7) ?hd (cs := #[.int .i64 0, .int .i64 0, .string (⟨#[]⟩ : ByteArray), .slice none 0 0]) (t := 29) ?hr ?_; (case hd => rfl); (case hg => rfl); (case hr => first | (go_simp; done) | (go_simp; rfl)); intro gb170 hg w52 hbox hb; have n0_ := Aside0.mk (Kd.R_below (Kd.R_elderB (by (with_reducible repeat (first | apply Kd.R_alloc | apply Kd.R_drewN | apply Kd.R_drew)); exact HO158.out) gb170 (Nat.le_of_eq hg.symm)) hb); have n1_ := Aside0.mk (Kd.R_below (by (with_reducible repeat (first | apply Kd.R_alloc | apply Kd.R_drewN | apply Kd.R_drew)); exact HO161.out) hb); have n2_ := Aside0.mk (Kd.R_below (Kd.R_elderB (by (with_reducible repeat (first | apply Kd.R_alloc | apply Kd.R_drewN | apply Kd.R_drew)); exact HO168.out) gb170 (Nat.le_of_eq hg.symm)) hb); have n3_ := Aside0.mk (blk_below (g := gb150) (o := .cells #[.int .i64 a0_0, .int .i64 a0_1, .string a0_2, .slice A0_3 l0_3.length c0_3] 24 (0, 0)) (by (with_reducible repeat (first | refine blk_drewN ?_ _ | refine blk_drew ?_ | refine blk_alloc ?_ _)); exact BK150.out) hb); have n4_ := Aside0.mk (below_step (by repeat (first | (with_reducible first | exact HB.out | apply below_alloc | apply pw_below_drewN | apply below_drew1 | refine below_set ?_ GE150.out) | exact HB.out)) hb); have n5_ := Aside0.mk (hbox); have n6_ := Aside0.mk ((by rw [hg]; exact (below_size (by repeat (first | (with_reducible first | exact HB.out | apply below_alloc | apply pw_below_drewN | apply below_drew1 | refine below_set ?_ GE150.out) | exact HB.out))) : w.heap.size ≤ gb170)); have n7_ := Aside0.mk ((by rw [hg]; exact (below_size (by repeat (first | (with_reducible first | exact HB.out | apply below_alloc | apply pw_below_drewN | apply below_drew1 | refine below_set ?_ GE150.out) | exact HB.out))) : w.heap.size ≤ gb170)); have n8_ := Aside0.mk ((by rw [hg]; exact Nat.ne_of_lt (blk_lt (g := gb150) (o := .cells #[.int .i64 a0_0, .int .i64 a0_1, .string a0_2, .slice A0_3 l0_3.length c0_3] 24 (0, 0)) (by (with_reducible repeat (first | refine blk_drewN ?_ _ | refine blk_drew ?_ | refine blk_alloc ?_ _)); exact BK150.out)) : gb150 ≠ gb170)); have n9_ := Aside0.mk ((by rw [hg]; exact Nat.ne_of_gt (blk_lt (g := gb150) (o := .cells #[.int .i64 a0_0, .int .i64 a0_1, .string a0_2, .slice A0_3 l0_3.length c0_3] 24 (0, 0)) (by (with_reducible repeat (first | refine blk_drewN ?_ _ | refine blk_drew ?_ | refine blk_alloc ?_ _)); exact BK150.out)) : gb170 ≠ gb150)); clear HO158; clear HO161; clear HO168; clear BK150; clear HB; have HO158 := n0_; have HO161 := n1_; have HO168 := n2_; have BK150 := n3_; have HB := n4_; have BK170 := n5_; have GW170 := n6_; have GE170 := n7_; have NB150_170 := n8_; have NB170_150 := n9_; clear n0_ n1_ n2_ n3_ n4_ n5_ n6_ n7_ n8_ n9_; clear hb hbox hg; have hnb53 := NB170_150.out; have hnc53 := NB150_170.out; have hcz54_0 : w52.cell? ⟨gb170, 0, none⟩ = some (.int .i64 0) := (blk_cell BK170.out 0).trans rfl; have hcz54_1 : w52.cell? ⟨gb170, 1, none⟩ = some (.int .i64 0) := (blk_cell BK170.out 1).trans rfl; have hcz54_2 : w52.cell? ⟨gb170, 2, none⟩ = some (.string (⟨#[]⟩ : ByteArray)) := (blk_cell BK170.out 2).trans rfl; have hcz54_3 : w52.cell? ⟨gb170, 3, none⟩ = some (.slice none 0 0) := (blk_cell BK170.out 3).trans rfl; have hfz54_0 := blk_frozen BK170.out 0; have hfz54_1 := blk_frozen BK170.out 1; have hfz54_2 := blk_frozen BK170.out 2; have hfz54_3 := blk_frozen BK170.out 3; obtain ⟨Ao55, co55, eo55⟩ := Kd.R_slice HO168.out; subst eo55))
                have n0_ : Aside0 (Kd.R k29 29 ((((w52.setCell ⟨gb170, 0, none⟩ (.int .i64 t163)).setCell ⟨gb170, 1, none⟩ (.int .i64 t164)).setCell ⟨gb170, 2, none⟩ (.string t165)).setCell ⟨gb170, 3, none⟩ (.slice Ao55 t166.length co55)) w.heap.size (fun k_ => some k_ ≠ (.slice Ao55 t166.length co55 : Value).ownBlock ∧ k_ ≠ gb170) (.slice Ao20 t156.length co20) t156) := ⟨by (with_reducible repeat (first | apply Kd.R_alloc | apply Kd.R_drewN | apply Kd.R_drew)); exact Kd.R_mono (Kd.R_far (p := ⟨gb170, 3, none⟩) (Kd.R_far (p := ⟨gb170, 2, none⟩) (Kd.R_far (p := ⟨gb170, 1, none⟩) (Kd.R_far (p := ⟨gb170, 0, none⟩) (Kd.R_mono HO158.out (fun k_ hk => (⟨hk, hk.2⟩ : _ ∧ k_ ≠ gb170))) (fun _ hk => hk.2) (.int .i64 t163)) (fun _ hk => hk.2) (.int .i64 t164)) (fun _ hk => hk.2) (.string t165)) (fun _ hk => hk.2) (.slice Ao55 t166.length co55)) (fun _ hk => ⟨hk.1.1.2, hk.1.2⟩)⟩
                have n1_ : Aside0 (Kd.R (Kd.int .u8) 5 ((((w52.setCell ⟨gb170, 0, none⟩ (.int .i64 t163)).setCell ⟨gb170, 1, none⟩ (.int .i64 t164)).setCell ⟨gb170, 2, none⟩ (.string t165)).setCell ⟨gb170, 3, none⟩ (.slice Ao55 t166.length co55)) w.heap.size (fun _ => True) (.slice Ao50 t159.length co50) t159) := ⟨by (with_reducible repeat (first | apply Kd.R_alloc | apply Kd.R_drewN | apply Kd.R_drew)); exact Kd.R_mono (Kd.R_far (p := ⟨gb170, 3, none⟩) (Kd.R_far (p := ⟨gb170, 2, none⟩) (Kd.R_far (p := ⟨gb170, 1, none⟩) (Kd.R_far (p := ⟨gb170, 0, none⟩) (Kd.R_types HO161.out BK170.out (by decide)) (fun _ hk => hk.2) (.int .i64 t163)) (fun _ hk => hk.2) (.int .i64 t164)) (fun _ hk => hk.2) (.string t165)) (fun _ hk => hk.2) (.slice Ao55 t166.length co55)) (fun _ hk => trivial)⟩
                have n2_ : Aside0 (Kd.R k29 29 ((((w52.setCell ⟨gb170, 0, none⟩ (.int .i64 t163)).setCell ⟨gb170, 1, none⟩ (.int .i64 t164)).setCell ⟨gb170, 2, none⟩ (.string t165)).setCell ⟨gb170, 3, none⟩ (.slice Ao55 t166.length co55)) w.heap.size (fun k_ => some k_ ≠ (.slice Ao20 t156.length co20 : Value).ownBlock ∧ k_ ≠ gb170) (.slice Ao55 t166.length co55) t166) := ⟨by (with_reducible repeat (first | apply Kd.R_alloc | apply Kd.R_drewN | apply Kd.R_drew)); exact Kd.R_mono (Kd.R_far (p := ⟨gb170, 3, none⟩) (Kd.R_far (p := ⟨gb170, 2, none⟩) (Kd.R_far (p := ⟨gb170, 1, none⟩) (Kd.R_far (p := ⟨gb170, 0, none⟩) (Kd.R_mono HO168.out (fun k_ hk => (⟨hk, hk.2⟩ : _ ∧ k_ ≠ gb170))) (fun _ hk => hk.2) (.int .i64 t163)) (fun _ hk => hk.2) (.int .i64 t164)) (fun _ hk => hk.2) (.string t165)) (fun _ hk => hk.2) (.slice Ao55 t166.length co55)) (fun _ hk => ⟨hk.1.1.2, hk.1.2⟩)⟩
                have n3_ : Aside0 (((((w52.setCell ⟨gb170, 0, none⟩ (.int .i64 t163)).setCell ⟨gb170, 1, none⟩ (.int .i64 t164)).setCell ⟨gb170, 2, none⟩ (.string t165)).setCell ⟨gb170, 3, none⟩ (.slice Ao55 t166.length co55)).heap[gb150]? = some (.cells #[.int .i64 a0_0, .int .i64 a0_1, .string a0_2, .slice A0_3 l0_3.length c0_3] 24 (0, 0))) := ⟨by (with_reducible repeat (first | refine blk_drewN ?_ _ | refine blk_drew ?_ | refine blk_alloc ?_ _)); refine blk_far ?_ NB150_170.out _; (with_reducible repeat (first | refine blk_drewN ?_ _ | refine blk_drew ?_ | refine blk_alloc ?_ _)); refine blk_far ?_ NB150_170.out _; (with_reducible repeat (first | refine blk_drewN ?_ _ | refine blk_drew ?_ | refine blk_alloc ?_ _)); refine blk_far ?_ NB150_170.out _; (with_reducible repeat (first | refine blk_drewN ?_ _ | refine blk_drew ?_ | refine blk_alloc ?_ _)); refine blk_far ?_ NB150_170.out _; (with_reducible repeat (first | refine blk_drewN ?_ _ | refine blk_drew ?_ | refine blk_alloc ?_ _)); exact BK150.out⟩
                have n4_ : Aside0 (((((w52.setCell ⟨gb170, 0, none⟩ (.int .i64 t163)).setCell ⟨gb170, 1, none⟩ (.int .i64 t164)).setCell ⟨gb170, 2, none⟩ (.string t165)).setCell ⟨gb170, 3, none⟩ (.slice Ao55 t166.length co55)).heap[gb170]? = some (.cells #[.int .i64 t163, .int .i64 t164, .string t165, .slice Ao55 t166.length co55] 29 (0, 0))) := ⟨by (with_reducible repeat (first | refine blk_drewN ?_ _ | refine blk_drew ?_ | refine blk_alloc ?_ _)); refine blk_put (cs := #[.int .i64 t163, .int .i64 t164, .string t165, .slice none 0 0]) ?_ 3 _ rfl; (with_reducible repeat (first | refine blk_drewN ?_ _ | refine blk_drew ?_ | refine blk_alloc ?_ _)); refine blk_put (cs := #[.int .i64 t163, .int .i64 t164, .string (⟨#[]⟩ : ByteArray), .slice none 0 0]) ?_ 2 _ rfl; (with_reducible repeat (first | refine blk_drewN ?_ _ | refine blk_drew ?_ | refine blk_alloc ?_ _)); refine blk_put (cs := #[.int .i64 t163, .int .i64 0, .string (⟨#[]⟩ : ByteArray), .slice none 0 0]) ?_ 1 _ rfl; (with_reducible repeat (first | refine blk_drewN ?_ _ | refine blk_drew ?_ | refine blk_alloc ?_ _)); refine blk_put (cs := #[.int .i64 0, .int .i64 0, .string (⟨#[]⟩ : ByteArray), .slice none 0 0]) ?_ 0 _ rfl; (with_reducible repeat (first | refine blk_drewN ?_ _ | refine blk_drew ?_ | refine blk_alloc ?_ _)); exact BK170.out⟩
                have n5_ : Aside0 (Below w.heap.size w ((((w52.setCell ⟨gb170, 0, none⟩ (.int .i64 t163)).setCell ⟨gb170, 1, none⟩ (.int .i64 t164)).setCell ⟨gb170, 2, none⟩ (.string t165)).setCell ⟨gb170, 3, none⟩ (.slice Ao55 t166.length co55))) := ⟨by repeat (first | (with_reducible first | exact HB.out | apply below_alloc | apply pw_below_drewN | apply below_drew1 | refine below_set ?_ GE150.out | refine below_set ?_ GE170.out) | exact HB.out)⟩
                (try clear HO158)
                (try clear HO161)
                (try clear HO168)
                (try clear BK150)
                (try clear BK170)
                (try clear HB)
                generalize ((((w52.setCell ⟨gb170, 0, none⟩ (.int .i64 t163)).setCell ⟨gb170, 1, none⟩ (.int .i64 t164)).setCell ⟨gb170, 2, none⟩ (.string t165)).setCell ⟨gb170, 3, none⟩ (.slice Ao55 t166.length co55)) = w56 at n0_ n1_ n2_ n3_ n4_ n5_ ⊢
                have HO158 := n0_
                have HO161 := n1_
                have HO168 := n2_
                have BK150 := n3_
                have BK170 := n4_
                have HB := n5_
                clear n0_ n1_ n2_ n3_ n4_ n5_
                have n0_ := Aside0.mk (Kd.R_drew HO158.out)
                have n1_ := Aside0.mk (Kd.R_drew HO161.out)
                have n2_ := Aside0.mk (Kd.R_drew HO168.out)
                have n3_ := Aside0.mk (blk_drew BK150.out)
                have n4_ := Aside0.mk (blk_drew BK170.out)
                have n5_ := Aside0.mk (below_drew1 HB.out)
                clear HO158
                clear HO161
                clear HO168
                clear BK150
                clear BK170
                clear HB
                have HO158 := n0_
                have HO161 := n1_
                have HO168 := n2_
                have BK150 := n3_
                have BK170 := n4_
                have HB := n5_
                clear n0_ n1_ n2_ n3_ n4_ n5_
                refine start_ (n := 9) (S := fun w' => True) (ds := []) #[false, false, false, false, false, false, false, false, false] (by kernel_rfl) rfl rfl trivial (fun hHeld => ?_); refine with_tabW vinculumlaw03_CodecRoundTrip.tab8 vinculumlaw03_CodecRoundTrip.bits8 (fun HT_ HW_ => ?_)
                generalize w56.drew = w57 at HO158 HO161 HO168 BK150 BK170 HB hHeld ⊢
                refine pure_ (i := 0) (N := some 36) (v := ?_) (a' := ?_) #[true, false, false, false, false, false, false, false, false] rfl rfl (any_of HT_.out (by kernel_rfl)) (fun _ _ _ h => h) (Or.inl ⟨by rfl, ?_⟩) ?_ ?_
                rotate_left
                · intro w'
                  go_simp
                  with_reducible rfl
                rotate_left
                · simp only [Act.put, List.setIfInBounds_toArray, List.set_cons_zero, List.set_cons_succ, i64_w, i32_w]
                  rfl
                refine pure_ (i := 1) (N := some 37) (v := ?_) (a' := ?_) #[true, true, false, false, false, false, false, false, false] rfl rfl (any_of HT_.out (by kernel_rfl)) (fun _ _ _ h => h) (Or.inl ⟨by rfl, ?_⟩) ?_ ?_
                rotate_left
                · intro w'
                  go_simp
                  with_reducible rfl
                rotate_left
                · simp only [Act.put, List.setIfInBounds_toArray, List.set_cons_zero, List.set_cons_succ, i64_w, i32_w]
                  rfl
                refine pure_ (i := 2) (N := some 38) (v := ?_) (a' := ?_) #[true, true, true, false, false, false, false, false, false] rfl rfl (any_of HT_.out (by kernel_rfl)) (fun _ _ _ h => h) (Or.inl ⟨by rfl, ?_⟩) ?_ ?_
                rotate_left
                · intro w'
                  go_simp
                  with_reducible rfl
                rotate_left
                · simp only [Act.put, List.setIfInBounds_toArray, List.set_cons_zero, List.set_cons_succ, i64_w, i32_w]
                  rfl
                refine pure_ (i := 3) (N := some 39) (v := undef) (a' := ?_) #[true, true, true, true, false, false, false, false, false] rfl rfl (any_of HT_.out (by kernel_rfl)) (fun _ _ _ h => h) (Or.inr ⟨by rfl, rfl⟩) ?_ ?_
                rotate_left
                · simp only [Act.put, List.setIfInBounds_toArray, List.set_cons_zero, List.set_cons_succ, i64_w, i32_w]
                  rfl
                refine pure_ (i := 4) (N := some 40) (v := undef) (a' := ?_) #[true, true, true, true, true, false, false, false, false] rfl rfl (any_of HT_.out (by kernel_rfl)) (fun _ _ _ h => h) (Or.inr ⟨by rfl, rfl⟩) ?_ ?_
                rotate_left
                · simp only [Act.put, List.setIfInBounds_toArray, List.set_cons_zero, List.set_cons_succ, i64_w, i32_w]
                  rfl
                refine pure_ (i := 5) (N := some 41) (v := undef) (a' := ?_) #[true, true, true, true, true, true, false, false, false] rfl rfl (any_of HT_.out (by kernel_rfl)) (fun _ _ _ h => h) (Or.inr ⟨by rfl, rfl⟩) ?_ ?_
                rotate_left
                · simp only [Act.put, List.setIfInBounds_toArray, List.set_cons_zero, List.set_cons_succ, i64_w, i32_w]
                  rfl
                refine pure_ (i := 6) (N := some 42) (v := undef) (a' := ?_) #[true, true, true, true, true, true, true, false, false] rfl rfl (any_of HT_.out (by kernel_rfl)) (fun _ _ _ h => h) (Or.inr ⟨by rfl, rfl⟩) ?_ ?_
                rotate_left
                · simp only [Act.put, List.setIfInBounds_toArray, List.set_cons_zero, List.set_cons_succ, i64_w, i32_w]
                  rfl
                refine pure_ (i := 7) (N := some 43) (v := undef) (a' := ?_) #[true, true, true, true, true, true, true, true, false] rfl rfl (any_of HT_.out (by kernel_rfl)) (fun _ _ _ h => h) (Or.inr ⟨by rfl, rfl⟩) ?_ ?_
                rotate_left
                · simp only [Act.put, List.setIfInBounds_toArray, List.set_cons_zero, List.set_cons_succ, i64_w, i32_w]
                  rfl
                refine pure_ (i := 8) (N := some 44) (v := ?_) (a' := ?_) #[true, true, true, true, true, true, true, true, true] rfl rfl (any_of HT_.out (by kernel_rfl)) (fun _ _ _ h => h) (Or.inl ⟨by rfl, ?_⟩) ?_ ?_
                rotate_left
                · intro w'
                  go_simp
                  with_reducible rfl
                rotate_left
                · simp only [Act.put, List.setIfInBounds_toArray, List.set_cons_zero, List.set_cons_succ, i64_w, i32_w]
                  rfl
                refine done_ (done_of HT_.out (by kernel_rfl)) ?_
                try go_wp2
                go_ret
                exact ⟨by first | rfl | (simp [errW_none, errW_some] <;> rfl) | (simp [*, errW_none, errW_some] <;> rfl), by repeat (first | (with_reducible first | exact HB.out | apply below_alloc | apply pw_below_drewN | apply below_drew1 | refine below_set ?_ GE150.out | refine below_set ?_ GE170.out) | exact HB.out)⟩
            · rw [if_neg c22] at H
              have c22b0 : (t162 == 0) = false := beq_eq_false_iff_ne.mpr c22
              have c22b1 : (t162 != 0) = true := bne_iff_ne.mpr c22
              (first | rw [c22b0] | (simp only [i64_w, i32_w]; rw [c22b0]) | skip)
              have H' := Aside0.mk H
              clear H
              go_wp2
              go_meet
              case rel => exact ⟨_, H', ⟨by have := HJ4.out; first | omega | exact Nat.le_refl _⟩, ⟨by (with_reducible repeat (first | refine blk_drewN ?_ _ | refine blk_drew ?_ | refine blk_alloc ?_ _)); exact BK150.out⟩, ⟨by repeat (first | (with_reducible first | exact HB.out | apply below_alloc | apply pw_below_drewN | apply below_drew1 | refine below_set ?_ GE150.out) | exact HB.out)⟩⟩
          case rest =>
            clear HC17
            try clear c1
            try clear c2
            try clear p2
            try clear c3
            try clear c4
            try clear c5
            try clear c10
            try clear c11
            try clear c12
            try clear c13
            try clear c14
            try clear c20
            try clear c22
            try clear c22b0
            try clear c22b1
            try clear c24
            try clear c24b0
            try clear c24b1
            try clear c27
            try clear c31
            try clear c42
            try clear c53
            try clear hcz10_0
            try clear hcz10_1
            try clear hcz10_2
            try clear hcz10_3
            try clear hcz12_0
            try clear hcz12_1
            try clear hcz12_2
            try clear hcz12_3
            try clear hcz18_0
            try clear hcz18_1
            try clear hcz18_2
            try clear hcz18_3
            try clear hcz32_0
            try clear hcz32_1
            try clear hcz32_2
            try clear hcz32_3
            try clear hcz43_0
            try clear hcz43_1
            try clear hcz43_2
            try clear hcz43_3
            try clear hcz54_0
            try clear hcz54_1
            try clear hcz54_2
            try clear hcz54_3
            try clear hfz10_0
            try clear hfz10_1
            try clear hfz10_2
            try clear hfz10_3
            try clear hfz12_0
            try clear hfz12_1
            try clear hfz12_2
            try clear hfz12_3
            try clear hfz18_0
            try clear hfz18_1
            try clear hfz18_2
            try clear hfz18_3
            try clear hfz32_0
            try clear hfz32_1
            try clear hfz32_2
            try clear hfz32_3
            try clear hfz43_0
            try clear hfz43_1
            try clear hfz43_2
            try clear hfz43_3
            try clear hfz54_0
            try clear hfz54_1
            try clear hfz54_2
            try clear hfz54_3
            obtain ⟨kq, HA, HJ16, BK150, HB⟩ := hcut
            cases kq with
            | zero => exact absurd HA.out (by simp [vinculumlaw03_CodecRoundTrip.j1])
            | succ kj16 =>
              have H := HA.out
              clear HA
              simp only [vinculumlaw03_CodecRoundTrip.j1] at H
              replace H := Option.bind_eq_some_iff.mp H
              obtain ⟨⟨t178, t179, t180, t181, t184⟩, A580, H⟩ := H
              replace H : (if t184 = 0 then ((codec_Encode.f kj16 t178 t179 t180 t181).bind fun bt186 => (if bt186.2 = 0 then (if (strOfNums bt186.1).toList = (strOfNums l1).toList then ((codec_Valid.f kj16 t178 t179 t180 t181).bind fun t190 => (some t190)) else (some false)) else (some false))) else (some (t184 == 4))) = some r := H
              have A58 := Aside0.mk A580
              clear A580
              by_cases c59 : t184 = 0
              · rw [if_pos c59] at H
                have c59b0 : (t184 == 0) = true := beq_iff_eq.mpr c59
                have c59b1 : (t184 != 0) = false := bne_eq_false_iff_eq.mpr c59
                clear c59
                replace H := Option.bind_eq_some_iff.mp H
                obtain ⟨⟨t186, t189⟩, A600, H⟩ := H
                replace H : (if t189 = 0 then (if (strOfNums t186).toList = (strOfNums l1).toList then ((codec_Valid.f kj16 t178 t179 t180 t181).bind fun t190 => (some t190)) else (some false)) else (some false)) = some r := H
                have A60 := Aside0.mk A600
                clear A600
                by_cases c61 : t189 = 0
                · rw [if_pos c61] at H
                  have c61b0 : (t189 == 0) = true := beq_iff_eq.mpr c61
                  have c61b1 : (t189 != 0) = false := bne_eq_false_iff_eq.mpr c61
                  clear c61
                  by_cases c62 : (strOfNums t186).toList = (strOfNums l1).toList
                  · rw [if_pos c62] at H
                    have c62b0 : ((strOfNums t186).toList == (strOfNums l1).toList) = true := beq_iff_eq.mpr c62
                    have c62b1 : ((strOfNums t186).toList != (strOfNums l1).toList) = false := bne_eq_false_iff_eq.mpr c62
                    clear c62
                    replace H := Option.bind_eq_some_iff.mp H
                    obtain ⟨t190, A630, H⟩ := H
                    replace H : (some t190) = some r := H
                    have A63 := Aside0.mk A630
                    clear A630
                    obtain rfl := Option.some.inj H
                    go_wp2_with (first | ((with_reducible refine gate_callee (f := 22) rfl ?_); refine goesL_ (some 47) rfl rfl Try.func22 (by kernel_rfl) rfl #[.slice A1 l1.length c1] rfl (by (try simp only [List.map_toArray, List.map_cons, List.map_nil]); first | done | rfl | (simp only [List.length_drop, List.length_take]; rfl)) ?_; (with_reducible refine (codec_Decode.calls kj16 _ _ l1 t178 t179 t180 t181 t184 _ ?side1 ?side2 A58.out).mono ?_); (case side1 => repeat (first | exact (Kd.C_below HR1.out HB.out) | (with_reducible refine Kd.C_alloc ?_ _) | (with_reducible refine Kd.C_drewN ?_ _) | (with_reducible refine Kd.C_drew ?_))); (case side2 => exact HC1.out); rintro e w64 ⟨v182, rfl, ho0, hb⟩; refine ⟨_, rfl, ?_⟩; have n0_ := Aside0.mk (Kd.R_lower ho0 (below_size (by repeat (first | (with_reducible first | exact HB.out | apply below_alloc | apply pw_below_drewN | apply below_drew1 | refine below_set ?_ GE150.out) | exact HB.out)))); have n1_ := Aside0.mk (blk_below (g := gb150) (o := .cells #[.int .i64 a0_0, .int .i64 a0_1, .string a0_2, .slice A0_3 l0_3.length c0_3] 24 (0, 0)) (by (with_reducible repeat (first | refine blk_drewN ?_ _ | refine blk_drew ?_ | refine blk_alloc ?_ _)); exact BK150.out) hb); have n2_ := Aside0.mk (below_step (by repeat (first | (with_reducible first | exact HB.out | apply below_alloc | apply pw_below_drewN | apply below_drew1 | refine below_set ?_ GE150.out) | exact HB.out)) hb); clear BK150; clear HB; have HO183 := n0_; have BK150 := n1_; have HB := n2_; clear n0_ n1_ n2_; (try clear hb); (try clear hb2); (try clear hk); (try clear hi); (try clear ho0)) | ((with_reducible refine gate_dst (N := 9) rfl ?_); (try (refine gate_guard (by rfl) ?_; dsimp only)); refine box_event ?hg (N := 9) ?hd (cs := #[.int .i64 0, .int .i64 0, .string (⟨#[]⟩ : ByteArray), .slice none 0 0]) (t := 29) ?hr ?_; (case hd => rfl); (case hg => rfl); (case hr => first | (go_simp; done) | (go_simp; rfl)); intro gb185 hg w65 hbox hb; have n0_ := Aside0.mk (Kd.R_below (Kd.R_elderB (by (with_reducible repeat (first | apply Kd.R_alloc | apply Kd.R_drewN | apply Kd.R_drew)); exact HO183.out) gb185 (Nat.le_of_eq hg.symm)) hb); have n1_ := Aside0.mk (blk_below (g := gb150) (o := .cells #[.int .i64 a0_0, .int .i64 a0_1, .string a0_2, .slice A0_3 l0_3.length c0_3] 24 (0, 0)) (by (with_reducible repeat (first | refine blk_drewN ?_ _ | refine blk_drew ?_ | refine blk_alloc ?_ _)); exact BK150.out) hb); have n2_ := Aside0.mk (below_step (by repeat (first | (with_reducible first | exact HB.out | apply below_alloc | apply pw_below_drewN | apply below_drew1 | refine below_set ?_ GE150.out) | exact HB.out)) hb); have n3_ := Aside0.mk (hbox); have n4_ := Aside0.mk ((by rw [hg]; exact (below_size (by repeat (first | (with_reducible first | exact HB.out | apply below_alloc | apply pw_below_drewN | apply below_drew1 | refine below_set ?_ GE150.out) | exact HB.out))) : w.heap.size ≤ gb185)); have n5_ := Aside0.mk ((by rw [hg]; exact (below_size (by repeat (first | (with_reducible first | exact HB.out | apply below_alloc | apply pw_below_drewN | apply below_drew1 | refine below_set ?_ GE150.out) | exact HB.out))) : w.heap.size ≤ gb185)); have n6_ := Aside0.mk ((by rw [hg]; exact Nat.ne_of_lt (blk_lt (g := gb150) (o := .cells #[.int .i64 a0_0, .int .i64 a0_1, .string a0_2, .slice A0_3 l0_3.length c0_3] 24 (0, 0)) (by (with_reducible repeat (first | refine blk_drewN ?_ _ | refine blk_drew ?_ | refine blk_alloc ?_ _)); exact BK150.out)) : gb150 ≠ gb185)); have n7_ := Aside0.mk ((by rw [hg]; exact Nat.ne_of_gt (blk_lt (g := gb150) (o := .cells #[.int .i64 a0_0, .int .i64 a0_1, .string a0_2, .slice A0_3 l0_3.length c0_3] 24 (0, 0)) (by (with_reducible repeat (first | refine blk_drewN ?_ _ | refine blk_drew ?_ | refine blk_alloc ?_ _)); exact BK150.out)) : gb185 ≠ gb150)); clear HO183; clear BK150; clear HB; have HO183 := n0_; have BK150 := n1_; have HB := n2_; have BK185 := n3_; have GW185 := n4_; have GE185 := n5_; have NB150_185 := n6_; have NB185_150 := n7_; clear n0_ n1_ n2_ n3_ n4_ n5_ n6_ n7_; clear hb hbox hg; have hnb66 := NB185_150.out; have hnc66 := NB150_185.out; have hcz67_0 : w65.cell? ⟨gb185, 0, none⟩ = some (.int .i64 0) := (blk_cell BK185.out 0).trans rfl; have hcz67_1 : w65.cell? ⟨gb185, 1, none⟩ = some (.int .i64 0) := (blk_cell BK185.out 1).trans rfl; have hcz67_2 : w65.cell? ⟨gb185, 2, none⟩ = some (.string (⟨#[]⟩ : ByteArray)) := (blk_cell BK185.out 2).trans rfl; have hcz67_3 : w65.cell? ⟨gb185, 3, none⟩ = some (.slice none 0 0) := (blk_cell BK185.out 3).trans rfl; have hfz67_0 := blk_frozen BK185.out 0; have hfz67_1 := blk_frozen BK185.out 1; have hfz67_2 := blk_frozen BK185.out 2; have hfz67_3 := blk_frozen BK185.out 3; obtain ⟨Ao68, co68, eo68⟩ := Kd.R_slice HO183.out; subst eo68) | ((with_reducible refine gate_callee (f := 14) rfl ?_); refine goesL_ (some 56) rfl rfl Try.func14 (by kernel_rfl) rfl #[.agg #[.int .i64 t178, .int .i64 t179, .string t180, .slice Ao68 t181.length co68]] rfl (by (try simp only [List.map_toArray, List.map_cons, List.map_nil]); first | done | rfl | (simp only [List.length_drop, List.length_take]; rfl)) ?_; (with_reducible refine (codec_Encode.calls kj16 t178 t179 t180 _ _ t181 t186 t189 _ ?side1 ?side2 A60.out).mono ?_); (case side1 => refine (Kd.R_reads' (e := 29) (base := w.heap.size) (ok := fun k_ => (True ∧ k_ ≠ gb185)) (n := t181.length) (c := co68) ?_).2.2; exact (by (with_reducible repeat (first | apply Kd.R_alloc | apply Kd.R_drewN | apply Kd.R_drew)); exact (Kd.R_mono (Kd.R_far (p := ⟨gb185, 3, none⟩) (Kd.R_far (p := ⟨gb185, 2, none⟩) (Kd.R_far (p := ⟨gb185, 1, none⟩) (Kd.R_far (p := ⟨gb185, 0, none⟩) (Kd.R_mono HO183.out (fun k_ hk => (⟨hk, hk.2⟩ : _ ∧ k_ ≠ gb185))) (fun _ hk => hk.2) (.int .i64 t178)) (fun _ hk => hk.2) (.int .i64 t179)) (fun _ hk => hk.2) (.string t180)) (fun _ hk => hk.2) (.slice Ao68 t181.length co68)) (fun _ h_ => h_.1)))); (case side2 => exact (Kd.R_reads' HO183.out).2.1); rintro e w69 ⟨v187, rfl, ho0, hb⟩; refine ⟨_, rfl, ?_⟩; have n0_ := Aside0.mk (Kd.R_below (by (with_reducible repeat (first | apply Kd.R_alloc | apply Kd.R_drewN | apply Kd.R_drew)); exact (Kd.R_mono (Kd.R_far (p := ⟨gb185, 3, none⟩) (Kd.R_far (p := ⟨gb185, 2, none⟩) (Kd.R_far (p := ⟨gb185, 1, none⟩) (Kd.R_far (p := ⟨gb185, 0, none⟩) (Kd.R_mono HO183.out (fun k_ hk => (⟨hk, hk.2⟩ : _ ∧ k_ ≠ gb185))) (fun _ hk => hk.2) (.int .i64 t178)) (fun _ hk => hk.2) (.int .i64 t179)) (fun _ hk => hk.2) (.string t180)) (fun _ hk => hk.2) (.slice Ao68 t181.length co68)) (fun _ h_ => h_.1))) hb); have n1_ := Aside0.mk (Kd.R_lower ho0 (below_size (by repeat (first | (with_reducible first | exact HB.out | apply below_alloc | apply pw_below_drewN | apply below_drew1 | refine below_set ?_ GE150.out | refine below_set ?_ GE185.out) | exact HB.out)))); have n2_ := Aside0.mk (blk_below (g := gb150) (o := .cells #[.int .i64 a0_0, .int .i64 a0_1, .string a0_2, .slice A0_3 l0_3.length c0_3] 24 (0, 0)) (by (with_reducible repeat (first | refine blk_drewN ?_ _ | refine blk_drew ?_ | refine blk_alloc ?_ _)); refine blk_far ?_ NB150_185.out _; (with_reducible repeat (first | refine blk_drewN ?_ _ | refine blk_drew ?_ | refine blk_alloc ?_ _)); refine blk_far ?_ NB150_185.out _; (with_reducible repeat (first | refine blk_drewN ?_ _ | refine blk_drew ?_ | refine blk_alloc ?_ _)); refine blk_far ?_ NB150_185.out _; (with_reducible repeat (first | refine blk_drewN ?_ _ | refine blk_drew ?_ | refine blk_alloc ?_ _)); refine blk_far ?_ NB150_185.out _; (with_reducible repeat (first | refine blk_drewN ?_ _ | refine blk_drew ?_ | refine blk_alloc ?_ _)); exact BK150.out) hb); have n3_ := Aside0.mk (blk_below (g := gb185) (o := .cells #[.int .i64 t178, .int .i64 t179, .string t180, .slice Ao68 t181.length co68] 29 (0, 0)) (by (with_reducible repeat (first | refine blk_drewN ?_ _ | refine blk_drew ?_ | refine blk_alloc ?_ _)); refine blk_put (cs := #[.int .i64 t178, .int .i64 t179, .string t180, .slice none 0 0]) ?_ 3 _ rfl; (with_reducible repeat (first | refine blk_drewN ?_ _ | refine blk_drew ?_ | refine blk_alloc ?_ _)); refine blk_put (cs := #[.int .i64 t178, .int .i64 t179, .string (⟨#[]⟩ : ByteArray), .slice none 0 0]) ?_ 2 _ rfl; (with_reducible repeat (first | refine blk_drewN ?_ _ | refine blk_drew ?_ | refine blk_alloc ?_ _)); refine blk_put (cs := #[.int .i64 t178, .int .i64 0, .string (⟨#[]⟩ : ByteArray), .slice none 0 0]) ?_ 1 _ rfl; (with_reducible repeat (first | refine blk_drewN ?_ _ | refine blk_drew ?_ | refine blk_alloc ?_ _)); refine blk_put (cs := #[.int .i64 0, .int .i64 0, .string (⟨#[]⟩ : ByteArray), .slice none 0 0]) ?_ 0 _ rfl; (with_reducible repeat (first | refine blk_drewN ?_ _ | refine blk_drew ?_ | refine blk_alloc ?_ _)); exact BK185.out) hb); have n4_ := Aside0.mk (below_step (by repeat (first | (with_reducible first | exact HB.out | apply below_alloc | apply pw_below_drewN | apply below_drew1 | refine below_set ?_ GE150.out | refine below_set ?_ GE185.out) | exact HB.out)) hb); clear HO183; clear BK150; clear BK185; clear HB; have HO183 := n0_; have HO188 := n1_; have BK150 := n2_; have BK185 := n3_; have HB := n4_; clear n0_ n1_ n2_ n3_ n4_; (try clear hb); (try clear hb2); (try clear hk); (try clear hi); (try clear ho0); have hcv70 := own_string (P := Try.prog) Try.underlying31 Try.underlying5 Try.underlying9 (Kd.own_of_R HO188.out); have hcv71 := Kd.C_string (P := Try.prog) (A := A1) (c := c1) Try.underlying31 Try.underlying5 Try.underlying9 (Kd.C_below HR1.out HB.out); have hcz72_0 : w69.cell? ⟨gb185, 0, none⟩ = some (.int .i64 t178) := (blk_cell BK185.out 0).trans rfl; have hcz72_1 : w69.cell? ⟨gb185, 1, none⟩ = some (.int .i64 t179) := (blk_cell BK185.out 1).trans rfl; have hcz72_2 : w69.cell? ⟨gb185, 2, none⟩ = some (.string t180) := (blk_cell BK185.out 2).trans rfl; have hcz72_3 : w69.cell? ⟨gb185, 3, none⟩ = some (.slice Ao68 t181.length co68) := (blk_cell BK185.out 3).trans rfl; have hfz72_0 := blk_frozen BK185.out 0; have hfz72_1 := blk_frozen BK185.out 1; have hfz72_2 := blk_frozen BK185.out 2; have hfz72_3 := blk_frozen BK185.out 3) | (go_at_call 15; (with_reducible refine (codec_Valid.calls kj16 t178 t179 t180 _ _ t181 t190 _ ?side1 ?side2 A63.out).mono ?_); (case side1 => repeat (first | exact (Kd.R_reads' HO183.out).2.2 | (with_reducible refine Kd.C_alloc ?_ _) | (with_reducible refine Kd.C_drewN ?_ _) | (with_reducible refine Kd.C_drew ?_))); (case side2 => exact (Kd.R_reads' HO183.out).2.1); rintro e w73 ⟨rfl, hb⟩; have n0_ := Aside0.mk (Kd.R_below (by (with_reducible repeat (first | apply Kd.R_alloc | apply Kd.R_drewN | apply Kd.R_drew)); exact HO183.out) hb); have n1_ := Aside0.mk (Kd.R_below (by (with_reducible repeat (first | apply Kd.R_alloc | apply Kd.R_drewN | apply Kd.R_drew)); exact HO188.out) hb); have n2_ := Aside0.mk (blk_below (g := gb150) (o := .cells #[.int .i64 a0_0, .int .i64 a0_1, .string a0_2, .slice A0_3 l0_3.length c0_3] 24 (0, 0)) (by (with_reducible repeat (first | refine blk_drewN ?_ _ | refine blk_drew ?_ | refine blk_alloc ?_ _)); exact BK150.out) hb); have n3_ := Aside0.mk (blk_below (g := gb185) (o := .cells #[.int .i64 t178, .int .i64 t179, .string t180, .slice Ao68 t181.length co68] 29 (0, 0)) (by (with_reducible repeat (first | refine blk_drewN ?_ _ | refine blk_drew ?_ | refine blk_alloc ?_ _)); exact BK185.out) hb); have n4_ := Aside0.mk (below_step (by repeat (first | (with_reducible first | exact HB.out | apply below_alloc | apply pw_below_drewN | apply below_drew1 | refine below_set ?_ GE150.out | refine below_set ?_ GE185.out) | exact HB.out)) hb); clear HO183; clear HO188; clear BK150; clear BK185; clear HB; have HO183 := n0_; have HO188 := n1_; have BK150 := n2_; have BK185 := n3_; have HB := n4_; clear n0_ n1_ n2_ n3_ n4_; (try clear hb); (try clear hb2); (try clear hk); (try clear hi)))
                    go_ret
                    exact ⟨by first | rfl | (simp [errW_none, errW_some] <;> rfl) | (simp [*, errW_none, errW_some] <;> rfl), by repeat (first | (with_reducible first | exact HB.out | apply below_alloc | apply pw_below_drewN | apply below_drew1 | refine below_set ?_ GE150.out | refine below_set ?_ GE185.out) | exact HB.out)⟩
                  · rw [if_neg c62] at H
                    have c62b0 : ((strOfNums t186).toList == (strOfNums l1).toList) = false := beq_eq_false_iff_ne.mpr c62
                    have c62b1 : ((strOfNums t186).toList != (strOfNums l1).toList) = true := bne_iff_ne.mpr c62
                    obtain rfl := Option.some.inj H
                    go_wp2_with (first | ((with_reducible refine gate_callee (f := 22) rfl ?_); refine goesL_ (some 47) rfl rfl Try.func22 (by kernel_rfl) rfl #[.slice A1 l1.length c1] rfl (by (try simp only [List.map_toArray, List.map_cons, List.map_nil]); first | done | rfl | (simp only [List.length_drop, List.length_take]; rfl)) ?_; (with_reducible refine (codec_Decode.calls kj16 _ _ l1 t178 t179 t180 t181 t184 _ ?side1 ?side2 A58.out).mono ?_); (case side1 => repeat (first | exact (Kd.C_below HR1.out HB.out) | (with_reducible refine Kd.C_alloc ?_ _) | (with_reducible refine Kd.C_drewN ?_ _) | (with_reducible refine Kd.C_drew ?_))); (case side2 => exact HC1.out); rintro e w74 ⟨v182, rfl, ho0, hb⟩; refine ⟨_, rfl, ?_⟩; have n0_ := Aside0.mk (Kd.R_lower ho0 (below_size (by repeat (first | (with_reducible first | exact HB.out | apply below_alloc | apply pw_below_drewN | apply below_drew1 | refine below_set ?_ GE150.out) | exact HB.out)))); have n1_ := Aside0.mk (blk_below (g := gb150) (o := .cells #[.int .i64 a0_0, .int .i64 a0_1, .string a0_2, .slice A0_3 l0_3.length c0_3] 24 (0, 0)) (by (with_reducible repeat (first | refine blk_drewN ?_ _ | refine blk_drew ?_ | refine blk_alloc ?_ _)); exact BK150.out) hb); have n2_ := Aside0.mk (below_step (by repeat (first | (with_reducible first | exact HB.out | apply below_alloc | apply pw_below_drewN | apply below_drew1 | refine below_set ?_ GE150.out) | exact HB.out)) hb); clear BK150; clear HB; have HO183 := n0_; have BK150 := n1_; have HB := n2_; clear n0_ n1_ n2_; (try clear hb); (try clear hb2); (try clear hk); (try clear hi); (try clear ho0)) | ((with_reducible refine gate_dst (N := 9) rfl ?_); (try (refine gate_guard (by rfl) ?_; dsimp only)); refine box_event ?hg (N := 9) ?hd (cs := #[.int .i64 0, .int .i64 0, .string (⟨#[]⟩ : ByteArray), .slice none 0 0]) (t := 29) ?hr ?_; (case hd => rfl); (case hg => rfl); (case hr => first | (go_simp; done) | (go_simp; rfl)); intro gb185 hg w75 hbox hb; have n0_ := Aside0.mk (Kd.R_below (Kd.R_elderB (by (with_reducible repeat (first | apply Kd.R_alloc | apply Kd.R_drewN | apply Kd.R_drew)); exact HO183.out) gb185 (Nat.le_of_eq hg.symm)) hb); have n1_ := Aside0.mk (blk_below (g := gb150) (o := .cells #[.int .i64 a0_0, .int .i64 a0_1, .string a0_2, .slice A0_3 l0_3.length c0_3] 24 (0, 0)) (by (with_reducible repeat (first | refine blk_drewN ?_ _ | refine blk_drew ?_ | refine blk_alloc ?_ _)); exact BK150.out) hb); have n2_ := Aside0.mk (below_step (by repeat (first | (with_reducible first | exact HB.out | apply below_alloc | apply pw_below_drewN | apply below_drew1 | refine below_set ?_ GE150.out) | exact HB.out)) hb); have n3_ := Aside0.mk (hbox); have n4_ := Aside0.mk ((by rw [hg]; exact (below_size (by repeat (first | (with_reducible first | exact HB.out | apply below_alloc | apply pw_below_drewN | apply below_drew1 | refine below_set ?_ GE150.out) | exact HB.out))) : w.heap.size ≤ gb185)); have n5_ := Aside0.mk ((by rw [hg]; exact (below_size (by repeat (first | (with_reducible first | exact HB.out | apply below_alloc | apply pw_below_drewN | apply below_drew1 | refine below_set ?_ GE150.out) | exact HB.out))) : w.heap.size ≤ gb185)); have n6_ := Aside0.mk ((by rw [hg]; exact Nat.ne_of_lt (blk_lt (g := gb150) (o := .cells #[.int .i64 a0_0, .int .i64 a0_1, .string a0_2, .slice A0_3 l0_3.length c0_3] 24 (0, 0)) (by (with_reducible repeat (first | refine blk_drewN ?_ _ | refine blk_drew ?_ | refine blk_alloc ?_ _)); exact BK150.out)) : gb150 ≠ gb185)); have n7_ := Aside0.mk ((by rw [hg]; exact Nat.ne_of_gt (blk_lt (g := gb150) (o := .cells #[.int .i64 a0_0, .int .i64 a0_1, .string a0_2, .slice A0_3 l0_3.length c0_3] 24 (0, 0)) (by (with_reducible repeat (first | refine blk_drewN ?_ _ | refine blk_drew ?_ | refine blk_alloc ?_ _)); exact BK150.out)) : gb185 ≠ gb150)); clear HO183; clear BK150; clear HB; have HO183 := n0_; have BK150 := n1_; have HB := n2_; have BK185 := n3_; have GW185 := n4_; have GE185 := n5_; have NB150_185 := n6_; have NB185_150 := n7_; clear n0_ n1_ n2_ n3_ n4_ n5_ n6_ n7_; clear hb hbox hg; have hnb76 := NB185_150.out; have hnc76 := NB150_185.out; have hcz77_0 : w75.cell? ⟨gb185, 0, none⟩ = some (.int .i64 0) := (blk_cell BK185.out 0).trans rfl; have hcz77_1 : w75.cell? ⟨gb185, 1, none⟩ = some (.int .i64 0) := (blk_cell BK185.out 1).trans rfl; have hcz77_2 : w75.cell? ⟨gb185, 2, none⟩ = some (.string (⟨#[]⟩ : ByteArray)) := (blk_cell BK185.out 2).trans rfl; have hcz77_3 : w75.cell? ⟨gb185, 3, none⟩ = some (.slice none 0 0) := (blk_cell BK185.out 3).trans rfl; have hfz77_0 := blk_frozen BK185.out 0; have hfz77_1 := blk_frozen BK185.out 1; have hfz77_2 := blk_frozen BK185.out 2; have hfz77_3 := blk_frozen BK185.out 3; obtain ⟨Ao78, co78, eo78⟩ := Kd.R_slice HO183.out; subst eo78) | ((with_reducible refine gate_callee (f := 14) rfl ?_); refine goesL_ (some 56) rfl rfl Try.func14 (by kernel_rfl) rfl #[.agg #[.int .i64 t178, .int .i64 t179, .string t180, .slice Ao78 t181.length co78]] rfl (by (try simp only [List.map_toArray, List.map_cons, List.map_nil]); first | done | rfl | (simp only [List.length_drop, List.length_take]; rfl)) ?_; (with_reducible refine (codec_Encode.calls kj16 t178 t179 t180 _ _ t181 t186 t189 _ ?side1 ?side2 A60.out).mono ?_); (case side1 => refine (Kd.R_reads' (e := 29) (base := w.heap.size) (ok := fun k_ => (True ∧ k_ ≠ gb185)) (n := t181.length) (c := co78) ?_).2.2; exact (by (with_reducible repeat (first | apply Kd.R_alloc | apply Kd.R_drewN | apply Kd.R_drew)); exact (Kd.R_mono (Kd.R_far (p := ⟨gb185, 3, none⟩) (Kd.R_far (p := ⟨gb185, 2, none⟩) (Kd.R_far (p := ⟨gb185, 1, none⟩) (Kd.R_far (p := ⟨gb185, 0, none⟩) (Kd.R_mono HO183.out (fun k_ hk => (⟨hk, hk.2⟩ : _ ∧ k_ ≠ gb185))) (fun _ hk => hk.2) (.int .i64 t178)) (fun _ hk => hk.2) (.int .i64 t179)) (fun _ hk => hk.2) (.string t180)) (fun _ hk => hk.2) (.slice Ao78 t181.length co78)) (fun _ h_ => h_.1)))); (case side2 => exact (Kd.R_reads' HO183.out).2.1); rintro e w79 ⟨v187, rfl, ho0, hb⟩; refine ⟨_, rfl, ?_⟩; have n0_ := Aside0.mk (Kd.R_below (by (with_reducible repeat (first | apply Kd.R_alloc | apply Kd.R_drewN | apply Kd.R_drew)); exact (Kd.R_mono (Kd.R_far (p := ⟨gb185, 3, none⟩) (Kd.R_far (p := ⟨gb185, 2, none⟩) (Kd.R_far (p := ⟨gb185, 1, none⟩) (Kd.R_far (p := ⟨gb185, 0, none⟩) (Kd.R_mono HO183.out (fun k_ hk => (⟨hk, hk.2⟩ : _ ∧ k_ ≠ gb185))) (fun _ hk => hk.2) (.int .i64 t178)) (fun _ hk => hk.2) (.int .i64 t179)) (fun _ hk => hk.2) (.string t180)) (fun _ hk => hk.2) (.slice Ao78 t181.length co78)) (fun _ h_ => h_.1))) hb); have n1_ := Aside0.mk (Kd.R_lower ho0 (below_size (by repeat (first | (with_reducible first | exact HB.out | apply below_alloc | apply pw_below_drewN | apply below_drew1 | refine below_set ?_ GE150.out | refine below_set ?_ GE185.out) | exact HB.out)))); have n2_ := Aside0.mk (blk_below (g := gb150) (o := .cells #[.int .i64 a0_0, .int .i64 a0_1, .string a0_2, .slice A0_3 l0_3.length c0_3] 24 (0, 0)) (by (with_reducible repeat (first | refine blk_drewN ?_ _ | refine blk_drew ?_ | refine blk_alloc ?_ _)); refine blk_far ?_ NB150_185.out _; (with_reducible repeat (first | refine blk_drewN ?_ _ | refine blk_drew ?_ | refine blk_alloc ?_ _)); refine blk_far ?_ NB150_185.out _; (with_reducible repeat (first | refine blk_drewN ?_ _ | refine blk_drew ?_ | refine blk_alloc ?_ _)); refine blk_far ?_ NB150_185.out _; (with_reducible repeat (first | refine blk_drewN ?_ _ | refine blk_drew ?_ | refine blk_alloc ?_ _)); refine blk_far ?_ NB150_185.out _; (with_reducible repeat (first | refine blk_drewN ?_ _ | refine blk_drew ?_ | refine blk_alloc ?_ _)); exact BK150.out) hb); have n3_ := Aside0.mk (blk_below (g := gb185) (o := .cells #[.int .i64 t178, .int .i64 t179, .string t180, .slice Ao78 t181.length co78] 29 (0, 0)) (by (with_reducible repeat (first | refine blk_drewN ?_ _ | refine blk_drew ?_ | refine blk_alloc ?_ _)); refine blk_put (cs := #[.int .i64 t178, .int .i64 t179, .string t180, .slice none 0 0]) ?_ 3 _ rfl; (with_reducible repeat (first | refine blk_drewN ?_ _ | refine blk_drew ?_ | refine blk_alloc ?_ _)); refine blk_put (cs := #[.int .i64 t178, .int .i64 t179, .string (⟨#[]⟩ : ByteArray), .slice none 0 0]) ?_ 2 _ rfl; (with_reducible repeat (first | refine blk_drewN ?_ _ | refine blk_drew ?_ | refine blk_alloc ?_ _)); refine blk_put (cs := #[.int .i64 t178, .int .i64 0, .string (⟨#[]⟩ : ByteArray), .slice none 0 0]) ?_ 1 _ rfl; (with_reducible repeat (first | refine blk_drewN ?_ _ | refine blk_drew ?_ | refine blk_alloc ?_ _)); refine blk_put (cs := #[.int .i64 0, .int .i64 0, .string (⟨#[]⟩ : ByteArray), .slice none 0 0]) ?_ 0 _ rfl; (with_reducible repeat (first | refine blk_drewN ?_ _ | refine blk_drew ?_ | refine blk_alloc ?_ _)); exact BK185.out) hb); have n4_ := Aside0.mk (below_step (by repeat (first | (with_reducible first | exact HB.out | apply below_alloc | apply pw_below_drewN | apply below_drew1 | refine below_set ?_ GE150.out | refine below_set ?_ GE185.out) | exact HB.out)) hb); clear HO183; clear BK150; clear BK185; clear HB; have HO183 := n0_; have HO188 := n1_; have BK150 := n2_; have BK185 := n3_; have HB := n4_; clear n0_ n1_ n2_ n3_ n4_; (try clear hb); (try clear hb2); (try clear hk); (try clear hi); (try clear ho0); have hcv80 := own_string (P := Try.prog) Try.underlying31 Try.underlying5 Try.underlying9 (Kd.own_of_R HO188.out); have hcv81 := Kd.C_string (P := Try.prog) (A := A1) (c := c1) Try.underlying31 Try.underlying5 Try.underlying9 (Kd.C_below HR1.out HB.out)))
                    go_ret
                    exact ⟨by first | rfl | (simp [errW_none, errW_some] <;> rfl) | (simp [*, errW_none, errW_some] <;> rfl), by repeat (first | (with_reducible first | exact HB.out | apply below_alloc | apply pw_below_drewN | apply below_drew1 | refine below_set ?_ GE150.out | refine below_set ?_ GE185.out) | exact HB.out)⟩
                · rw [if_neg c61] at H
                  have c61b0 : (t189 == 0) = false := beq_eq_false_iff_ne.mpr c61
                  have c61b1 : (t189 != 0) = true := bne_iff_ne.mpr c61
                  obtain rfl := Option.some.inj H
                  go_wp2_with (first | ((with_reducible refine gate_callee (f := 22) rfl ?_); refine goesL_ (some 47) rfl rfl Try.func22 (by kernel_rfl) rfl #[.slice A1 l1.length c1] rfl (by (try simp only [List.map_toArray, List.map_cons, List.map_nil]); first | done | rfl | (simp only [List.length_drop, List.length_take]; rfl)) ?_; (with_reducible refine (codec_Decode.calls kj16 _ _ l1 t178 t179 t180 t181 t184 _ ?side1 ?side2 A58.out).mono ?_); (case side1 => repeat (first | exact (Kd.C_below HR1.out HB.out) | (with_reducible refine Kd.C_alloc ?_ _) | (with_reducible refine Kd.C_drewN ?_ _) | (with_reducible refine Kd.C_drew ?_))); (case side2 => exact HC1.out); rintro e w82 ⟨v182, rfl, ho0, hb⟩; refine ⟨_, rfl, ?_⟩; have n0_ := Aside0.mk (Kd.R_lower ho0 (below_size (by repeat (first | (with_reducible first | exact HB.out | apply below_alloc | apply pw_below_drewN | apply below_drew1 | refine below_set ?_ GE150.out) | exact HB.out)))); have n1_ := Aside0.mk (blk_below (g := gb150) (o := .cells #[.int .i64 a0_0, .int .i64 a0_1, .string a0_2, .slice A0_3 l0_3.length c0_3] 24 (0, 0)) (by (with_reducible repeat (first | refine blk_drewN ?_ _ | refine blk_drew ?_ | refine blk_alloc ?_ _)); exact BK150.out) hb); have n2_ := Aside0.mk (below_step (by repeat (first | (with_reducible first | exact HB.out | apply below_alloc | apply pw_below_drewN | apply below_drew1 | refine below_set ?_ GE150.out) | exact HB.out)) hb); clear BK150; clear HB; have HO183 := n0_; have BK150 := n1_; have HB := n2_; clear n0_ n1_ n2_; (try clear hb); (try clear hb2); (try clear hk); (try clear hi); (try clear ho0)) | ((with_reducible refine gate_dst (N := 9) rfl ?_); (try (refine gate_guard (by rfl) ?_; dsimp only)); refine box_event ?hg (N := 9) ?hd (cs := #[.int .i64 0, .int .i64 0, .string (⟨#[]⟩ : ByteArray), .slice none 0 0]) (t := 29) ?hr ?_; (case hd => rfl); (case hg => rfl); (case hr => first | (go_simp; done) | (go_simp; rfl)); intro gb185 hg w83 hbox hb; have n0_ := Aside0.mk (Kd.R_below (Kd.R_elderB (by (with_reducible repeat (first | apply Kd.R_alloc | apply Kd.R_drewN | apply Kd.R_drew)); exact HO183.out) gb185 (Nat.le_of_eq hg.symm)) hb); have n1_ := Aside0.mk (blk_below (g := gb150) (o := .cells #[.int .i64 a0_0, .int .i64 a0_1, .string a0_2, .slice A0_3 l0_3.length c0_3] 24 (0, 0)) (by (with_reducible repeat (first | refine blk_drewN ?_ _ | refine blk_drew ?_ | refine blk_alloc ?_ _)); exact BK150.out) hb); have n2_ := Aside0.mk (below_step (by repeat (first | (with_reducible first | exact HB.out | apply below_alloc | apply pw_below_drewN | apply below_drew1 | refine below_set ?_ GE150.out) | exact HB.out)) hb); have n3_ := Aside0.mk (hbox); have n4_ := Aside0.mk ((by rw [hg]; exact (below_size (by repeat (first | (with_reducible first | exact HB.out | apply below_alloc | apply pw_below_drewN | apply below_drew1 | refine below_set ?_ GE150.out) | exact HB.out))) : w.heap.size ≤ gb185)); have n5_ := Aside0.mk ((by rw [hg]; exact (below_size (by repeat (first | (with_reducible first | exact HB.out | apply below_alloc | apply pw_below_drewN | apply below_drew1 | refine below_set ?_ GE150.out) | exact HB.out))) : w.heap.size ≤ gb185)); have n6_ := Aside0.mk ((by rw [hg]; exact Nat.ne_of_lt (blk_lt (g := gb150) (o := .cells #[.int .i64 a0_0, .int .i64 a0_1, .string a0_2, .slice A0_3 l0_3.length c0_3] 24 (0, 0)) (by (with_reducible repeat (first | refine blk_drewN ?_ _ | refine blk_drew ?_ | refine blk_alloc ?_ _)); exact BK150.out)) : gb150 ≠ gb185)); have n7_ := Aside0.mk ((by rw [hg]; exact Nat.ne_of_gt (blk_lt (g := gb150) (o := .cells #[.int .i64 a0_0, .int .i64 a0_1, .string a0_2, .slice A0_3 l0_3.length c0_3] 24 (0, 0)) (by (with_reducible repeat (first | refine blk_drewN ?_ _ | refine blk_drew ?_ | refine blk_alloc ?_ _)); exact BK150.out)) : gb185 ≠ gb150)); clear HO183; clear BK150; clear HB; have HO183 := n0_; have BK150 := n1_; have HB := n2_; have BK185 := n3_; have GW185 := n4_; have GE185 := n5_; have NB150_185 := n6_; have NB185_150 := n7_; clear n0_ n1_ n2_ n3_ n4_ n5_ n6_ n7_; clear hb hbox hg; have hnb84 := NB185_150.out; have hnc84 := NB150_185.out; have hcz85_0 : w83.cell? ⟨gb185, 0, none⟩ = some (.int .i64 0) := (blk_cell BK185.out 0).trans rfl; have hcz85_1 : w83.cell? ⟨gb185, 1, none⟩ = some (.int .i64 0) := (blk_cell BK185.out 1).trans rfl; have hcz85_2 : w83.cell? ⟨gb185, 2, none⟩ = some (.string (⟨#[]⟩ : ByteArray)) := (blk_cell BK185.out 2).trans rfl; have hcz85_3 : w83.cell? ⟨gb185, 3, none⟩ = some (.slice none 0 0) := (blk_cell BK185.out 3).trans rfl; have hfz85_0 := blk_frozen BK185.out 0; have hfz85_1 := blk_frozen BK185.out 1; have hfz85_2 := blk_frozen BK185.out 2; have hfz85_3 := blk_frozen BK185.out 3; obtain ⟨Ao86, co86, eo86⟩ := Kd.R_slice HO183.out; subst eo86) | ((with_reducible refine gate_callee (f := 14) rfl ?_); refine goesL_ (some 56) rfl rfl Try.func14 (by kernel_rfl) rfl #[.agg #[.int .i64 t178, .int .i64 t179, .string t180, .slice Ao86 t181.length co86]] rfl (by (try simp only [List.map_toArray, List.map_cons, List.map_nil]); first | done | rfl | (simp only [List.length_drop, List.length_take]; rfl)) ?_; (with_reducible refine (codec_Encode.calls kj16 t178 t179 t180 _ _ t181 t186 t189 _ ?side1 ?side2 A60.out).mono ?_); (case side1 => refine (Kd.R_reads' (e := 29) (base := w.heap.size) (ok := fun k_ => (True ∧ k_ ≠ gb185)) (n := t181.length) (c := co86) ?_).2.2; exact (by (with_reducible repeat (first | apply Kd.R_alloc | apply Kd.R_drewN | apply Kd.R_drew)); exact (Kd.R_mono (Kd.R_far (p := ⟨gb185, 3, none⟩) (Kd.R_far (p := ⟨gb185, 2, none⟩) (Kd.R_far (p := ⟨gb185, 1, none⟩) (Kd.R_far (p := ⟨gb185, 0, none⟩) (Kd.R_mono HO183.out (fun k_ hk => (⟨hk, hk.2⟩ : _ ∧ k_ ≠ gb185))) (fun _ hk => hk.2) (.int .i64 t178)) (fun _ hk => hk.2) (.int .i64 t179)) (fun _ hk => hk.2) (.string t180)) (fun _ hk => hk.2) (.slice Ao86 t181.length co86)) (fun _ h_ => h_.1)))); (case side2 => exact (Kd.R_reads' HO183.out).2.1); rintro e w87 ⟨v187, rfl, ho0, hb⟩; refine ⟨_, rfl, ?_⟩; have n0_ := Aside0.mk (Kd.R_below (by (with_reducible repeat (first | apply Kd.R_alloc | apply Kd.R_drewN | apply Kd.R_drew)); exact (Kd.R_mono (Kd.R_far (p := ⟨gb185, 3, none⟩) (Kd.R_far (p := ⟨gb185, 2, none⟩) (Kd.R_far (p := ⟨gb185, 1, none⟩) (Kd.R_far (p := ⟨gb185, 0, none⟩) (Kd.R_mono HO183.out (fun k_ hk => (⟨hk, hk.2⟩ : _ ∧ k_ ≠ gb185))) (fun _ hk => hk.2) (.int .i64 t178)) (fun _ hk => hk.2) (.int .i64 t179)) (fun _ hk => hk.2) (.string t180)) (fun _ hk => hk.2) (.slice Ao86 t181.length co86)) (fun _ h_ => h_.1))) hb); have n1_ := Aside0.mk (Kd.R_lower ho0 (below_size (by repeat (first | (with_reducible first | exact HB.out | apply below_alloc | apply pw_below_drewN | apply below_drew1 | refine below_set ?_ GE150.out | refine below_set ?_ GE185.out) | exact HB.out)))); have n2_ := Aside0.mk (blk_below (g := gb150) (o := .cells #[.int .i64 a0_0, .int .i64 a0_1, .string a0_2, .slice A0_3 l0_3.length c0_3] 24 (0, 0)) (by (with_reducible repeat (first | refine blk_drewN ?_ _ | refine blk_drew ?_ | refine blk_alloc ?_ _)); refine blk_far ?_ NB150_185.out _; (with_reducible repeat (first | refine blk_drewN ?_ _ | refine blk_drew ?_ | refine blk_alloc ?_ _)); refine blk_far ?_ NB150_185.out _; (with_reducible repeat (first | refine blk_drewN ?_ _ | refine blk_drew ?_ | refine blk_alloc ?_ _)); refine blk_far ?_ NB150_185.out _; (with_reducible repeat (first | refine blk_drewN ?_ _ | refine blk_drew ?_ | refine blk_alloc ?_ _)); refine blk_far ?_ NB150_185.out _; (with_reducible repeat (first | refine blk_drewN ?_ _ | refine blk_drew ?_ | refine blk_alloc ?_ _)); exact BK150.out) hb); have n3_ := Aside0.mk (blk_below (g := gb185) (o := .cells #[.int .i64 t178, .int .i64 t179, .string t180, .slice Ao86 t181.length co86] 29 (0, 0)) (by (with_reducible repeat (first | refine blk_drewN ?_ _ | refine blk_drew ?_ | refine blk_alloc ?_ _)); refine blk_put (cs := #[.int .i64 t178, .int .i64 t179, .string t180, .slice none 0 0]) ?_ 3 _ rfl; (with_reducible repeat (first | refine blk_drewN ?_ _ | refine blk_drew ?_ | refine blk_alloc ?_ _)); refine blk_put (cs := #[.int .i64 t178, .int .i64 t179, .string (⟨#[]⟩ : ByteArray), .slice none 0 0]) ?_ 2 _ rfl; (with_reducible repeat (first | refine blk_drewN ?_ _ | refine blk_drew ?_ | refine blk_alloc ?_ _)); refine blk_put (cs := #[.int .i64 t178, .int .i64 0, .string (⟨#[]⟩ : ByteArray), .slice none 0 0]) ?_ 1 _ rfl; (with_reducible repeat (first | refine blk_drewN ?_ _ | refine blk_drew ?_ | refine blk_alloc ?_ _)); refine blk_put (cs := #[.int .i64 0, .int .i64 0, .string (⟨#[]⟩ : ByteArray), .slice none 0 0]) ?_ 0 _ rfl; (with_reducible repeat (first | refine blk_drewN ?_ _ | refine blk_drew ?_ | refine blk_alloc ?_ _)); exact BK185.out) hb); have n4_ := Aside0.mk (below_step (by repeat (first | (with_reducible first | exact HB.out | apply below_alloc | apply pw_below_drewN | apply below_drew1 | refine below_set ?_ GE150.out | refine below_set ?_ GE185.out) | exact HB.out)) hb); clear HO183; clear BK150; clear BK185; clear HB; have HO183 := n0_; have HO188 := n1_; have BK150 := n2_; have BK185 := n3_; have HB := n4_; clear n0_ n1_ n2_ n3_ n4_; (try clear hb); (try clear hb2); (try clear hk); (try clear hi); (try clear ho0)))
                  go_ret
                  exact ⟨by first | rfl | (simp [errW_none, errW_some] <;> rfl) | (simp [*, errW_none, errW_some] <;> rfl), by repeat (first | (with_reducible first | exact HB.out | apply below_alloc | apply pw_below_drewN | apply below_drew1 | refine below_set ?_ GE150.out | refine below_set ?_ GE185.out) | exact HB.out)⟩
              · rw [if_neg c59] at H
                have c59b0 : (t184 == 0) = false := beq_eq_false_iff_ne.mpr c59
                have c59b1 : (t184 != 0) = true := bne_iff_ne.mpr c59
                obtain rfl := Option.some.inj H
                go_wp2_with (first | ((with_reducible refine gate_callee (f := 22) rfl ?_); refine goesL_ (some 47) rfl rfl Try.func22 (by kernel_rfl) rfl #[.slice A1 l1.length c1] rfl (by (try simp only [List.map_toArray, List.map_cons, List.map_nil]); first | done | rfl | (simp only [List.length_drop, List.length_take]; rfl)) ?_; (with_reducible refine (codec_Decode.calls kj16 _ _ l1 t178 t179 t180 t181 t184 _ ?side1 ?side2 A58.out).mono ?_); (case side1 => repeat (first | exact (Kd.C_below HR1.out HB.out) | (with_reducible refine Kd.C_alloc ?_ _) | (with_reducible refine Kd.C_drewN ?_ _) | (with_reducible refine Kd.C_drew ?_))); (case side2 => exact HC1.out); rintro e w88 ⟨v182, rfl, ho0, hb⟩; refine ⟨_, rfl, ?_⟩; have n0_ := Aside0.mk (Kd.R_lower ho0 (below_size (by repeat (first | (with_reducible first | exact HB.out | apply below_alloc | apply pw_below_drewN | apply below_drew1 | refine below_set ?_ GE150.out) | exact HB.out)))); have n1_ := Aside0.mk (blk_below (g := gb150) (o := .cells #[.int .i64 a0_0, .int .i64 a0_1, .string a0_2, .slice A0_3 l0_3.length c0_3] 24 (0, 0)) (by (with_reducible repeat (first | refine blk_drewN ?_ _ | refine blk_drew ?_ | refine blk_alloc ?_ _)); exact BK150.out) hb); have n2_ := Aside0.mk (below_step (by repeat (first | (with_reducible first | exact HB.out | apply below_alloc | apply pw_below_drewN | apply below_drew1 | refine below_set ?_ GE150.out) | exact HB.out)) hb); clear BK150; clear HB; have HO183 := n0_; have BK150 := n1_; have HB := n2_; clear n0_ n1_ n2_; (try clear hb); (try clear hb2); (try clear hk); (try clear hi); (try clear ho0)) | ((with_reducible refine gate_dst (N := 9) rfl ?_); (try (refine gate_guard (by rfl) ?_; dsimp only)); refine box_event ?hg (N := 9) ?hd (cs := #[.int .i64 0, .int .i64 0, .string (⟨#[]⟩ : ByteArray), .slice none 0 0]) (t := 29) ?hr ?_; (case hd => rfl); (case hg => rfl); (case hr => first | (go_simp; done) | (go_simp; rfl)); intro gb185 hg w89 hbox hb; have n0_ := Aside0.mk (Kd.R_below (Kd.R_elderB (by (with_reducible repeat (first | apply Kd.R_alloc | apply Kd.R_drewN | apply Kd.R_drew)); exact HO183.out) gb185 (Nat.le_of_eq hg.symm)) hb); have n1_ := Aside0.mk (blk_below (g := gb150) (o := .cells #[.int .i64 a0_0, .int .i64 a0_1, .string a0_2, .slice A0_3 l0_3.length c0_3] 24 (0, 0)) (by (with_reducible repeat (first | refine blk_drewN ?_ _ | refine blk_drew ?_ | refine blk_alloc ?_ _)); exact BK150.out) hb); have n2_ := Aside0.mk (below_step (by repeat (first | (with_reducible first | exact HB.out | apply below_alloc | apply pw_below_drewN | apply below_drew1 | refine below_set ?_ GE150.out) | exact HB.out)) hb); have n3_ := Aside0.mk (hbox); have n4_ := Aside0.mk ((by rw [hg]; exact (below_size (by repeat (first | (with_reducible first | exact HB.out | apply below_alloc | apply pw_below_drewN | apply below_drew1 | refine below_set ?_ GE150.out) | exact HB.out))) : w.heap.size ≤ gb185)); have n5_ := Aside0.mk ((by rw [hg]; exact (below_size (by repeat (first | (with_reducible first | exact HB.out | apply below_alloc | apply pw_below_drewN | apply below_drew1 | refine below_set ?_ GE150.out) | exact HB.out))) : w.heap.size ≤ gb185)); have n6_ := Aside0.mk ((by rw [hg]; exact Nat.ne_of_lt (blk_lt (g := gb150) (o := .cells #[.int .i64 a0_0, .int .i64 a0_1, .string a0_2, .slice A0_3 l0_3.length c0_3] 24 (0, 0)) (by (with_reducible repeat (first | refine blk_drewN ?_ _ | refine blk_drew ?_ | refine blk_alloc ?_ _)); exact BK150.out)) : gb150 ≠ gb185)); have n7_ := Aside0.mk ((by rw [hg]; exact Nat.ne_of_gt (blk_lt (g := gb150) (o := .cells #[.int .i64 a0_0, .int .i64 a0_1, .string a0_2, .slice A0_3 l0_3.length c0_3] 24 (0, 0)) (by (with_reducible repeat (first | refine blk_drewN ?_ _ | refine blk_drew ?_ | refine blk_alloc ?_ _)); exact BK150.out)) : gb185 ≠ gb150)); clear HO183; clear BK150; clear HB; have HO183 := n0_; have BK150 := n1_; have HB := n2_; have BK185 := n3_; have GW185 := n4_; have GE185 := n5_; have NB150_185 := n6_; have NB185_150 := n7_; clear n0_ n1_ n2_ n3_ n4_ n5_ n6_ n7_; clear hb hbox hg; have hnb90 := NB185_150.out; have hnc90 := NB150_185.out; have hcz91_0 : w89.cell? ⟨gb185, 0, none⟩ = some (.int .i64 0) := (blk_cell BK185.out 0).trans rfl; have hcz91_1 : w89.cell? ⟨gb185, 1, none⟩ = some (.int .i64 0) := (blk_cell BK185.out 1).trans rfl; have hcz91_2 : w89.cell? ⟨gb185, 2, none⟩ = some (.string (⟨#[]⟩ : ByteArray)) := (blk_cell BK185.out 2).trans rfl; have hcz91_3 : w89.cell? ⟨gb185, 3, none⟩ = some (.slice none 0 0) := (blk_cell BK185.out 3).trans rfl; have hfz91_0 := blk_frozen BK185.out 0; have hfz91_1 := blk_frozen BK185.out 1; have hfz91_2 := blk_frozen BK185.out 2; have hfz91_3 := blk_frozen BK185.out 3; obtain ⟨Ao92, co92, eo92⟩ := Kd.R_slice HO183.out; subst eo92))
                go_ret
                exact ⟨by first | rfl | (simp [errW_none, errW_some] <;> rfl) | (simp [*, errW_none, errW_some] <;> rfl), by repeat (first | (with_reducible first | exact HB.out | apply below_alloc | apply pw_below_drewN | apply below_drew1 | refine below_set ?_ GE150.out | refine below_set ?_ GE185.out) | exact HB.out)⟩
  · replace c4 := Bool.eq_false_iff.mpr c4
    subst c4
    have H1 : (some false) = some r := by rw [if_neg (show ¬ (false = true) by decide)] at H; exact H
    clear H
    have H := H1
    clear H1
    obtain rfl := Option.some.inj H
    go_enter Try.func10, Try.ntmps10
    go_wp2_with (first | ((with_reducible refine gate_dst (N := 2) rfl ?_); (try (refine gate_guard (by rfl) ?_; dsimp only)); refine box_event ?hg (N := 2) ?hd (cs := #[.int .i64 a0_0, .int .i64 a0_1, .string a0_2, .slice A0_3 l0_3.length c0_3]) (t := 24) ?hr ?_; (case hd => rfl); (case hg => rfl); (case hr => first | (go_simp; done) | (go_simp; rfl)); intro gb150 hg w93 hbox hb; have n0_ := Aside0.mk (below_step (by repeat (first | (with_reducible first | exact HB.out | apply below_alloc | apply pw_below_drewN | apply below_drew1) | exact HB.out)) hb); have n1_ := Aside0.mk (hbox); have n2_ := Aside0.mk ((by rw [hg]; exact (below_size (by repeat (first | (with_reducible first | exact HB.out | apply below_alloc | apply pw_below_drewN | apply below_drew1) | exact HB.out))) : w.heap.size ≤ gb150)); have n3_ := Aside0.mk ((by rw [hg]; exact (below_size (by repeat (first | (with_reducible first | exact HB.out | apply below_alloc | apply pw_below_drewN | apply below_drew1) | exact HB.out))) : w.heap.size ≤ gb150)); clear HB; have HB := n0_; have BK150 := n1_; have GW150 := n2_; have GE150 := n3_; clear n0_ n1_ n2_ n3_; clear hb hbox hg) | ((with_reducible refine gate_callee (f := 11) rfl ?_); refine goesL_ (some 13) rfl rfl Try.func11 (by kernel_rfl) rfl #[] rfl (by (try simp only [List.map_toArray, List.map_cons, List.map_nil]); first | done | rfl | (simp only [List.length_drop, List.length_take]; rfl)) ?_; (with_reducible refine (vinculumlaw03_awake.calls k  false _ A3.out).mono ?_); rintro e w94 ⟨rfl, hb⟩; refine ⟨_, rfl, ?_⟩; have n0_ := Aside0.mk (blk_below (g := gb150) (o := .cells #[.int .i64 a0_0, .int .i64 a0_1, .string a0_2, .slice A0_3 l0_3.length c0_3] 24 (0, 0)) (by (with_reducible repeat (first | refine blk_drewN ?_ _ | refine blk_drew ?_ | refine blk_alloc ?_ _)); exact BK150.out) hb); have n1_ := Aside0.mk (below_step (by repeat (first | (with_reducible first | exact HB.out | apply below_alloc | apply pw_below_drewN | apply below_drew1 | refine below_set ?_ GE150.out) | exact HB.out)) hb); clear BK150; clear HB; have BK150 := n0_; have HB := n1_; clear n0_ n1_; (try clear hb); (try clear hb2); (try clear hk); (try clear hi)))
    go_ret
    exact ⟨by first | rfl | (simp [errW_none, errW_some] <;> rfl) | (simp [*, errW_none, errW_some] <;> rfl), by repeat (first | (with_reducible first | exact HB.out | apply below_alloc | apply pw_below_drewN | apply below_drew1 | refine below_set ?_ GE150.out) | exact HB.out)⟩

end Go.Proofs.Ytploigkfnkgjiaa.PF
