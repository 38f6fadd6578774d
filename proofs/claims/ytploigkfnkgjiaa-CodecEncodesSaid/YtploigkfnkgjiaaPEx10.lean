-- Written by a program of this place (wip/gen.py) with the kit's print; not trusted: Lean checks it.
import Derived.Test.YtploigkfnkgjiaaPEx0
import Derived.Test.YtploigkfnkgjiaaPEx2
import Derived.Test.YtploigkfnkgjiaaPEx3
import Derived.Test.YtploigkfnkgjiaaPEx8
import Derived.Test.YtploigkfnkgjiaaPEx9
namespace Go.Proofs.Ytploigkfnkgjiaa.PE
open Go.RowKit Go.Proofs.YtploigkfnkgjiaaW.PrintWords Go.Proofs.YtploigkfnkgjiaaW.PrintLast Go.Proofs.YtploigkfnkgjiaaW.PrintMore
attribute [local go_sem] max2_int min2_int max_two min_two max_three min_three max_four min_four   -- for this text's walks alone
set_option linter.unusedVariables false
set_option linter.unusedSimpArgs false

/-! ### vinculumlaw03_CodecEqual: function 4 -/
def vinculumlaw03_CodecEqual.j0 : Nat → Bool → Int → Int → ByteArray → List (S24) → Int → Int → ByteArray → List (S24) → Option (Bool)
  | 0, _, _, _, _, _, _, _, _, _ => none
  | k + 1, x14, x223000, x223001, x223002, x223003, x224000, x224001, x224002, x224003 => if x14 = true then (some true) else ((vinculumlaw03_own.f k x223000 x223001 x223002 x223003).bind fun bt227 => ((vinculumlaw03_own.f k x224000 x224001 x224002 x224003).bind fun bt233 => ((codec_Equal.f k bt227.1 bt227.2.1 bt227.2.2.1 bt227.2.2.2 bt233.1 bt233.2.1 bt233.2.2.1 bt233.2.2.2).bind fun t239 => ((vinculumref03_Equal.f k x223000 x223001 x223002 x223003 x224000 x224001 x224002 x224003).bind fun t240 => (if (t239 == t240) = true then ((vinculumlaw03_own.f k x223000 x223001 x223002 x223003).bind fun bt241 => ((vinculumlaw03_own.f k x223000 x223001 x223002 x223003).bind fun bt247 => ((codec_Equal.f k bt241.1 bt241.2.1 bt241.2.2.1 bt241.2.2.2 bt247.1 bt247.2.1 bt247.2.2.1 bt247.2.2.2).bind fun t253 => (some t253)))) else (some false))))))
def vinculumlaw03_CodecEqual.f (k : Nat) (a0_0 : Int) (a0_1 : Int) (a0_2 : ByteArray) (l0_3 : List (S24)) (a1_0 : Int) (a1_1 : Int) (a1_2 : ByteArray) (l1_3 : List (S24)) : Option (Bool) := (vinculumlaw03_awake.f k).bind fun t224 => (if t224 = true then ((vinculumlaw03_few.f k a0_0 a0_1 a0_2 l0_3).bind fun t225 => (if t225 = true then ((vinculumlaw03_few.f k a1_0 a1_1 a1_2 l1_3).bind fun t226 => (vinculumlaw03_CodecEqual.j0 k (!t226) a0_0 a0_1 a0_2 l0_3 a1_0 a1_1 a1_2 l1_3)) else (vinculumlaw03_CodecEqual.j0 k true a0_0 a0_1 a0_2 l0_3 a1_0 a1_1 a1_2 l1_3))) else (some false))
theorem vinculumlaw03_CodecEqual.mono_l : ∀ k, (∀ y0 y1 y2 y3 y4 y5 y6 y7 y8, LeO (vinculumlaw03_CodecEqual.j0 k y0 y1 y2 y3 y4 y5 y6 y7 y8) (vinculumlaw03_CodecEqual.j0 (k + 1) y0 y1 y2 y3 y4 y5 y6 y7 y8))
  | 0 => fun _ _ _ _ _ _ _ _ _ r h => by simp [vinculumlaw03_CodecEqual.j0] at h
  | k + 1 => by
    have ih0 := vinculumlaw03_CodecEqual.mono_l k
    · intro y0 y1 y2 y3 y4 y5 y6 y7 y8
      unfold vinculumlaw03_CodecEqual.j0
      repeat' first
      | (with_reducible exact ih0 _ _ _ _ _ _ _ _ _)
      | (with_reducible exact codec_Equal.mono _ _ _ _ _ _ _ _ _)
      | (with_reducible exact vinculumlaw03_awake.mono _)
      | (with_reducible exact vinculumlaw03_few.mono _ _ _ _ _)
      | (with_reducible exact vinculumlaw03_own.mono _ _ _ _ _)
      | (with_reducible exact vinculumref03_Equal.mono _ _ _ _ _ _ _ _ _)
      | (with_reducible exact LeO.refl _)
      | (with_reducible exact LeO.none _)
      | (with_reducible refine LeO.ite ?_ ?_)
      | (with_reducible refine LeO.bind ?_ (fun _ => ?_))
      | exact ih0 _ _ _ _ _ _ _ _ _
      | exact codec_Equal.mono _ _ _ _ _ _ _ _ _
      | exact vinculumlaw03_awake.mono _
      | exact vinculumlaw03_few.mono _ _ _ _ _
      | exact vinculumlaw03_own.mono _ _ _ _ _
      | exact vinculumref03_Equal.mono _ _ _ _ _ _ _ _ _
      | exact LeO.none _
      | refine LeO.ite ?_ ?_
      | refine LeO.bind ?_ (fun _ => ?_)
theorem vinculumlaw03_CodecEqual.mono : ∀ a0 a1 a2 a3 a4 a5 a6 a7 k, LeO (vinculumlaw03_CodecEqual.f k a0 a1 a2 a3 a4 a5 a6 a7) (vinculumlaw03_CodecEqual.f (k + 1) a0 a1 a2 a3 a4 a5 a6 a7) := by
  intro a0 a1 a2 a3 a4 a5 a6 a7 k
  have ih0 := vinculumlaw03_CodecEqual.mono_l k
  unfold vinculumlaw03_CodecEqual.f
  repeat' first
      | (with_reducible exact ih0 _ _ _ _ _ _ _ _ _)
      | (with_reducible exact codec_Equal.mono _ _ _ _ _ _ _ _ _)
      | (with_reducible exact vinculumlaw03_awake.mono _)
      | (with_reducible exact vinculumlaw03_few.mono _ _ _ _ _)
      | (with_reducible exact vinculumlaw03_own.mono _ _ _ _ _)
      | (with_reducible exact vinculumref03_Equal.mono _ _ _ _ _ _ _ _ _)
      | (with_reducible exact LeO.refl _)
      | (with_reducible exact LeO.none _)
      | (with_reducible refine LeO.ite ?_ ?_)
      | (with_reducible refine LeO.bind ?_ (fun _ => ?_))
      | exact ih0 _ _ _ _ _ _ _ _ _
      | exact codec_Equal.mono _ _ _ _ _ _ _ _ _
      | exact vinculumlaw03_awake.mono _
      | exact vinculumlaw03_few.mono _ _ _ _ _
      | exact vinculumlaw03_own.mono _ _ _ _ _
      | exact vinculumref03_Equal.mono _ _ _ _ _ _ _ _ _
      | exact LeO.none _
      | refine LeO.ite ?_ ?_
      | refine LeO.bind ?_ (fun _ => ?_)
def vinculumlaw03_CodecEqual.T5 : Bool × List (List Nat × List Nat) := (true, [([], []), ([0], [0]), ([], []), ([2, 1], [2]), ([1, 3, 3], [1, 3]), ([], []), ([], []), ([5, 6, 4], [5, 6]), ([4, 7], [4, 7]), ([8, 7], [8]), ([9], [9]), ([10, 9, 9], [9, 10]), ([9], [9]), ([12, 11, 9], [9, 12]), ([11, 13, 13, 9], [9, 11, 13]), ([9, 14], [9, 14]), ([15, 14, 0, 1, 2, 3, 4, 5, 6, 7, 8, 9, 10, 11, 12, 13, 14, 15], [15])])
def vinculumlaw03_CodecEqual.B5 : List Nat := [0, 1, 0, 7, 15, 0, 0, 127, 255, 511, 1023, 2047, 1023, 8191, 16383, 32767, 65535]
theorem vinculumlaw03_CodecEqual.tab5 : rtab .any (opsOf Try.f4 5) = vinculumlaw03_CodecEqual.T5 := by kernel_rfl
theorem vinculumlaw03_CodecEqual.bits5 : waitsOk vinculumlaw03_CodecEqual.T5.2 vinculumlaw03_CodecEqual.B5 = true := by kernel_rfl
set_option maxHeartbeats 8000000 in
set_option maxRecDepth 100000 in
theorem vinculumlaw03_CodecEqual.calls (k : Nat) (a0_0 : Int) (a0_1 : Int) (a0_2 : ByteArray) (A0_3 : Option Addr) (c0_3 : Nat) (l0_3 : List (S24)) (a1_0 : Int) (a1_1 : Int) (a1_2 : ByteArray) (A1_3 : Option Addr) (c1_3 : Nat) (l1_3 : List (S24)) (r : Bool) (w : World) (hr0_3 : Kd.C k24 w A0_3 l0_3.length l0_3) (hc0_3 : l0_3.length ≤ c0_3) (hr1_3 : Kd.C k24 w A1_3 l1_3.length l1_3) (hc1_3 : l1_3.length ≤ c1_3) (h : vinculumlaw03_CodecEqual.f k a0_0 a0_1 a0_2 l0_3 a1_0 a1_1 a1_2 l1_3 = some r) :
    Calls Try.prog 4 #[.agg #[.int .i64 a0_0, .int .i64 a0_1, .string a0_2, .slice A0_3 l0_3.length c0_3], .agg #[.int .i64 a1_0, .int .i64 a1_1, .string a1_2, .slice A1_3 l1_3.length c1_3]] w fun e w' => e = .returned (.bool r) ∧ Below w.heap.size w w' := by
  have hu24 := Try.underlying24
  have HR0_3 := Aside0.mk hr0_3
  have HC0_3 := Aside0.mk hc0_3
  clear hr0_3 hc0_3
  have HR1_3 := Aside0.mk hr1_3
  have HC1_3 := Aside0.mk hc1_3
  clear hr1_3 hc1_3
  have HB := Aside0.mk (Below.refl w.heap.size w)
  have H : ((vinculumlaw03_awake.f k).bind fun t224 => (if t224 = true then ((vinculumlaw03_few.f k a0_0 a0_1 a0_2 l0_3).bind fun t225 => (if t225 = true then ((vinculumlaw03_few.f k a1_0 a1_1 a1_2 l1_3).bind fun t226 => (vinculumlaw03_CodecEqual.j0 k (!t226) a0_0 a0_1 a0_2 l0_3 a1_0 a1_1 a1_2 l1_3)) else (vinculumlaw03_CodecEqual.j0 k true a0_0 a0_1 a0_2 l0_3 a1_0 a1_1 a1_2 l1_3))) else (some false))) = some r := h
  clear h
  replace H := Option.bind_eq_some_iff.mp H
  obtain ⟨t224, A30, H⟩ := H
  replace H : (if t224 = true then ((vinculumlaw03_few.f k a0_0 a0_1 a0_2 l0_3).bind fun t225 => (if t225 = true then ((vinculumlaw03_few.f k a1_0 a1_1 a1_2 l1_3).bind fun t226 => (vinculumlaw03_CodecEqual.j0 k (!t226) a0_0 a0_1 a0_2 l0_3 a1_0 a1_1 a1_2 l1_3)) else (vinculumlaw03_CodecEqual.j0 k true a0_0 a0_1 a0_2 l0_3 a1_0 a1_1 a1_2 l1_3))) else (some false)) = some r := H
  have A3 := Aside0.mk A30
  clear A30
  by_cases c4 : t224 = true
  · subst c4
    have H1 : ((vinculumlaw03_few.f k a0_0 a0_1 a0_2 l0_3).bind fun t225 => (if t225 = true then ((vinculumlaw03_few.f k a1_0 a1_1 a1_2 l1_3).bind fun t226 => (vinculumlaw03_CodecEqual.j0 k (!t226) a0_0 a0_1 a0_2 l0_3 a1_0 a1_1 a1_2 l1_3)) else (vinculumlaw03_CodecEqual.j0 k true a0_0 a0_1 a0_2 l0_3 a1_0 a1_1 a1_2 l1_3))) = some r := by rw [if_pos rfl] at H; exact H
    clear H
    have H := H1
    clear H1
    have HC5 := Aside0.mk H
    clear H
    go_enter Try.func4, Try.ntmps4
    go_upto_region 3 with (first | ((with_reducible refine gate_dst (N := 2) rfl ?_); refine box_event ?hg (N := 2) ?hd (cs := #[.int .i64 a0_0, .int .i64 a0_1, .string a0_2, .slice A0_3 l0_3.length c0_3]) (t := 24) ?hr ?_; (case hd => rfl); (case hg => rfl); (case hr => first | (go_simp; done) | (go_simp; rfl)); intro gb222 hg w6 hbox hb; have n0_ := Aside0.mk (below_step (by repeat (first | (with_reducible first | exact HB.out | apply below_alloc | apply pw_below_drewN | apply below_drew1) | exact HB.out)) hb); have n1_ := Aside0.mk (hbox); have n2_ := Aside0.mk ((by rw [hg]; exact (below_size (by repeat (first | (with_reducible first | exact HB.out | apply below_alloc | apply pw_below_drewN | apply below_drew1) | exact HB.out))) : w.heap.size ≤ gb222)); have n3_ := Aside0.mk ((by rw [hg]; exact (below_size (by repeat (first | (with_reducible first | exact HB.out | apply below_alloc | apply pw_below_drewN | apply below_drew1) | exact HB.out))) : w.heap.size ≤ gb222)); clear HB; have HB := n0_; have BK222 := n1_; have GW222 := n2_; have GE222 := n3_; clear n0_ n1_ n2_ n3_; clear hb hbox hg) | ((with_reducible refine gate_dst (N := 3) rfl ?_); refine box_event ?hg (N := 3) ?hd (cs := #[.int .i64 a1_0, .int .i64 a1_1, .string a1_2, .slice A1_3 l1_3.length c1_3]) (t := 24) ?hr ?_; (case hd => rfl); (case hg => rfl); (case hr => first | (go_simp; done) | (go_simp; rfl)); intro gb223 hg w7 hbox hb; have n0_ := Aside0.mk (blk_below (g := gb222) (o := .cells #[.int .i64 a0_0, .int .i64 a0_1, .string a0_2, .slice A0_3 l0_3.length c0_3] 24 (0, 0)) (by (with_reducible repeat (first | refine blk_drewN ?_ _ | refine blk_drew ?_ | refine blk_alloc ?_ _)); exact BK222.out) hb); have n1_ := Aside0.mk (below_step (by repeat (first | (with_reducible first | exact HB.out | apply below_alloc | apply pw_below_drewN | apply below_drew1 | refine below_set ?_ GE222.out) | exact HB.out)) hb); have n2_ := Aside0.mk (hbox); have n3_ := Aside0.mk ((by rw [hg]; exact (below_size (by repeat (first | (with_reducible first | exact HB.out | apply below_alloc | apply pw_below_drewN | apply below_drew1 | refine below_set ?_ GE222.out) | exact HB.out))) : w.heap.size ≤ gb223)); have n4_ := Aside0.mk ((by rw [hg]; exact (below_size (by repeat (first | (with_reducible first | exact HB.out | apply below_alloc | apply pw_below_drewN | apply below_drew1 | refine below_set ?_ GE222.out) | exact HB.out))) : w.heap.size ≤ gb223)); have n5_ := Aside0.mk ((by rw [hg]; exact Nat.ne_of_lt (blk_lt (g := gb222) (o := .cells #[.int .i64 a0_0, .int .i64 a0_1, .string a0_2, .slice A0_3 l0_3.length c0_3] 24 (0, 0)) (by (with_reducible repeat (first | refine blk_drewN ?_ _ | refine blk_drew ?_ | refine blk_alloc ?_ _)); exact BK222.out)) : gb222 ≠ gb223)); have n6_ := Aside0.mk ((by rw [hg]; exact Nat.ne_of_gt (blk_lt (g := gb222) (o := .cells #[.int .i64 a0_0, .int .i64 a0_1, .string a0_2, .slice A0_3 l0_3.length c0_3] 24 (0, 0)) (by (with_reducible repeat (first | refine blk_drewN ?_ _ | refine blk_drew ?_ | refine blk_alloc ?_ _)); exact BK222.out)) : gb223 ≠ gb222)); clear BK222; clear HB; have BK222 := n0_; have HB := n1_; have BK223 := n2_; have GW223 := n3_; have GE223 := n4_; have NB222_223 := n5_; have NB223_222 := n6_; clear n0_ n1_ n2_ n3_ n4_ n5_ n6_; clear hb hbox hg) | ((with_reducible refine gate_callee (f := 11) rfl ?_); refine goesL_ (some 5) rfl rfl Try.func11 (by kernel_rfl) rfl #[] rfl (by (try simp only [List.map_toArray, List.map_cons, List.map_nil]); first | done | rfl | (simp only [List.length_drop, List.length_take]; rfl)) ?_; (with_reducible refine (vinculumlaw03_awake.calls k  true _ A3.out).mono ?_); rintro e w8 ⟨rfl, hb⟩; refine ⟨_, rfl, ?_⟩; have n0_ := Aside0.mk (blk_below (g := gb222) (o := .cells #[.int .i64 a0_0, .int .i64 a0_1, .string a0_2, .slice A0_3 l0_3.length c0_3] 24 (0, 0)) (by (with_reducible repeat (first | refine blk_drewN ?_ _ | refine blk_drew ?_ | refine blk_alloc ?_ _)); exact BK222.out) hb); have n1_ := Aside0.mk (blk_below (g := gb223) (o := .cells #[.int .i64 a1_0, .int .i64 a1_1, .string a1_2, .slice A1_3 l1_3.length c1_3] 24 (0, 0)) (by (with_reducible repeat (first | refine blk_drewN ?_ _ | refine blk_drew ?_ | refine blk_alloc ?_ _)); exact BK223.out) hb); have n2_ := Aside0.mk (below_step (by repeat (first | (with_reducible first | exact HB.out | apply below_alloc | apply pw_below_drewN | apply below_drew1 | refine below_set ?_ GE222.out | refine below_set ?_ GE223.out) | exact HB.out)) hb); clear BK222; clear BK223; clear HB; have BK222 := n0_; have BK223 := n1_; have HB := n2_; clear n0_ n1_ n2_; (try clear hb); (try clear hb2); (try clear hk); (try clear hi)))
    (try simp only [Act.put, List.setIfInBounds_toArray, List.set_cons_zero, List.set_cons_succ])
    go_cut [14] (fun v14 wc => ∃ (kq : Nat) (x14_4 : Bool), v14 = .bool x14_4 ∧ Aside0 (vinculumlaw03_CodecEqual.j0 kq x14_4 a0_0 a0_1 a0_2 l0_3 a1_0 a1_1 a1_2 l1_3 = some r) ∧ Aside0 (kq ≤ k) ∧ Aside0 (wc.heap[gb222]? = some (.cells #[.int .i64 a0_0, .int .i64 a0_1, .string a0_2, (.slice A0_3 l0_3.length c0_3)] 24 (0, 0))) ∧ Aside0 (wc.heap[gb223]? = some (.cells #[.int .i64 a1_0, .int .i64 a1_1, .string a1_2, (.slice A1_3 l1_3.length c1_3)] 24 (0, 0))) ∧ Aside0 (Below w.heap.size w wc))
    case first =>
      have H := HC5.out
      clear HC5
      replace H := Option.bind_eq_some_iff.mp H
      obtain ⟨t225, A90, H⟩ := H
      replace H : (if t225 = true then ((vinculumlaw03_few.f k a1_0 a1_1 a1_2 l1_3).bind fun t226 => (vinculumlaw03_CodecEqual.j0 k (!t226) a0_0 a0_1 a0_2 l0_3 a1_0 a1_1 a1_2 l1_3)) else (vinculumlaw03_CodecEqual.j0 k true a0_0 a0_1 a0_2 l0_3 a1_0 a1_1 a1_2 l1_3)) = some r := H
      have A9 := Aside0.mk A90
      clear A90
      by_cases c10 : t225 = true
      · subst c10
        have H1 : ((vinculumlaw03_few.f k a1_0 a1_1 a1_2 l1_3).bind fun t226 => (vinculumlaw03_CodecEqual.j0 k (!t226) a0_0 a0_1 a0_2 l0_3 a1_0 a1_1 a1_2 l1_3)) = some r := by rw [if_pos rfl] at H; exact H
        clear H
        have H := H1
        clear H1
        replace H := Option.bind_eq_some_iff.mp H
        obtain ⟨t226, A110, H⟩ := H
        replace H : (vinculumlaw03_CodecEqual.j0 k (!t226) a0_0 a0_1 a0_2 l0_3 a1_0 a1_1 a1_2 l1_3) = some r := H
        have A11 := Aside0.mk A110
        clear A110
        have H' := Aside0.mk H
        clear H
        have hnb12 := NB222_223.out
        have hnc12 := NB223_222.out
        have hcz13_0 : w8.cell? ⟨gb222, 0, none⟩ = some (.int .i64 a0_0) := (blk_cell BK222.out 0).trans rfl
        have hcz13_1 : w8.cell? ⟨gb222, 1, none⟩ = some (.int .i64 a0_1) := (blk_cell BK222.out 1).trans rfl
        have hcz13_2 : w8.cell? ⟨gb222, 2, none⟩ = some (.string a0_2) := (blk_cell BK222.out 2).trans rfl
        have hcz13_3 : w8.cell? ⟨gb222, 3, none⟩ = some (.slice A0_3 l0_3.length c0_3) := (blk_cell BK222.out 3).trans rfl
        have hfz13_0 := blk_frozen BK222.out 0
        have hfz13_1 := blk_frozen BK222.out 1
        have hfz13_2 := blk_frozen BK222.out 2
        have hfz13_3 := blk_frozen BK222.out 3
        go_wp2_with (first | ((with_reducible refine gate_callee (f := 12) rfl ?_); refine goesL_ (some 8) rfl rfl Try.func12 (by kernel_rfl) rfl #[.agg #[.int .i64 a0_0, .int .i64 a0_1, .string a0_2, .slice A0_3 l0_3.length c0_3]] rfl (by (try simp only [List.map_toArray, List.map_cons, List.map_nil]); first | done | rfl | (simp only [List.length_drop, List.length_take]; rfl)) ?_; (with_reducible refine (vinculumlaw03_few.calls k a0_0 a0_1 a0_2 _ _ l0_3 true _ ?side1 ?side2 A9.out).mono ?_); (case side1 => repeat (first | exact (Kd.C_below HR0_3.out HB.out) | (with_reducible refine Kd.C_alloc ?_ _) | (with_reducible refine Kd.C_drewN ?_ _) | (with_reducible refine Kd.C_drew ?_))); (case side2 => exact HC0_3.out); rintro e w14 ⟨rfl, hb⟩; refine ⟨_, rfl, ?_⟩; have n0_ := Aside0.mk (blk_below (g := gb222) (o := .cells #[.int .i64 a0_0, .int .i64 a0_1, .string a0_2, .slice A0_3 l0_3.length c0_3] 24 (0, 0)) (by (with_reducible repeat (first | refine blk_drewN ?_ _ | refine blk_drew ?_ | refine blk_alloc ?_ _)); exact BK222.out) hb); have n1_ := Aside0.mk (blk_below (g := gb223) (o := .cells #[.int .i64 a1_0, .int .i64 a1_1, .string a1_2, .slice A1_3 l1_3.length c1_3] 24 (0, 0)) (by (with_reducible repeat (first | refine blk_drewN ?_ _ | refine blk_drew ?_ | refine blk_alloc ?_ _)); exact BK223.out) hb); have n2_ := Aside0.mk (below_step (by repeat (first | (with_reducible first | exact HB.out | apply below_alloc | apply pw_below_drewN | apply below_drew1 | refine below_set ?_ GE222.out | refine below_set ?_ GE223.out) | exact HB.out)) hb); clear BK222; clear BK223; clear HB; have BK222 := n0_; have BK223 := n1_; have HB := n2_; clear n0_ n1_ n2_; (try clear hb); (try clear hb2); (try clear hk); (try clear hi); have hcz15_0 : w14.cell? ⟨gb223, 0, none⟩ = some (.int .i64 a1_0) := (blk_cell BK223.out 0).trans rfl; have hcz15_1 : w14.cell? ⟨gb223, 1, none⟩ = some (.int .i64 a1_1) := (blk_cell BK223.out 1).trans rfl; have hcz15_2 : w14.cell? ⟨gb223, 2, none⟩ = some (.string a1_2) := (blk_cell BK223.out 2).trans rfl; have hcz15_3 : w14.cell? ⟨gb223, 3, none⟩ = some (.slice A1_3 l1_3.length c1_3) := (blk_cell BK223.out 3).trans rfl; have hfz15_0 := blk_frozen BK223.out 0; have hfz15_1 := blk_frozen BK223.out 1; have hfz15_2 := blk_frozen BK223.out 2; have hfz15_3 := blk_frozen BK223.out 3) | (go_at_call 12; (with_reducible refine (vinculumlaw03_few.calls k a1_0 a1_1 a1_2 _ _ l1_3 t226 _ ?side1 ?side2 A11.out).mono ?_); (case side1 => repeat (first | exact (Kd.C_below HR1_3.out HB.out) | (with_reducible refine Kd.C_alloc ?_ _) | (with_reducible refine Kd.C_drewN ?_ _) | (with_reducible refine Kd.C_drew ?_))); (case side2 => exact HC1_3.out); rintro e w16 ⟨rfl, hb⟩; have n0_ := Aside0.mk (blk_below (g := gb222) (o := .cells #[.int .i64 a0_0, .int .i64 a0_1, .string a0_2, .slice A0_3 l0_3.length c0_3] 24 (0, 0)) (by (with_reducible repeat (first | refine blk_drewN ?_ _ | refine blk_drew ?_ | refine blk_alloc ?_ _)); exact BK222.out) hb); have n1_ := Aside0.mk (blk_below (g := gb223) (o := .cells #[.int .i64 a1_0, .int .i64 a1_1, .string a1_2, .slice A1_3 l1_3.length c1_3] 24 (0, 0)) (by (with_reducible repeat (first | refine blk_drewN ?_ _ | refine blk_drew ?_ | refine blk_alloc ?_ _)); exact BK223.out) hb); have n2_ := Aside0.mk (below_step (by repeat (first | (with_reducible first | exact HB.out | apply below_alloc | apply pw_below_drewN | apply below_drew1 | refine below_set ?_ GE222.out | refine below_set ?_ GE223.out) | exact HB.out)) hb); clear BK222; clear BK223; clear HB; have BK222 := n0_; have BK223 := n1_; have HB := n2_; clear n0_ n1_ n2_; (try clear hb); (try clear hb2); (try clear hk); (try clear hi)))
        go_meet
        case rel => exact ⟨_, (!t226), (by first | rfl | (simp; done) | (simp [*]; done) | (simp [ne_nil_bool]; done)), H', ⟨by first | omega | exact Nat.le_refl _⟩, ⟨by (with_reducible repeat (first | refine blk_drewN ?_ _ | refine blk_drew ?_ | refine blk_alloc ?_ _)); exact BK222.out⟩, ⟨by (with_reducible repeat (first | refine blk_drewN ?_ _ | refine blk_drew ?_ | refine blk_alloc ?_ _)); exact BK223.out⟩, ⟨by repeat (first | (with_reducible first | exact HB.out | apply below_alloc | apply pw_below_drewN | apply below_drew1 | refine below_set ?_ GE222.out | refine below_set ?_ GE223.out) | exact HB.out)⟩⟩
      · replace c10 := Bool.eq_false_iff.mpr c10
        subst c10
        have H1 : (vinculumlaw03_CodecEqual.j0 k true a0_0 a0_1 a0_2 l0_3 a1_0 a1_1 a1_2 l1_3) = some r := by rw [if_neg (show ¬ (false = true) by decide)] at H; exact H
        clear H
        have H := H1
        clear H1
        have H' := Aside0.mk H
        clear H
        have hnb17 := NB222_223.out
        have hnc17 := NB223_222.out
        have hcz18_0 : w8.cell? ⟨gb222, 0, none⟩ = some (.int .i64 a0_0) := (blk_cell BK222.out 0).trans rfl
        have hcz18_1 : w8.cell? ⟨gb222, 1, none⟩ = some (.int .i64 a0_1) := (blk_cell BK222.out 1).trans rfl
        have hcz18_2 : w8.cell? ⟨gb222, 2, none⟩ = some (.string a0_2) := (blk_cell BK222.out 2).trans rfl
        have hcz18_3 : w8.cell? ⟨gb222, 3, none⟩ = some (.slice A0_3 l0_3.length c0_3) := (blk_cell BK222.out 3).trans rfl
        have hfz18_0 := blk_frozen BK222.out 0
        have hfz18_1 := blk_frozen BK222.out 1
        have hfz18_2 := blk_frozen BK222.out 2
        have hfz18_3 := blk_frozen BK222.out 3
        go_wp2_with (first | ((with_reducible refine gate_callee (f := 12) rfl ?_); refine goesL_ (some 8) rfl rfl Try.func12 (by kernel_rfl) rfl #[.agg #[.int .i64 a0_0, .int .i64 a0_1, .string a0_2, .slice A0_3 l0_3.length c0_3]] rfl (by (try simp only [List.map_toArray, List.map_cons, List.map_nil]); first | done | rfl | (simp only [List.length_drop, List.length_take]; rfl)) ?_; (with_reducible refine (vinculumlaw03_few.calls k a0_0 a0_1 a0_2 _ _ l0_3 false _ ?side1 ?side2 A9.out).mono ?_); (case side1 => repeat (first | exact (Kd.C_below HR0_3.out HB.out) | (with_reducible refine Kd.C_alloc ?_ _) | (with_reducible refine Kd.C_drewN ?_ _) | (with_reducible refine Kd.C_drew ?_))); (case side2 => exact HC0_3.out); rintro e w19 ⟨rfl, hb⟩; refine ⟨_, rfl, ?_⟩; have n0_ := Aside0.mk (blk_below (g := gb222) (o := .cells #[.int .i64 a0_0, .int .i64 a0_1, .string a0_2, .slice A0_3 l0_3.length c0_3] 24 (0, 0)) (by (with_reducible repeat (first | refine blk_drewN ?_ _ | refine blk_drew ?_ | refine blk_alloc ?_ _)); exact BK222.out) hb); have n1_ := Aside0.mk (blk_below (g := gb223) (o := .cells #[.int .i64 a1_0, .int .i64 a1_1, .string a1_2, .slice A1_3 l1_3.length c1_3] 24 (0, 0)) (by (with_reducible repeat (first | refine blk_drewN ?_ _ | refine blk_drew ?_ | refine blk_alloc ?_ _)); exact BK223.out) hb); have n2_ := Aside0.mk (below_step (by repeat (first | (with_reducible first | exact HB.out | apply below_alloc | apply pw_below_drewN | apply below_drew1 | refine below_set ?_ GE222.out | refine below_set ?_ GE223.out) | exact HB.out)) hb); clear BK222; clear BK223; clear HB; have BK222 := n0_; have BK223 := n1_; have HB := n2_; clear n0_ n1_ n2_; (try clear hb); (try clear hb2); (try clear hk); (try clear hi)))
        go_meet
        case rel => exact ⟨_, (true), (by first | rfl | (simp; done) | (simp [*]; done) | (simp [ne_nil_bool]; done)), H', ⟨by first | omega | exact Nat.le_refl _⟩, ⟨by (with_reducible repeat (first | refine blk_drewN ?_ _ | refine blk_drew ?_ | refine blk_alloc ?_ _)); exact BK222.out⟩, ⟨by (with_reducible repeat (first | refine blk_drewN ?_ _ | refine blk_drew ?_ | refine blk_alloc ?_ _)); exact BK223.out⟩, ⟨by repeat (first | (with_reducible first | exact HB.out | apply below_alloc | apply pw_below_drewN | apply below_drew1 | refine below_set ?_ GE222.out | refine below_set ?_ GE223.out) | exact HB.out)⟩⟩
    case rest =>
      clear HC5
      try clear c1
      try clear p2
      try clear c4
      try clear c10
      try clear c11
      try clear c12
      try clear c17
      try clear hcz13_0
      try clear hcz13_1
      try clear hcz13_2
      try clear hcz13_3
      try clear hcz15_0
      try clear hcz15_1
      try clear hcz15_2
      try clear hcz15_3
      try clear hcz18_0
      try clear hcz18_1
      try clear hcz18_2
      try clear hcz18_3
      try clear hfz13_0
      try clear hfz13_1
      try clear hfz13_2
      try clear hfz13_3
      try clear hfz15_0
      try clear hfz15_1
      try clear hfz15_2
      try clear hfz15_3
      try clear hfz18_0
      try clear hfz18_1
      try clear hfz18_2
      try clear hfz18_3
      obtain ⟨kq, x14_4, rfl, HA, HJ4, BK222, BK223, HB⟩ := hcut
      cases kq with
      | zero => exact absurd HA.out (by simp [vinculumlaw03_CodecEqual.j0])
      | succ kj4 =>
        have H := HA.out
        clear HA
        simp only [vinculumlaw03_CodecEqual.j0] at H
        by_cases c20 : x14_4 = true
        · subst c20
          have H1 : (some true) = some r := by rw [if_pos rfl] at H; exact H
          clear H
          have H := H1
          clear H1
          obtain rfl := Option.some.inj H
          go_wp2
          go_ret
          exact ⟨by first | rfl | (simp [errW_none, errW_some] <;> rfl) | (simp [*, errW_none, errW_some] <;> rfl), by repeat (first | (with_reducible first | exact HB.out | apply below_alloc | apply pw_below_drewN | apply below_drew1 | refine below_set ?_ GE222.out | refine below_set ?_ GE223.out) | exact HB.out)⟩
        · replace c20 := Bool.eq_false_iff.mpr c20
          subst c20
          have H1 : ((vinculumlaw03_own.f kj4 a0_0 a0_1 a0_2 l0_3).bind fun bt227 => ((vinculumlaw03_own.f kj4 a1_0 a1_1 a1_2 l1_3).bind fun bt233 => ((codec_Equal.f kj4 bt227.1 bt227.2.1 bt227.2.2.1 bt227.2.2.2 bt233.1 bt233.2.1 bt233.2.2.1 bt233.2.2.2).bind fun t239 => ((vinculumref03_Equal.f kj4 a0_0 a0_1 a0_2 l0_3 a1_0 a1_1 a1_2 l1_3).bind fun t240 => (if (t239 == t240) = true then ((vinculumlaw03_own.f kj4 a0_0 a0_1 a0_2 l0_3).bind fun bt241 => ((vinculumlaw03_own.f kj4 a0_0 a0_1 a0_2 l0_3).bind fun bt247 => ((codec_Equal.f kj4 bt241.1 bt241.2.1 bt241.2.2.1 bt241.2.2.2 bt247.1 bt247.2.1 bt247.2.2.1 bt247.2.2.2).bind fun t253 => (some t253)))) else (some false)))))) = some r := by rw [if_neg (show ¬ (false = true) by decide)] at H; exact H
          clear H
          have H := H1
          clear H1
          replace H := Option.bind_eq_some_iff.mp H
          obtain ⟨⟨t227, t228, t229, t230⟩, A210, H⟩ := H
          replace H : ((vinculumlaw03_own.f kj4 a1_0 a1_1 a1_2 l1_3).bind fun bt233 => ((codec_Equal.f kj4 t227 t228 t229 t230 bt233.1 bt233.2.1 bt233.2.2.1 bt233.2.2.2).bind fun t239 => ((vinculumref03_Equal.f kj4 a0_0 a0_1 a0_2 l0_3 a1_0 a1_1 a1_2 l1_3).bind fun t240 => (if (t239 == t240) = true then ((vinculumlaw03_own.f kj4 a0_0 a0_1 a0_2 l0_3).bind fun bt241 => ((vinculumlaw03_own.f kj4 a0_0 a0_1 a0_2 l0_3).bind fun bt247 => ((codec_Equal.f kj4 bt241.1 bt241.2.1 bt241.2.2.1 bt241.2.2.2 bt247.1 bt247.2.1 bt247.2.2.1 bt247.2.2.2).bind fun t253 => (some t253)))) else (some false))))) = some r := H
          have A21 := Aside0.mk A210
          clear A210
          replace H := Option.bind_eq_some_iff.mp H
          obtain ⟨⟨t233, t234, t235, t236⟩, A220, H⟩ := H
          replace H : ((codec_Equal.f kj4 t227 t228 t229 t230 t233 t234 t235 t236).bind fun t239 => ((vinculumref03_Equal.f kj4 a0_0 a0_1 a0_2 l0_3 a1_0 a1_1 a1_2 l1_3).bind fun t240 => (if (t239 == t240) = true then ((vinculumlaw03_own.f kj4 a0_0 a0_1 a0_2 l0_3).bind fun bt241 => ((vinculumlaw03_own.f kj4 a0_0 a0_1 a0_2 l0_3).bind fun bt247 => ((codec_Equal.f kj4 bt241.1 bt241.2.1 bt241.2.2.1 bt241.2.2.2 bt247.1 bt247.2.1 bt247.2.2.1 bt247.2.2.2).bind fun t253 => (some t253)))) else (some false)))) = some r := H
          have A22 := Aside0.mk A220
          clear A220
          replace H := Option.bind_eq_some_iff.mp H
          obtain ⟨t239, A230, H⟩ := H
          replace H : ((vinculumref03_Equal.f kj4 a0_0 a0_1 a0_2 l0_3 a1_0 a1_1 a1_2 l1_3).bind fun t240 => (if (t239 == t240) = true then ((vinculumlaw03_own.f kj4 a0_0 a0_1 a0_2 l0_3).bind fun bt241 => ((vinculumlaw03_own.f kj4 a0_0 a0_1 a0_2 l0_3).bind fun bt247 => ((codec_Equal.f kj4 bt241.1 bt241.2.1 bt241.2.2.1 bt241.2.2.2 bt247.1 bt247.2.1 bt247.2.2.1 bt247.2.2.2).bind fun t253 => (some t253)))) else (some false))) = some r := H
          have A23 := Aside0.mk A230
          clear A230
          replace H := Option.bind_eq_some_iff.mp H
          obtain ⟨t240, A240, H⟩ := H
          replace H : (if (t239 == t240) = true then ((vinculumlaw03_own.f kj4 a0_0 a0_1 a0_2 l0_3).bind fun bt241 => ((vinculumlaw03_own.f kj4 a0_0 a0_1 a0_2 l0_3).bind fun bt247 => ((codec_Equal.f kj4 bt241.1 bt241.2.1 bt241.2.2.1 bt241.2.2.2 bt247.1 bt247.2.1 bt247.2.2.1 bt247.2.2.2).bind fun t253 => (some t253)))) else (some false)) = some r := H
          have A24 := Aside0.mk A240
          clear A240
          by_cases c25 : (t239 == t240) = true
          · rw [if_pos c25] at H
            have c25b0 : (t239 == t240) = true := c25
            (try (have c25b1 : decide (t239 = t240) = true := by simpa using c25))
            (try (have c25b2 : (t239 == t240) = true := by simpa using c25))
            clear c25
            replace H := Option.bind_eq_some_iff.mp H
            obtain ⟨⟨t241, t242, t243, t244⟩, A260, H⟩ := H
            replace H : ((vinculumlaw03_own.f kj4 a0_0 a0_1 a0_2 l0_3).bind fun bt247 => ((codec_Equal.f kj4 t241 t242 t243 t244 bt247.1 bt247.2.1 bt247.2.2.1 bt247.2.2.2).bind fun t253 => (some t253))) = some r := H
            have A26 := Aside0.mk A260
            clear A260
            replace H := Option.bind_eq_some_iff.mp H
            obtain ⟨⟨t247, t248, t249, t250⟩, A270, H⟩ := H
            replace H : ((codec_Equal.f kj4 t241 t242 t243 t244 t247 t248 t249 t250).bind fun t253 => (some t253)) = some r := H
            have A27 := Aside0.mk A270
            clear A270
            replace H := Option.bind_eq_some_iff.mp H
            obtain ⟨t253, A280, H⟩ := H
            replace H : (some t253) = some r := H
            have A28 := Aside0.mk A280
            clear A280
            obtain rfl := Option.some.inj H
            try go_wp2
            have n0_ := Aside0.mk (blk_drew BK222.out)
            have n1_ := Aside0.mk (blk_drew BK223.out)
            have n2_ := Aside0.mk (below_drew1 HB.out)
            clear BK222
            clear BK223
            clear HB
            have BK222 := n0_
            have BK223 := n1_
            have HB := n2_
            clear n0_ n1_ n2_
            refine start_ (n := 17) (S := fun w' => w'.cell? ⟨gb222, 0, none⟩ = some (.int .i64 a0_0) ∧ w'.cell? ⟨gb222, 1, none⟩ = some (.int .i64 a0_1) ∧ w'.cell? ⟨gb222, 2, none⟩ = some (.string a0_2) ∧ w'.cell? ⟨gb222, 3, none⟩ = some (.slice A0_3 l0_3.length c0_3) ∧ w'.cell? ⟨gb223, 0, none⟩ = some (.int .i64 a1_0) ∧ w'.cell? ⟨gb223, 1, none⟩ = some (.int .i64 a1_1) ∧ w'.cell? ⟨gb223, 2, none⟩ = some (.string a1_2) ∧ w'.cell? ⟨gb223, 3, none⟩ = some (.slice A1_3 l1_3.length c1_3)) (ds := []) #[false, false, false, false, false, false, false, false, false, false, false, false, false, false, false, false, false] (by kernel_rfl) rfl rfl ⟨(blk_cell BK222.out 0).trans rfl, (blk_cell BK222.out 1).trans rfl, (blk_cell BK222.out 2).trans rfl, (blk_cell BK222.out 3).trans rfl, (blk_cell BK223.out 0).trans rfl, (blk_cell BK223.out 1).trans rfl, (blk_cell BK223.out 2).trans rfl, (blk_cell BK223.out 3).trans rfl⟩ (fun hHeld => ?_); refine with_tabW vinculumlaw03_CodecEqual.tab5 vinculumlaw03_CodecEqual.bits5 (fun HT_ HW_ => ?_)
            generalize wc.drew = w29 at BK222 BK223 HB hHeld ⊢
            refine take_ (i := 0) (N := some 15) (v := ?_) (a' := ?_) #[true, false, false, false, false, false, false, false, false, false, false, false, false, false, false, false, false] rfl rfl (take_ofW HT_.out HW_.out (by kernel_rfl)) (fun _ _ _ h => h) (Or.inl ⟨by rfl, ?_⟩) hHeld ?_ ?_
            rotate_left
            · rintro w' ⟨s0, s1, s2, s3, s4, s5, s6, s7⟩
              go_simp
              with_reducible rfl
            rotate_left
            · simp only [Act.put, List.setIfInBounds_toArray, List.set_cons_zero, List.set_cons_succ, i64_w, i32_w]
              rfl
            refine take_ (i := 2) (N := some 17) (v := ?_) (a' := ?_) #[true, false, true, false, false, false, false, false, false, false, false, false, false, false, false, false, false] rfl rfl (take_ofW HT_.out HW_.out (by kernel_rfl)) (fun _ _ _ h => h) (Or.inl ⟨by rfl, ?_⟩) hHeld ?_ ?_
            rotate_left
            · rintro w' ⟨s0, s1, s2, s3, s4, s5, s6, s7⟩
              go_simp
              with_reducible rfl
            rotate_left
            · simp only [Act.put, List.setIfInBounds_toArray, List.set_cons_zero, List.set_cons_succ, i64_w, i32_w]
              rfl
            refine take_ (i := 5) (N := some 20) (v := ?_) (a' := ?_) #[true, false, true, false, false, true, false, false, false, false, false, false, false, false, false, false, false] rfl rfl (take_ofW HT_.out HW_.out (by kernel_rfl)) (fun _ _ _ h => h) (Or.inl ⟨by rfl, ?_⟩) hHeld ?_ ?_
            rotate_left
            · rintro w' ⟨s0, s1, s2, s3, s4, s5, s6, s7⟩
              go_simp
              with_reducible rfl
            rotate_left
            · simp only [Act.put, List.setIfInBounds_toArray, List.set_cons_zero, List.set_cons_succ, i64_w, i32_w]
              rfl
            refine take_ (i := 6) (N := some 21) (v := ?_) (a' := ?_) #[true, false, true, false, false, true, true, false, false, false, false, false, false, false, false, false, false] rfl rfl (take_ofW HT_.out HW_.out (by kernel_rfl)) (fun _ _ _ h => h) (Or.inl ⟨by rfl, ?_⟩) hHeld ?_ ?_
            rotate_left
            · rintro w' ⟨s0, s1, s2, s3, s4, s5, s6, s7⟩
              go_simp
              with_reducible rfl
            rotate_left
            · simp only [Act.put, List.setIfInBounds_toArray, List.set_cons_zero, List.set_cons_succ, i64_w, i32_w]
              rfl
            refine one_ (i := 1) (N := some 16) #[true, true, true, false, false, true, true, false, false, false, false, false, false, false, false, false, false] rfl rfl (one_of HT_.out (by kernel_rfl)) (by decide) (fun K hK => ?_)
            refine goes_ Try.func13 (by kernel_rfl) rfl #[.agg #[.int .i64 a0_0, .int .i64 a0_1, .string a0_2, .slice A0_3 l0_3.length c0_3]] (by rfl) rfl rfl (by (try simp only [List.map_toArray, List.map_cons, List.map_nil]); first | done | rfl | (simp only [List.length_drop, List.length_take]; rfl)) ?_
            with_reducible refine (vinculumlaw03_own.calls kj4 a0_0 a0_1 a0_2 _ _ l0_3 t227 t228 t229 t230 _ ?side1 ?side2 A21.out).mono ?_
            (case side1 => repeat (first | exact (Kd.C_below HR0_3.out HB.out) | (with_reducible refine Kd.C_alloc ?_ _) | (with_reducible refine Kd.C_drewN ?_ _) | (with_reducible refine Kd.C_drew ?_)))
            (case side2 => exact HC0_3.out)
            rintro e w30 ⟨v231, rfl, ho0, hb⟩
            refine ⟨_, rfl, ?_⟩
            have n0_ := Aside0.mk (Kd.R_lower ho0 (below_size (by repeat (first | (with_reducible first | exact HB.out | apply below_alloc | apply pw_below_drewN | apply below_drew1 | refine below_set ?_ GE222.out | refine below_set ?_ GE223.out) | exact HB.out))))
            have n1_ := Aside0.mk (blk_below (g := gb222) (o := .cells #[.int .i64 a0_0, .int .i64 a0_1, .string a0_2, .slice A0_3 l0_3.length c0_3] 24 (0, 0)) (by (with_reducible repeat (first | refine blk_drewN ?_ _ | refine blk_drew ?_ | refine blk_alloc ?_ _)); exact BK222.out) hb)
            have n2_ := Aside0.mk (blk_below (g := gb223) (o := .cells #[.int .i64 a1_0, .int .i64 a1_1, .string a1_2, .slice A1_3 l1_3.length c1_3] 24 (0, 0)) (by (with_reducible repeat (first | refine blk_drewN ?_ _ | refine blk_drew ?_ | refine blk_alloc ?_ _)); exact BK223.out) hb)
            have n3_ := Aside0.mk (below_step (by repeat (first | (with_reducible first | exact HB.out | apply below_alloc | apply pw_below_drewN | apply below_drew1 | refine below_set ?_ GE222.out | refine below_set ?_ GE223.out) | exact HB.out)) hb)
            clear BK222
            clear BK223
            clear HB
            have HO232 := n0_
            have BK222 := n1_
            have BK223 := n2_
            have HB := n3_
            clear n0_ n1_ n2_ n3_
            (try clear hb)
            (try clear hb2)
            (try clear hk)
            (try clear hi)
            (try clear ho0)
            refine hK.out _ _ ⟨(blk_cell BK222.out 0).trans rfl, (blk_cell BK222.out 1).trans rfl, (blk_cell BK222.out 2).trans rfl, (blk_cell BK222.out 3).trans rfl, (blk_cell BK223.out 0).trans rfl, (blk_cell BK223.out 1).trans rfl, (blk_cell BK223.out 2).trans rfl, (blk_cell BK223.out 3).trans rfl⟩ (fun hHeld => ?_)
            clear hK K
            refine norm_ (a' := ?_) ?_ ?_
            rotate_left
            · show Act.put _ (some 16) _ = _
              simp only [Act.put, List.setIfInBounds_toArray, List.set_cons_zero, List.set_cons_succ, i64_w, i32_w]
              rfl
            refine one_ (i := 3) (N := some 18) #[true, true, true, true, false, true, true, false, false, false, false, false, false, false, false, false, false] rfl rfl (one_of HT_.out (by kernel_rfl)) (by decide) (fun K hK => ?_)
            refine goes_ Try.func13 (by kernel_rfl) rfl #[.agg #[.int .i64 a1_0, .int .i64 a1_1, .string a1_2, .slice A1_3 l1_3.length c1_3]] (by rfl) rfl rfl (by (try simp only [List.map_toArray, List.map_cons, List.map_nil]); first | done | rfl | (simp only [List.length_drop, List.length_take]; rfl)) ?_
            with_reducible refine (vinculumlaw03_own.calls kj4 a1_0 a1_1 a1_2 _ _ l1_3 t233 t234 t235 t236 _ ?side1 ?side2 A22.out).mono ?_
            (case side1 => repeat (first | exact (Kd.C_below HR1_3.out HB.out) | (with_reducible refine Kd.C_alloc ?_ _) | (with_reducible refine Kd.C_drewN ?_ _) | (with_reducible refine Kd.C_drew ?_)))
            (case side2 => exact HC1_3.out)
            rintro e w31 ⟨v237, rfl, ho0, hb⟩
            refine ⟨_, rfl, ?_⟩
            have n0_ := Aside0.mk (Kd.R_elder' (by (with_reducible repeat (first | apply Kd.R_alloc | apply Kd.R_drewN | apply Kd.R_drew)); exact HO232.out) (Kd.R_base ho0) hb)
            have n1_ := Aside0.mk (Kd.R_lower (Kd.R_new' ho0 (Kd.R_lt (by (with_reducible repeat (first | apply Kd.R_alloc | apply Kd.R_drewN | apply Kd.R_drew)); exact HO232.out))) (below_size (by repeat (first | (with_reducible first | exact HB.out | apply below_alloc | apply pw_below_drewN | apply below_drew1 | refine below_set ?_ GE222.out | refine below_set ?_ GE223.out) | exact HB.out))))
            have n2_ := Aside0.mk (blk_below (g := gb222) (o := .cells #[.int .i64 a0_0, .int .i64 a0_1, .string a0_2, .slice A0_3 l0_3.length c0_3] 24 (0, 0)) (by (with_reducible repeat (first | refine blk_drewN ?_ _ | refine blk_drew ?_ | refine blk_alloc ?_ _)); exact BK222.out) hb)
            have n3_ := Aside0.mk (blk_below (g := gb223) (o := .cells #[.int .i64 a1_0, .int .i64 a1_1, .string a1_2, .slice A1_3 l1_3.length c1_3] 24 (0, 0)) (by (with_reducible repeat (first | refine blk_drewN ?_ _ | refine blk_drew ?_ | refine blk_alloc ?_ _)); exact BK223.out) hb)
            have n4_ := Aside0.mk (below_step (by repeat (first | (with_reducible first | exact HB.out | apply below_alloc | apply pw_below_drewN | apply below_drew1 | refine below_set ?_ GE222.out | refine below_set ?_ GE223.out) | exact HB.out)) hb)
            clear HO232
            clear BK222
            clear BK223
            clear HB
            have HO232 := n0_
            have HO238 := n1_
            have BK222 := n2_
            have BK223 := n3_
            have HB := n4_
            clear n0_ n1_ n2_ n3_ n4_
            (try clear hb)
            (try clear hb2)
            (try clear hk)
            (try clear hi)
            (try clear ho0)
            obtain ⟨Ao32, co32, eo32⟩ := Kd.R_slice HO232.out
            (first | subst eo32 | (injection eo32 with f1_ f2_ f3_; have f4_ := f1_.symm; have f5_ := f3_.symm; clear f1_ f2_ f3_; subst f4_; subst f5_))
            obtain ⟨Ao33, co33, eo33⟩ := Kd.R_slice HO238.out
            (first | subst eo33 | (injection eo33 with f1_ f2_ f3_; have f4_ := f1_.symm; have f5_ := f3_.symm; clear f1_ f2_ f3_; subst f4_; subst f5_))
            refine hK.out _ _ ⟨(blk_cell BK222.out 0).trans rfl, (blk_cell BK222.out 1).trans rfl, (blk_cell BK222.out 2).trans rfl, (blk_cell BK222.out 3).trans rfl, (blk_cell BK223.out 0).trans rfl, (blk_cell BK223.out 1).trans rfl, (blk_cell BK223.out 2).trans rfl, (blk_cell BK223.out 3).trans rfl⟩ (fun hHeld => ?_)
            clear hK K
            refine norm_ (a' := ?_) ?_ ?_
            rotate_left
            · show Act.put _ (some 18) _ = _
              simp only [Act.put, List.setIfInBounds_toArray, List.set_cons_zero, List.set_cons_succ, i64_w, i32_w]
              rfl
            refine one_ (i := 4) (N := some 19) #[true, true, true, true, true, true, true, false, false, false, false, false, false, false, false, false, false] rfl rfl (one_of HT_.out (by kernel_rfl)) (by decide) (fun K hK => ?_)
            refine goes_ Try.func20 (by kernel_rfl) rfl #[.agg #[.int .i64 t227, .int .i64 t228, .string t229, .slice Ao32 t230.length co32], .agg #[.int .i64 t233, .int .i64 t234, .string t235, .slice Ao33 t236.length co33]] (by rfl) rfl rfl (by (try simp only [List.map_toArray, List.map_cons, List.map_nil]); first | done | rfl | (simp only [List.length_drop, List.length_take]; rfl)) ?_
            with_reducible refine (codec_Equal.calls kj4 t227 t228 t229 _ _ t230 t233 t234 t235 _ _ t236 t239 _ ?side1 ?side2 ?side3 ?side4 A23.out).mono ?_
            (case side1 => repeat (first | exact (Kd.R_reads' HO232.out).2.2 | (with_reducible refine Kd.C_alloc ?_ _) | (with_reducible refine Kd.C_drewN ?_ _) | (with_reducible refine Kd.C_drew ?_)))
            (case side2 => exact (Kd.R_reads' HO232.out).2.1)
            (case side3 => repeat (first | exact (Kd.R_reads' HO238.out).2.2 | (with_reducible refine Kd.C_alloc ?_ _) | (with_reducible refine Kd.C_drewN ?_ _) | (with_reducible refine Kd.C_drew ?_)))
            (case side4 => exact (Kd.R_reads' HO238.out).2.1)
            rintro e w34 ⟨rfl, hb⟩
            refine ⟨_, rfl, ?_⟩
            have n0_ := Aside0.mk (Kd.R_below (by (with_reducible repeat (first | apply Kd.R_alloc | apply Kd.R_drewN | apply Kd.R_drew)); exact HO232.out) hb)
            have n1_ := Aside0.mk (Kd.R_below (by (with_reducible repeat (first | apply Kd.R_alloc | apply Kd.R_drewN | apply Kd.R_drew)); exact HO238.out) hb)
            have n2_ := Aside0.mk (blk_below (g := gb222) (o := .cells #[.int .i64 a0_0, .int .i64 a0_1, .string a0_2, .slice A0_3 l0_3.length c0_3] 24 (0, 0)) (by (with_reducible repeat (first | refine blk_drewN ?_ _ | refine blk_drew ?_ | refine blk_alloc ?_ _)); exact BK222.out) hb)
            have n3_ := Aside0.mk (blk_below (g := gb223) (o := .cells #[.int .i64 a1_0, .int .i64 a1_1, .string a1_2, .slice A1_3 l1_3.length c1_3] 24 (0, 0)) (by (with_reducible repeat (first | refine blk_drewN ?_ _ | refine blk_drew ?_ | refine blk_alloc ?_ _)); exact BK223.out) hb)
            have n4_ := Aside0.mk (below_step (by repeat (first | (with_reducible first | exact HB.out | apply below_alloc | apply pw_below_drewN | apply below_drew1 | refine below_set ?_ GE222.out | refine below_set ?_ GE223.out) | exact HB.out)) hb)
            clear HO232
            clear HO238
            clear BK222
            clear BK223
            clear HB
            have HO232 := n0_
            have HO238 := n1_
            have BK222 := n2_
            have BK223 := n3_
            have HB := n4_
            clear n0_ n1_ n2_ n3_ n4_
            (try clear hb)
            (try clear hb2)
            (try clear hk)
            (try clear hi)
            refine hK.out _ _ ⟨(blk_cell BK222.out 0).trans rfl, (blk_cell BK222.out 1).trans rfl, (blk_cell BK222.out 2).trans rfl, (blk_cell BK222.out 3).trans rfl, (blk_cell BK223.out 0).trans rfl, (blk_cell BK223.out 1).trans rfl, (blk_cell BK223.out 2).trans rfl, (blk_cell BK223.out 3).trans rfl⟩ (fun hHeld => ?_)
            clear hK K
            refine norm_ (a' := ?_) ?_ ?_
            rotate_left
            · show Act.put _ (some 19) _ = _
              simp only [Act.put, List.setIfInBounds_toArray, List.set_cons_zero, List.set_cons_succ, i64_w, i32_w]
              rfl
            refine one_ (i := 7) (N := some 22) #[true, true, true, true, true, true, true, true, false, false, false, false, false, false, false, false, false] rfl rfl (one_of HT_.out (by kernel_rfl)) (by decide) (fun K hK => ?_)
            refine goes_ Try.func21 (by kernel_rfl) rfl #[.agg #[.int .i64 a0_0, .int .i64 a0_1, .string a0_2, .slice A0_3 l0_3.length c0_3], .agg #[.int .i64 a1_0, .int .i64 a1_1, .string a1_2, .slice A1_3 l1_3.length c1_3]] (by rfl) rfl rfl (by (try simp only [List.map_toArray, List.map_cons, List.map_nil]); first | done | rfl | (simp only [List.length_drop, List.length_take]; rfl)) ?_
            with_reducible refine (vinculumref03_Equal.calls kj4 a0_0 a0_1 a0_2 _ _ l0_3 a1_0 a1_1 a1_2 _ _ l1_3 t240 _ ?side1 ?side2 ?side3 ?side4 A24.out).mono ?_
            (case side1 => repeat (first | exact (Kd.C_below HR0_3.out HB.out) | (with_reducible refine Kd.C_alloc ?_ _) | (with_reducible refine Kd.C_drewN ?_ _) | (with_reducible refine Kd.C_drew ?_)))
            (case side2 => exact HC0_3.out)
            (case side3 => repeat (first | exact (Kd.C_below HR1_3.out HB.out) | (with_reducible refine Kd.C_alloc ?_ _) | (with_reducible refine Kd.C_drewN ?_ _) | (with_reducible refine Kd.C_drew ?_)))
            (case side4 => exact HC1_3.out)
            rintro e w35 ⟨rfl, hb⟩
            refine ⟨_, rfl, ?_⟩
            have n0_ := Aside0.mk (Kd.R_below (by (with_reducible repeat (first | apply Kd.R_alloc | apply Kd.R_drewN | apply Kd.R_drew)); exact HO232.out) hb)
            have n1_ := Aside0.mk (Kd.R_below (by (with_reducible repeat (first | apply Kd.R_alloc | apply Kd.R_drewN | apply Kd.R_drew)); exact HO238.out) hb)
            have n2_ := Aside0.mk (blk_below (g := gb222) (o := .cells #[.int .i64 a0_0, .int .i64 a0_1, .string a0_2, .slice A0_3 l0_3.length c0_3] 24 (0, 0)) (by (with_reducible repeat (first | refine blk_drewN ?_ _ | refine blk_drew ?_ | refine blk_alloc ?_ _)); exact BK222.out) hb)
            have n3_ := Aside0.mk (blk_below (g := gb223) (o := .cells #[.int .i64 a1_0, .int .i64 a1_1, .string a1_2, .slice A1_3 l1_3.length c1_3] 24 (0, 0)) (by (with_reducible repeat (first | refine blk_drewN ?_ _ | refine blk_drew ?_ | refine blk_alloc ?_ _)); exact BK223.out) hb)
            have n4_ := Aside0.mk (below_step (by repeat (first | (with_reducible first | exact HB.out | apply below_alloc | apply pw_below_drewN | apply below_drew1 | refine below_set ?_ GE222.out | refine below_set ?_ GE223.out) | exact HB.out)) hb)
            clear HO232
            clear HO238
            clear BK222
            clear BK223
            clear HB
            have HO232 := n0_
            have HO238 := n1_
            have BK222 := n2_
            have BK223 := n3_
            have HB := n4_
            clear n0_ n1_ n2_ n3_ n4_
            (try clear hb)
            (try clear hb2)
            (try clear hk)
            (try clear hi)
            refine hK.out _ _ ⟨(blk_cell BK222.out 0).trans rfl, (blk_cell BK222.out 1).trans rfl, (blk_cell BK222.out 2).trans rfl, (blk_cell BK222.out 3).trans rfl, (blk_cell BK223.out 0).trans rfl, (blk_cell BK223.out 1).trans rfl, (blk_cell BK223.out 2).trans rfl, (blk_cell BK223.out 3).trans rfl⟩ (fun hHeld => ?_)
            clear hK K
            refine norm_ (a' := ?_) ?_ ?_
            rotate_left
            · show Act.put _ (some 22) _ = _
              simp only [Act.put, List.setIfInBounds_toArray, List.set_cons_zero, List.set_cons_succ, i64_w, i32_w]
              rfl
            refine pure_ (i := 8) (N := some 23) (v := ?_) (a' := ?_) #[true, true, true, true, true, true, true, true, true, false, false, false, false, false, false, false, false] rfl rfl (any_of HT_.out (by kernel_rfl)) (fun _ _ _ h => h) (Or.inl ⟨by rfl, ?_⟩) ?_ ?_
            rotate_left
            · intro w'
              go_simp
              with_reducible rfl
            rotate_left
            · simp only [Act.put, List.setIfInBounds_toArray, List.set_cons_zero, List.set_cons_succ, i64_w, i32_w]
              rfl
            refine pure_ (i := 9) (N := some 24) (v := ?_) (a' := ?_) #[true, true, true, true, true, true, true, true, true, true, false, false, false, false, false, false, false] rfl rfl (any_of HT_.out (by kernel_rfl)) (fun _ _ _ h => h) (Or.inl ⟨by rfl, ?_⟩) ?_ ?_
            rotate_left
            · intro w'
              go_simp
              with_reducible rfl
            rotate_left
            · simp only [Act.put, List.setIfInBounds_toArray, List.set_cons_zero, List.set_cons_succ, i64_w, i32_w]
              rfl
            refine take_ (i := 10) (N := some 25) (v := ?_) (a' := ?_) #[true, true, true, true, true, true, true, true, true, true, true, false, false, false, false, false, false] rfl rfl (take_ofW HT_.out HW_.out (by kernel_rfl)) (fun _ _ _ h => h) (Or.inl ⟨by rfl, ?_⟩) hHeld ?_ ?_
            rotate_left
            · rintro w' ⟨s0, s1, s2, s3, s4, s5, s6, s7⟩
              go_simp
              with_reducible rfl
            rotate_left
            · simp only [Act.put, List.setIfInBounds_toArray, List.set_cons_zero, List.set_cons_succ, i64_w, i32_w]
              rfl
            refine take_ (i := 12) (N := some 27) (v := ?_) (a' := ?_) #[true, true, true, true, true, true, true, true, true, true, true, false, true, false, false, false, false] rfl rfl (take_ofW HT_.out HW_.out (by kernel_rfl)) (fun _ _ _ h => h) (Or.inl ⟨by rfl, ?_⟩) hHeld ?_ ?_
            rotate_left
            · rintro w' ⟨s0, s1, s2, s3, s4, s5, s6, s7⟩
              go_simp
              with_reducible rfl
            rotate_left
            · simp only [Act.put, List.setIfInBounds_toArray, List.set_cons_zero, List.set_cons_succ, i64_w, i32_w]
              rfl
            refine one_ (i := 11) (N := some 26) #[true, true, true, true, true, true, true, true, true, true, true, true, true, false, false, false, false] rfl rfl (one_of HT_.out (by kernel_rfl)) (by decide) (fun K hK => ?_)
            refine goes_ Try.func13 (by kernel_rfl) rfl #[.agg #[.int .i64 a0_0, .int .i64 a0_1, .string a0_2, .slice A0_3 l0_3.length c0_3]] (by rfl) rfl rfl (by (try simp only [List.map_toArray, List.map_cons, List.map_nil]); first | done | rfl | (simp only [List.length_drop, List.length_take]; rfl)) ?_
            with_reducible refine (vinculumlaw03_own.calls kj4 a0_0 a0_1 a0_2 _ _ l0_3 t241 t242 t243 t244 _ ?side1 ?side2 A26.out).mono ?_
            (case side1 => repeat (first | exact (Kd.C_below HR0_3.out HB.out) | (with_reducible refine Kd.C_alloc ?_ _) | (with_reducible refine Kd.C_drewN ?_ _) | (with_reducible refine Kd.C_drew ?_)))
            (case side2 => exact HC0_3.out)
            rintro e w36 ⟨v245, rfl, ho0, hb⟩
            refine ⟨_, rfl, ?_⟩
            have n0_ := Aside0.mk (Kd.R_elder' (by (with_reducible repeat (first | apply Kd.R_alloc | apply Kd.R_drewN | apply Kd.R_drew)); exact HO232.out) (Kd.R_base ho0) hb)
            have n1_ := Aside0.mk (Kd.R_elder' (by (with_reducible repeat (first | apply Kd.R_alloc | apply Kd.R_drewN | apply Kd.R_drew)); exact HO238.out) (Kd.R_base ho0) hb)
            have n2_ := Aside0.mk (Kd.R_lower (Kd.R_new' (Kd.R_new' ho0 (Kd.R_lt (by (with_reducible repeat (first | apply Kd.R_alloc | apply Kd.R_drewN | apply Kd.R_drew)); exact HO232.out))) (Kd.R_lt (by (with_reducible repeat (first | apply Kd.R_alloc | apply Kd.R_drewN | apply Kd.R_drew)); exact HO238.out))) (below_size (by repeat (first | (with_reducible first | exact HB.out | apply below_alloc | apply pw_below_drewN | apply below_drew1 | refine below_set ?_ GE222.out | refine below_set ?_ GE223.out) | exact HB.out))))
            have n3_ := Aside0.mk (blk_below (g := gb222) (o := .cells #[.int .i64 a0_0, .int .i64 a0_1, .string a0_2, .slice A0_3 l0_3.length c0_3] 24 (0, 0)) (by (with_reducible repeat (first | refine blk_drewN ?_ _ | refine blk_drew ?_ | refine blk_alloc ?_ _)); exact BK222.out) hb)
            have n4_ := Aside0.mk (blk_below (g := gb223) (o := .cells #[.int .i64 a1_0, .int .i64 a1_1, .string a1_2, .slice A1_3 l1_3.length c1_3] 24 (0, 0)) (by (with_reducible repeat (first | refine blk_drewN ?_ _ | refine blk_drew ?_ | refine blk_alloc ?_ _)); exact BK223.out) hb)
            have n5_ := Aside0.mk (below_step (by repeat (first | (with_reducible first | exact HB.out | apply below_alloc | apply pw_below_drewN | apply below_drew1 | refine below_set ?_ GE222.out | refine below_set ?_ GE223.out) | exact HB.out)) hb)
            clear HO232
            clear HO238
            clear BK222
            clear BK223
            clear HB
            have HO232 := n0_
            have HO238 := n1_
            have HO246 := n2_
            have BK222 := n3_
            have BK223 := n4_
            have HB := n5_
            clear n0_ n1_ n2_ n3_ n4_ n5_
            (try clear hb)
            (try clear hb2)
            (try clear hk)
            (try clear hi)
            (try clear ho0)
            refine hK.out _ _ ⟨(blk_cell BK222.out 0).trans rfl, (blk_cell BK222.out 1).trans rfl, (blk_cell BK222.out 2).trans rfl, (blk_cell BK222.out 3).trans rfl, (blk_cell BK223.out 0).trans rfl, (blk_cell BK223.out 1).trans rfl, (blk_cell BK223.out 2).trans rfl, (blk_cell BK223.out 3).trans rfl⟩ (fun hHeld => ?_)
            clear hK K
            refine norm_ (a' := ?_) ?_ ?_
            rotate_left
            · show Act.put _ (some 26) _ = _
              simp only [Act.put, List.setIfInBounds_toArray, List.set_cons_zero, List.set_cons_succ, i64_w, i32_w]
              rfl
            refine one_ (i := 13) (N := some 28) #[true, true, true, true, true, true, true, true, true, true, true, true, true, true, false, false, false] rfl rfl (one_of HT_.out (by kernel_rfl)) (by decide) (fun K hK => ?_)
            refine goes_ Try.func13 (by kernel_rfl) rfl #[.agg #[.int .i64 a0_0, .int .i64 a0_1, .string a0_2, .slice A0_3 l0_3.length c0_3]] (by rfl) rfl rfl (by (try simp only [List.map_toArray, List.map_cons, List.map_nil]); first | done | rfl | (simp only [List.length_drop, List.length_take]; rfl)) ?_
            with_reducible refine (vinculumlaw03_own.calls kj4 a0_0 a0_1 a0_2 _ _ l0_3 t247 t248 t249 t250 _ ?side1 ?side2 A27.out).mono ?_
            (case side1 => repeat (first | exact (Kd.C_below HR0_3.out HB.out) | (with_reducible refine Kd.C_alloc ?_ _) | (with_reducible refine Kd.C_drewN ?_ _) | (with_reducible refine Kd.C_drew ?_)))
            (case side2 => exact HC0_3.out)
            rintro e w37 ⟨v251, rfl, ho0, hb⟩
            refine ⟨_, rfl, ?_⟩
            have n0_ := Aside0.mk (Kd.R_elder' (by (with_reducible repeat (first | apply Kd.R_alloc | apply Kd.R_drewN | apply Kd.R_drew)); exact HO232.out) (Kd.R_base ho0) hb)
            have n1_ := Aside0.mk (Kd.R_elder' (by (with_reducible repeat (first | apply Kd.R_alloc | apply Kd.R_drewN | apply Kd.R_drew)); exact HO238.out) (Kd.R_base ho0) hb)
            have n2_ := Aside0.mk (Kd.R_elder' (by (with_reducible repeat (first | apply Kd.R_alloc | apply Kd.R_drewN | apply Kd.R_drew)); exact HO246.out) (Kd.R_base ho0) hb)
            have n3_ := Aside0.mk (Kd.R_lower (Kd.R_new' (Kd.R_new' (Kd.R_new' ho0 (Kd.R_lt (by (with_reducible repeat (first | apply Kd.R_alloc | apply Kd.R_drewN | apply Kd.R_drew)); exact HO232.out))) (Kd.R_lt (by (with_reducible repeat (first | apply Kd.R_alloc | apply Kd.R_drewN | apply Kd.R_drew)); exact HO238.out))) (Kd.R_lt (by (with_reducible repeat (first | apply Kd.R_alloc | apply Kd.R_drewN | apply Kd.R_drew)); exact HO246.out))) (below_size (by repeat (first | (with_reducible first | exact HB.out | apply below_alloc | apply pw_below_drewN | apply below_drew1 | refine below_set ?_ GE222.out | refine below_set ?_ GE223.out) | exact HB.out))))
            have n4_ := Aside0.mk (blk_below (g := gb222) (o := .cells #[.int .i64 a0_0, .int .i64 a0_1, .string a0_2, .slice A0_3 l0_3.length c0_3] 24 (0, 0)) (by (with_reducible repeat (first | refine blk_drewN ?_ _ | refine blk_drew ?_ | refine blk_alloc ?_ _)); exact BK222.out) hb)
            have n5_ := Aside0.mk (blk_below (g := gb223) (o := .cells #[.int .i64 a1_0, .int .i64 a1_1, .string a1_2, .slice A1_3 l1_3.length c1_3] 24 (0, 0)) (by (with_reducible repeat (first | refine blk_drewN ?_ _ | refine blk_drew ?_ | refine blk_alloc ?_ _)); exact BK223.out) hb)
            have n6_ := Aside0.mk (below_step (by repeat (first | (with_reducible first | exact HB.out | apply below_alloc | apply pw_below_drewN | apply below_drew1 | refine below_set ?_ GE222.out | refine below_set ?_ GE223.out) | exact HB.out)) hb)
            clear HO232
            clear HO238
            clear HO246
            clear BK222
            clear BK223
            clear HB
            have HO232 := n0_
            have HO238 := n1_
            have HO246 := n2_
            have HO252 := n3_
            have BK222 := n4_
            have BK223 := n5_
            have HB := n6_
            clear n0_ n1_ n2_ n3_ n4_ n5_ n6_
            (try clear hb)
            (try clear hb2)
            (try clear hk)
            (try clear hi)
            (try clear ho0)
            obtain ⟨Ao38, co38, eo38⟩ := Kd.R_slice HO246.out
            (first | subst eo38 | (injection eo38 with f1_ f2_ f3_; have f4_ := f1_.symm; have f5_ := f3_.symm; clear f1_ f2_ f3_; subst f4_; subst f5_))
            obtain ⟨Ao39, co39, eo39⟩ := Kd.R_slice HO252.out
            (first | subst eo39 | (injection eo39 with f1_ f2_ f3_; have f4_ := f1_.symm; have f5_ := f3_.symm; clear f1_ f2_ f3_; subst f4_; subst f5_))
            refine hK.out _ _ ⟨(blk_cell BK222.out 0).trans rfl, (blk_cell BK222.out 1).trans rfl, (blk_cell BK222.out 2).trans rfl, (blk_cell BK222.out 3).trans rfl, (blk_cell BK223.out 0).trans rfl, (blk_cell BK223.out 1).trans rfl, (blk_cell BK223.out 2).trans rfl, (blk_cell BK223.out 3).trans rfl⟩ (fun hHeld => ?_)
            clear hK K
            refine norm_ (a' := ?_) ?_ ?_
            rotate_left
            · show Act.put _ (some 28) _ = _
              simp only [Act.put, List.setIfInBounds_toArray, List.set_cons_zero, List.set_cons_succ, i64_w, i32_w]
              rfl
            refine one_ (i := 14) (N := some 29) #[true, true, true, true, true, true, true, true, true, true, true, true, true, true, true, false, false] rfl rfl (one_of HT_.out (by kernel_rfl)) (by decide) (fun K hK => ?_)
            refine goes_ Try.func20 (by kernel_rfl) rfl #[.agg #[.int .i64 t241, .int .i64 t242, .string t243, .slice Ao38 t244.length co38], .agg #[.int .i64 t247, .int .i64 t248, .string t249, .slice Ao39 t250.length co39]] (by rfl) rfl rfl (by (try simp only [List.map_toArray, List.map_cons, List.map_nil]); first | done | rfl | (simp only [List.length_drop, List.length_take]; rfl)) ?_
            with_reducible refine (codec_Equal.calls kj4 t241 t242 t243 _ _ t244 t247 t248 t249 _ _ t250 t253 _ ?side1 ?side2 ?side3 ?side4 A28.out).mono ?_
            (case side1 => repeat (first | exact (Kd.R_reads' HO246.out).2.2 | (with_reducible refine Kd.C_alloc ?_ _) | (with_reducible refine Kd.C_drewN ?_ _) | (with_reducible refine Kd.C_drew ?_)))
            (case side2 => exact (Kd.R_reads' HO246.out).2.1)
            (case side3 => repeat (first | exact (Kd.R_reads' HO252.out).2.2 | (with_reducible refine Kd.C_alloc ?_ _) | (with_reducible refine Kd.C_drewN ?_ _) | (with_reducible refine Kd.C_drew ?_)))
            (case side4 => exact (Kd.R_reads' HO252.out).2.1)
            rintro e w40 ⟨rfl, hb⟩
            refine ⟨_, rfl, ?_⟩
            have n0_ := Aside0.mk (Kd.R_below (by (with_reducible repeat (first | apply Kd.R_alloc | apply Kd.R_drewN | apply Kd.R_drew)); exact HO232.out) hb)
            have n1_ := Aside0.mk (Kd.R_below (by (with_reducible repeat (first | apply Kd.R_alloc | apply Kd.R_drewN | apply Kd.R_drew)); exact HO238.out) hb)
            have n2_ := Aside0.mk (Kd.R_below (by (with_reducible repeat (first | apply Kd.R_alloc | apply Kd.R_drewN | apply Kd.R_drew)); exact HO246.out) hb)
            have n3_ := Aside0.mk (Kd.R_below (by (with_reducible repeat (first | apply Kd.R_alloc | apply Kd.R_drewN | apply Kd.R_drew)); exact HO252.out) hb)
            have n4_ := Aside0.mk (blk_below (g := gb222) (o := .cells #[.int .i64 a0_0, .int .i64 a0_1, .string a0_2, .slice A0_3 l0_3.length c0_3] 24 (0, 0)) (by (with_reducible repeat (first | refine blk_drewN ?_ _ | refine blk_drew ?_ | refine blk_alloc ?_ _)); exact BK222.out) hb)
            have n5_ := Aside0.mk (blk_below (g := gb223) (o := .cells #[.int .i64 a1_0, .int .i64 a1_1, .string a1_2, .slice A1_3 l1_3.length c1_3] 24 (0, 0)) (by (with_reducible repeat (first | refine blk_drewN ?_ _ | refine blk_drew ?_ | refine blk_alloc ?_ _)); exact BK223.out) hb)
            have n6_ := Aside0.mk (below_step (by repeat (first | (with_reducible first | exact HB.out | apply below_alloc | apply pw_below_drewN | apply below_drew1 | refine below_set ?_ GE222.out | refine below_set ?_ GE223.out) | exact HB.out)) hb)
            clear HO232
            clear HO238
            clear HO246
            clear HO252
            clear BK222
            clear BK223
            clear HB
            have HO232 := n0_
            have HO238 := n1_
            have HO246 := n2_
            have HO252 := n3_
            have BK222 := n4_
            have BK223 := n5_
            have HB := n6_
            clear n0_ n1_ n2_ n3_ n4_ n5_ n6_
            (try clear hb)
            (try clear hb2)
            (try clear hk)
            (try clear hi)
            refine hK.out _ _ ⟨(blk_cell BK222.out 0).trans rfl, (blk_cell BK222.out 1).trans rfl, (blk_cell BK222.out 2).trans rfl, (blk_cell BK222.out 3).trans rfl, (blk_cell BK223.out 0).trans rfl, (blk_cell BK223.out 1).trans rfl, (blk_cell BK223.out 2).trans rfl, (blk_cell BK223.out 3).trans rfl⟩ (fun hHeld => ?_)
            clear hK K
            refine norm_ (a' := ?_) ?_ ?_
            rotate_left
            · show Act.put _ (some 29) _ = _
              simp only [Act.put, List.setIfInBounds_toArray, List.set_cons_zero, List.set_cons_succ, i64_w, i32_w]
              rfl
            refine pure_ (i := 15) (N := some 30) (v := ?_) (a' := ?_) #[true, true, true, true, true, true, true, true, true, true, true, true, true, true, true, true, false] rfl rfl (any_of HT_.out (by kernel_rfl)) (fun _ _ _ h => h) (Or.inl ⟨by rfl, ?_⟩) ?_ ?_
            rotate_left
            · intro w'
              go_simp
              with_reducible rfl
            rotate_left
            · simp only [Act.put, List.setIfInBounds_toArray, List.set_cons_zero, List.set_cons_succ, i64_w, i32_w]
              rfl
            refine pure_ (i := 16) (N := some 4) (v := ?_) (a' := ?_) #[true, true, true, true, true, true, true, true, true, true, true, true, true, true, true, true, true] rfl rfl (any_of HT_.out (by kernel_rfl)) (fun _ _ _ h => h) (Or.inl ⟨by rfl, ?_⟩) ?_ ?_
            rotate_left
            · intro w'
              go_simp
              with_reducible rfl
            rotate_left
            · simp only [Act.put, List.setIfInBounds_toArray, List.set_cons_zero, List.set_cons_succ, i64_w, i32_w]
              rfl
            refine done_ (done_of HT_.out (by kernel_rfl)) ?_
            try go_wp2
            go_ret
            exact ⟨by first | rfl | (simp [errW_none, errW_some] <;> rfl) | (simp [*, errW_none, errW_some] <;> rfl), by repeat (first | (with_reducible first | exact HB.out | apply below_alloc | apply pw_below_drewN | apply below_drew1 | refine below_set ?_ GE222.out | refine below_set ?_ GE223.out) | exact HB.out)⟩
          · rw [if_neg c25] at H
            have c25b0 : (t239 == t240) = false := by simpa using c25
            (try (have c25b1 : decide (t239 = t240) = false := by simpa using c25))
            (try (have c25b2 : (t239 == t240) = false := by simpa using c25))
            (try (have c25b3 : ¬ (t239 = t240) := by simpa using c25))
            clear c25
            obtain rfl := Option.some.inj H
            try go_wp2
            have n0_ := Aside0.mk (blk_drew BK222.out)
            have n1_ := Aside0.mk (blk_drew BK223.out)
            have n2_ := Aside0.mk (below_drew1 HB.out)
            clear BK222
            clear BK223
            clear HB
            have BK222 := n0_
            have BK223 := n1_
            have HB := n2_
            clear n0_ n1_ n2_
            refine start_ (n := 17) (S := fun w' => w'.cell? ⟨gb222, 0, none⟩ = some (.int .i64 a0_0) ∧ w'.cell? ⟨gb222, 1, none⟩ = some (.int .i64 a0_1) ∧ w'.cell? ⟨gb222, 2, none⟩ = some (.string a0_2) ∧ w'.cell? ⟨gb222, 3, none⟩ = some (.slice A0_3 l0_3.length c0_3) ∧ w'.cell? ⟨gb223, 0, none⟩ = some (.int .i64 a1_0) ∧ w'.cell? ⟨gb223, 1, none⟩ = some (.int .i64 a1_1) ∧ w'.cell? ⟨gb223, 2, none⟩ = some (.string a1_2) ∧ w'.cell? ⟨gb223, 3, none⟩ = some (.slice A1_3 l1_3.length c1_3)) (ds := []) #[false, false, false, false, false, false, false, false, false, false, false, false, false, false, false, false, false] (by kernel_rfl) rfl rfl ⟨(blk_cell BK222.out 0).trans rfl, (blk_cell BK222.out 1).trans rfl, (blk_cell BK222.out 2).trans rfl, (blk_cell BK222.out 3).trans rfl, (blk_cell BK223.out 0).trans rfl, (blk_cell BK223.out 1).trans rfl, (blk_cell BK223.out 2).trans rfl, (blk_cell BK223.out 3).trans rfl⟩ (fun hHeld => ?_); refine with_tabW vinculumlaw03_CodecEqual.tab5 vinculumlaw03_CodecEqual.bits5 (fun HT_ HW_ => ?_)
            generalize wc.drew = w41 at BK222 BK223 HB hHeld ⊢
            refine take_ (i := 0) (N := some 15) (v := ?_) (a' := ?_) #[true, false, false, false, false, false, false, false, false, false, false, false, false, false, false, false, false] rfl rfl (take_ofW HT_.out HW_.out (by kernel_rfl)) (fun _ _ _ h => h) (Or.inl ⟨by rfl, ?_⟩) hHeld ?_ ?_
            rotate_left
            · rintro w' ⟨s0, s1, s2, s3, s4, s5, s6, s7⟩
              go_simp
              with_reducible rfl
            rotate_left
            · simp only [Act.put, List.setIfInBounds_toArray, List.set_cons_zero, List.set_cons_succ, i64_w, i32_w]
              rfl
            refine take_ (i := 2) (N := some 17) (v := ?_) (a' := ?_) #[true, false, true, false, false, false, false, false, false, false, false, false, false, false, false, false, false] rfl rfl (take_ofW HT_.out HW_.out (by kernel_rfl)) (fun _ _ _ h => h) (Or.inl ⟨by rfl, ?_⟩) hHeld ?_ ?_
            rotate_left
            · rintro w' ⟨s0, s1, s2, s3, s4, s5, s6, s7⟩
              go_simp
              with_reducible rfl
            rotate_left
            · simp only [Act.put, List.setIfInBounds_toArray, List.set_cons_zero, List.set_cons_succ, i64_w, i32_w]
              rfl
            refine take_ (i := 5) (N := some 20) (v := ?_) (a' := ?_) #[true, false, true, false, false, true, false, false, false, false, false, false, false, false, false, false, false] rfl rfl (take_ofW HT_.out HW_.out (by kernel_rfl)) (fun _ _ _ h => h) (Or.inl ⟨by rfl, ?_⟩) hHeld ?_ ?_
            rotate_left
            · rintro w' ⟨s0, s1, s2, s3, s4, s5, s6, s7⟩
              go_simp
              with_reducible rfl
            rotate_left
            · simp only [Act.put, List.setIfInBounds_toArray, List.set_cons_zero, List.set_cons_succ, i64_w, i32_w]
              rfl
            refine take_ (i := 6) (N := some 21) (v := ?_) (a' := ?_) #[true, false, true, false, false, true, true, false, false, false, false, false, false, false, false, false, false] rfl rfl (take_ofW HT_.out HW_.out (by kernel_rfl)) (fun _ _ _ h => h) (Or.inl ⟨by rfl, ?_⟩) hHeld ?_ ?_
            rotate_left
            · rintro w' ⟨s0, s1, s2, s3, s4, s5, s6, s7⟩
              go_simp
              with_reducible rfl
            rotate_left
            · simp only [Act.put, List.setIfInBounds_toArray, List.set_cons_zero, List.set_cons_succ, i64_w, i32_w]
              rfl
            refine one_ (i := 1) (N := some 16) #[true, true, true, false, false, true, true, false, false, false, false, false, false, false, false, false, false] rfl rfl (one_of HT_.out (by kernel_rfl)) (by decide) (fun K hK => ?_)
            refine goes_ Try.func13 (by kernel_rfl) rfl #[.agg #[.int .i64 a0_0, .int .i64 a0_1, .string a0_2, .slice A0_3 l0_3.length c0_3]] (by rfl) rfl rfl (by (try simp only [List.map_toArray, List.map_cons, List.map_nil]); first | done | rfl | (simp only [List.length_drop, List.length_take]; rfl)) ?_
            with_reducible refine (vinculumlaw03_own.calls kj4 a0_0 a0_1 a0_2 _ _ l0_3 t227 t228 t229 t230 _ ?side1 ?side2 A21.out).mono ?_
            (case side1 => repeat (first | exact (Kd.C_below HR0_3.out HB.out) | (with_reducible refine Kd.C_alloc ?_ _) | (with_reducible refine Kd.C_drewN ?_ _) | (with_reducible refine Kd.C_drew ?_)))
            (case side2 => exact HC0_3.out)
            rintro e w42 ⟨v231, rfl, ho0, hb⟩
            refine ⟨_, rfl, ?_⟩
            have n0_ := Aside0.mk (Kd.R_lower ho0 (below_size (by repeat (first | (with_reducible first | exact HB.out | apply below_alloc | apply pw_below_drewN | apply below_drew1 | refine below_set ?_ GE222.out | refine below_set ?_ GE223.out) | exact HB.out))))
            have n1_ := Aside0.mk (blk_below (g := gb222) (o := .cells #[.int .i64 a0_0, .int .i64 a0_1, .string a0_2, .slice A0_3 l0_3.length c0_3] 24 (0, 0)) (by (with_reducible repeat (first | refine blk_drewN ?_ _ | refine blk_drew ?_ | refine blk_alloc ?_ _)); exact BK222.out) hb)
            have n2_ := Aside0.mk (blk_below (g := gb223) (o := .cells #[.int .i64 a1_0, .int .i64 a1_1, .string a1_2, .slice A1_3 l1_3.length c1_3] 24 (0, 0)) (by (with_reducible repeat (first | refine blk_drewN ?_ _ | refine blk_drew ?_ | refine blk_alloc ?_ _)); exact BK223.out) hb)
            have n3_ := Aside0.mk (below_step (by repeat (first | (with_reducible first | exact HB.out | apply below_alloc | apply pw_below_drewN | apply below_drew1 | refine below_set ?_ GE222.out | refine below_set ?_ GE223.out) | exact HB.out)) hb)
            clear BK222
            clear BK223
            clear HB
            have HO232 := n0_
            have BK222 := n1_
            have BK223 := n2_
            have HB := n3_
            clear n0_ n1_ n2_ n3_
            (try clear hb)
            (try clear hb2)
            (try clear hk)
            (try clear hi)
            (try clear ho0)
            refine hK.out _ _ ⟨(blk_cell BK222.out 0).trans rfl, (blk_cell BK222.out 1).trans rfl, (blk_cell BK222.out 2).trans rfl, (blk_cell BK222.out 3).trans rfl, (blk_cell BK223.out 0).trans rfl, (blk_cell BK223.out 1).trans rfl, (blk_cell BK223.out 2).trans rfl, (blk_cell BK223.out 3).trans rfl⟩ (fun hHeld => ?_)
            clear hK K
            refine norm_ (a' := ?_) ?_ ?_
            rotate_left
            · show Act.put _ (some 16) _ = _
              simp only [Act.put, List.setIfInBounds_toArray, List.set_cons_zero, List.set_cons_succ, i64_w, i32_w]
              rfl
            refine one_ (i := 3) (N := some 18) #[true, true, true, true, false, true, true, false, false, false, false, false, false, false, false, false, false] rfl rfl (one_of HT_.out (by kernel_rfl)) (by decide) (fun K hK => ?_)
            refine goes_ Try.func13 (by kernel_rfl) rfl #[.agg #[.int .i64 a1_0, .int .i64 a1_1, .string a1_2, .slice A1_3 l1_3.length c1_3]] (by rfl) rfl rfl (by (try simp only [List.map_toArray, List.map_cons, List.map_nil]); first | done | rfl | (simp only [List.length_drop, List.length_take]; rfl)) ?_
            with_reducible refine (vinculumlaw03_own.calls kj4 a1_0 a1_1 a1_2 _ _ l1_3 t233 t234 t235 t236 _ ?side1 ?side2 A22.out).mono ?_
            (case side1 => repeat (first | exact (Kd.C_below HR1_3.out HB.out) | (with_reducible refine Kd.C_alloc ?_ _) | (with_reducible refine Kd.C_drewN ?_ _) | (with_reducible refine Kd.C_drew ?_)))
            (case side2 => exact HC1_3.out)
            rintro e w43 ⟨v237, rfl, ho0, hb⟩
            refine ⟨_, rfl, ?_⟩
            have n0_ := Aside0.mk (Kd.R_elder' (by (with_reducible repeat (first | apply Kd.R_alloc | apply Kd.R_drewN | apply Kd.R_drew)); exact HO232.out) (Kd.R_base ho0) hb)
            have n1_ := Aside0.mk (Kd.R_lower (Kd.R_new' ho0 (Kd.R_lt (by (with_reducible repeat (first | apply Kd.R_alloc | apply Kd.R_drewN | apply Kd.R_drew)); exact HO232.out))) (below_size (by repeat (first | (with_reducible first | exact HB.out | apply below_alloc | apply pw_below_drewN | apply below_drew1 | refine below_set ?_ GE222.out | refine below_set ?_ GE223.out) | exact HB.out))))
            have n2_ := Aside0.mk (blk_below (g := gb222) (o := .cells #[.int .i64 a0_0, .int .i64 a0_1, .string a0_2, .slice A0_3 l0_3.length c0_3] 24 (0, 0)) (by (with_reducible repeat (first | refine blk_drewN ?_ _ | refine blk_drew ?_ | refine blk_alloc ?_ _)); exact BK222.out) hb)
            have n3_ := Aside0.mk (blk_below (g := gb223) (o := .cells #[.int .i64 a1_0, .int .i64 a1_1, .string a1_2, .slice A1_3 l1_3.length c1_3] 24 (0, 0)) (by (with_reducible repeat (first | refine blk_drewN ?_ _ | refine blk_drew ?_ | refine blk_alloc ?_ _)); exact BK223.out) hb)
            have n4_ := Aside0.mk (below_step (by repeat (first | (with_reducible first | exact HB.out | apply below_alloc | apply pw_below_drewN | apply below_drew1 | refine below_set ?_ GE222.out | refine below_set ?_ GE223.out) | exact HB.out)) hb)
            clear HO232
            clear BK222
            clear BK223
            clear HB
            have HO232 := n0_
            have HO238 := n1_
            have BK222 := n2_
            have BK223 := n3_
            have HB := n4_
            clear n0_ n1_ n2_ n3_ n4_
            (try clear hb)
            (try clear hb2)
            (try clear hk)
            (try clear hi)
            (try clear ho0)
            obtain ⟨Ao44, co44, eo44⟩ := Kd.R_slice HO232.out
            (first | subst eo44 | (injection eo44 with f1_ f2_ f3_; have f4_ := f1_.symm; have f5_ := f3_.symm; clear f1_ f2_ f3_; subst f4_; subst f5_))
            obtain ⟨Ao45, co45, eo45⟩ := Kd.R_slice HO238.out
            (first | subst eo45 | (injection eo45 with f1_ f2_ f3_; have f4_ := f1_.symm; have f5_ := f3_.symm; clear f1_ f2_ f3_; subst f4_; subst f5_))
            refine hK.out _ _ ⟨(blk_cell BK222.out 0).trans rfl, (blk_cell BK222.out 1).trans rfl, (blk_cell BK222.out 2).trans rfl, (blk_cell BK222.out 3).trans rfl, (blk_cell BK223.out 0).trans rfl, (blk_cell BK223.out 1).trans rfl, (blk_cell BK223.out 2).trans rfl, (blk_cell BK223.out 3).trans rfl⟩ (fun hHeld => ?_)
            clear hK K
            refine norm_ (a' := ?_) ?_ ?_
            rotate_left
            · show Act.put _ (some 18) _ = _
              simp only [Act.put, List.setIfInBounds_toArray, List.set_cons_zero, List.set_cons_succ, i64_w, i32_w]
              rfl
            refine one_ (i := 4) (N := some 19) #[true, true, true, true, true, true, true, false, false, false, false, false, false, false, false, false, false] rfl rfl (one_of HT_.out (by kernel_rfl)) (by decide) (fun K hK => ?_)
            refine goes_ Try.func20 (by kernel_rfl) rfl #[.agg #[.int .i64 t227, .int .i64 t228, .string t229, .slice Ao44 t230.length co44], .agg #[.int .i64 t233, .int .i64 t234, .string t235, .slice Ao45 t236.length co45]] (by rfl) rfl rfl (by (try simp only [List.map_toArray, List.map_cons, List.map_nil]); first | done | rfl | (simp only [List.length_drop, List.length_take]; rfl)) ?_
            with_reducible refine (codec_Equal.calls kj4 t227 t228 t229 _ _ t230 t233 t234 t235 _ _ t236 t239 _ ?side1 ?side2 ?side3 ?side4 A23.out).mono ?_
            (case side1 => repeat (first | exact (Kd.R_reads' HO232.out).2.2 | (with_reducible refine Kd.C_alloc ?_ _) | (with_reducible refine Kd.C_drewN ?_ _) | (with_reducible refine Kd.C_drew ?_)))
            (case side2 => exact (Kd.R_reads' HO232.out).2.1)
            (case side3 => repeat (first | exact (Kd.R_reads' HO238.out).2.2 | (with_reducible refine Kd.C_alloc ?_ _) | (with_reducible refine Kd.C_drewN ?_ _) | (with_reducible refine Kd.C_drew ?_)))
            (case side4 => exact (Kd.R_reads' HO238.out).2.1)
            rintro e w46 ⟨rfl, hb⟩
            refine ⟨_, rfl, ?_⟩
            have n0_ := Aside0.mk (Kd.R_below (by (with_reducible repeat (first | apply Kd.R_alloc | apply Kd.R_drewN | apply Kd.R_drew)); exact HO232.out) hb)
            have n1_ := Aside0.mk (Kd.R_below (by (with_reducible repeat (first | apply Kd.R_alloc | apply Kd.R_drewN | apply Kd.R_drew)); exact HO238.out) hb)
            have n2_ := Aside0.mk (blk_below (g := gb222) (o := .cells #[.int .i64 a0_0, .int .i64 a0_1, .string a0_2, .slice A0_3 l0_3.length c0_3] 24 (0, 0)) (by (with_reducible repeat (first | refine blk_drewN ?_ _ | refine blk_drew ?_ | refine blk_alloc ?_ _)); exact BK222.out) hb)
            have n3_ := Aside0.mk (blk_below (g := gb223) (o := .cells #[.int .i64 a1_0, .int .i64 a1_1, .string a1_2, .slice A1_3 l1_3.length c1_3] 24 (0, 0)) (by (with_reducible repeat (first | refine blk_drewN ?_ _ | refine blk_drew ?_ | refine blk_alloc ?_ _)); exact BK223.out) hb)
            have n4_ := Aside0.mk (below_step (by repeat (first | (with_reducible first | exact HB.out | apply below_alloc | apply pw_below_drewN | apply below_drew1 | refine below_set ?_ GE222.out | refine below_set ?_ GE223.out) | exact HB.out)) hb)
            clear HO232
            clear HO238
            clear BK222
            clear BK223
            clear HB
            have HO232 := n0_
            have HO238 := n1_
            have BK222 := n2_
            have BK223 := n3_
            have HB := n4_
            clear n0_ n1_ n2_ n3_ n4_
            (try clear hb)
            (try clear hb2)
            (try clear hk)
            (try clear hi)
            refine hK.out _ _ ⟨(blk_cell BK222.out 0).trans rfl, (blk_cell BK222.out 1).trans rfl, (blk_cell BK222.out 2).trans rfl, (blk_cell BK222.out 3).trans rfl, (blk_cell BK223.out 0).trans rfl, (blk_cell BK223.out 1).trans rfl, (blk_cell BK223.out 2).trans rfl, (blk_cell BK223.out 3).trans rfl⟩ (fun hHeld => ?_)
            clear hK K
            refine norm_ (a' := ?_) ?_ ?_
            rotate_left
            · show Act.put _ (some 19) _ = _
              simp only [Act.put, List.setIfInBounds_toArray, List.set_cons_zero, List.set_cons_succ, i64_w, i32_w]
              rfl
            refine one_ (i := 7) (N := some 22) #[true, true, true, true, true, true, true, true, false, false, false, false, false, false, false, false, false] rfl rfl (one_of HT_.out (by kernel_rfl)) (by decide) (fun K hK => ?_)
            refine goes_ Try.func21 (by kernel_rfl) rfl #[.agg #[.int .i64 a0_0, .int .i64 a0_1, .string a0_2, .slice A0_3 l0_3.length c0_3], .agg #[.int .i64 a1_0, .int .i64 a1_1, .string a1_2, .slice A1_3 l1_3.length c1_3]] (by rfl) rfl rfl (by (try simp only [List.map_toArray, List.map_cons, List.map_nil]); first | done | rfl | (simp only [List.length_drop, List.length_take]; rfl)) ?_
            with_reducible refine (vinculumref03_Equal.calls kj4 a0_0 a0_1 a0_2 _ _ l0_3 a1_0 a1_1 a1_2 _ _ l1_3 t240 _ ?side1 ?side2 ?side3 ?side4 A24.out).mono ?_
            (case side1 => repeat (first | exact (Kd.C_below HR0_3.out HB.out) | (with_reducible refine Kd.C_alloc ?_ _) | (with_reducible refine Kd.C_drewN ?_ _) | (with_reducible refine Kd.C_drew ?_)))
            (case side2 => exact HC0_3.out)
            (case side3 => repeat (first | exact (Kd.C_below HR1_3.out HB.out) | (with_reducible refine Kd.C_alloc ?_ _) | (with_reducible refine Kd.C_drewN ?_ _) | (with_reducible refine Kd.C_drew ?_)))
            (case side4 => exact HC1_3.out)
            rintro e w47 ⟨rfl, hb⟩
            refine ⟨_, rfl, ?_⟩
            have n0_ := Aside0.mk (Kd.R_below (by (with_reducible repeat (first | apply Kd.R_alloc | apply Kd.R_drewN | apply Kd.R_drew)); exact HO232.out) hb)
            have n1_ := Aside0.mk (Kd.R_below (by (with_reducible repeat (first | apply Kd.R_alloc | apply Kd.R_drewN | apply Kd.R_drew)); exact HO238.out) hb)
            have n2_ := Aside0.mk (blk_below (g := gb222) (o := .cells #[.int .i64 a0_0, .int .i64 a0_1, .string a0_2, .slice A0_3 l0_3.length c0_3] 24 (0, 0)) (by (with_reducible repeat (first | refine blk_drewN ?_ _ | refine blk_drew ?_ | refine blk_alloc ?_ _)); exact BK222.out) hb)
            have n3_ := Aside0.mk (blk_below (g := gb223) (o := .cells #[.int .i64 a1_0, .int .i64 a1_1, .string a1_2, .slice A1_3 l1_3.length c1_3] 24 (0, 0)) (by (with_reducible repeat (first | refine blk_drewN ?_ _ | refine blk_drew ?_ | refine blk_alloc ?_ _)); exact BK223.out) hb)
            have n4_ := Aside0.mk (below_step (by repeat (first | (with_reducible first | exact HB.out | apply below_alloc | apply pw_below_drewN | apply below_drew1 | refine below_set ?_ GE222.out | refine below_set ?_ GE223.out) | exact HB.out)) hb)
            clear HO232
            clear HO238
            clear BK222
            clear BK223
            clear HB
            have HO232 := n0_
            have HO238 := n1_
            have BK222 := n2_
            have BK223 := n3_
            have HB := n4_
            clear n0_ n1_ n2_ n3_ n4_
            (try clear hb)
            (try clear hb2)
            (try clear hk)
            (try clear hi)
            refine hK.out _ _ ⟨(blk_cell BK222.out 0).trans rfl, (blk_cell BK222.out 1).trans rfl, (blk_cell BK222.out 2).trans rfl, (blk_cell BK222.out 3).trans rfl, (blk_cell BK223.out 0).trans rfl, (blk_cell BK223.out 1).trans rfl, (blk_cell BK223.out 2).trans rfl, (blk_cell BK223.out 3).trans rfl⟩ (fun hHeld => ?_)
            clear hK K
            refine norm_ (a' := ?_) ?_ ?_
            rotate_left
            · show Act.put _ (some 22) _ = _
              simp only [Act.put, List.setIfInBounds_toArray, List.set_cons_zero, List.set_cons_succ, i64_w, i32_w]
              rfl
            refine pure_ (i := 8) (N := some 23) (v := ?_) (a' := ?_) #[true, true, true, true, true, true, true, true, true, false, false, false, false, false, false, false, false] rfl rfl (any_of HT_.out (by kernel_rfl)) (fun _ _ _ h => h) (Or.inl ⟨by rfl, ?_⟩) ?_ ?_
            rotate_left
            · intro w'
              go_simp
              with_reducible rfl
            rotate_left
            · simp only [Act.put, List.setIfInBounds_toArray, List.set_cons_zero, List.set_cons_succ, i64_w, i32_w]
              rfl
            refine pure_ (i := 9) (N := some 24) (v := ?_) (a' := ?_) #[true, true, true, true, true, true, true, true, true, true, false, false, false, false, false, false, false] rfl rfl (any_of HT_.out (by kernel_rfl)) (fun _ _ _ h => h) (Or.inl ⟨by rfl, ?_⟩) ?_ ?_
            rotate_left
            · intro w'
              go_simp
              with_reducible rfl
            rotate_left
            · simp only [Act.put, List.setIfInBounds_toArray, List.set_cons_zero, List.set_cons_succ, i64_w, i32_w]
              rfl
            refine pure_ (i := 10) (N := some 25) (v := undef) (a' := ?_) #[true, true, true, true, true, true, true, true, true, true, true, false, false, false, false, false, false] rfl rfl (any_of HT_.out (by kernel_rfl)) (fun _ _ _ h => h) (Or.inr ⟨by rfl, rfl⟩) ?_ ?_
            rotate_left
            · simp only [Act.put, List.setIfInBounds_toArray, List.set_cons_zero, List.set_cons_succ, i64_w, i32_w]
              rfl
            refine pure_ (i := 11) (N := some 26) (v := undef) (a' := ?_) #[true, true, true, true, true, true, true, true, true, true, true, true, false, false, false, false, false] rfl rfl (any_of HT_.out (by kernel_rfl)) (fun _ _ _ h => h) (Or.inr ⟨by rfl, rfl⟩) ?_ ?_
            rotate_left
            · simp only [Act.put, List.setIfInBounds_toArray, List.set_cons_zero, List.set_cons_succ, i64_w, i32_w]
              rfl
            refine pure_ (i := 12) (N := some 27) (v := undef) (a' := ?_) #[true, true, true, true, true, true, true, true, true, true, true, true, true, false, false, false, false] rfl rfl (any_of HT_.out (by kernel_rfl)) (fun _ _ _ h => h) (Or.inr ⟨by rfl, rfl⟩) ?_ ?_
            rotate_left
            · simp only [Act.put, List.setIfInBounds_toArray, List.set_cons_zero, List.set_cons_succ, i64_w, i32_w]
              rfl
            refine pure_ (i := 13) (N := some 28) (v := undef) (a' := ?_) #[true, true, true, true, true, true, true, true, true, true, true, true, true, true, false, false, false] rfl rfl (any_of HT_.out (by kernel_rfl)) (fun _ _ _ h => h) (Or.inr ⟨by rfl, rfl⟩) ?_ ?_
            rotate_left
            · simp only [Act.put, List.setIfInBounds_toArray, List.set_cons_zero, List.set_cons_succ, i64_w, i32_w]
              rfl
            refine pure_ (i := 14) (N := some 29) (v := undef) (a' := ?_) #[true, true, true, true, true, true, true, true, true, true, true, true, true, true, true, false, false] rfl rfl (any_of HT_.out (by kernel_rfl)) (fun _ _ _ h => h) (Or.inr ⟨by rfl, rfl⟩) ?_ ?_
            rotate_left
            · simp only [Act.put, List.setIfInBounds_toArray, List.set_cons_zero, List.set_cons_succ, i64_w, i32_w]
              rfl
            refine pure_ (i := 15) (N := some 30) (v := ?_) (a' := ?_) #[true, true, true, true, true, true, true, true, true, true, true, true, true, true, true, true, false] rfl rfl (any_of HT_.out (by kernel_rfl)) (fun _ _ _ h => h) (Or.inl ⟨by rfl, ?_⟩) ?_ ?_
            rotate_left
            · intro w'
              go_simp
              with_reducible rfl
            rotate_left
            · simp only [Act.put, List.setIfInBounds_toArray, List.set_cons_zero, List.set_cons_succ, i64_w, i32_w]
              rfl
            refine pure_ (i := 16) (N := some 4) (v := ?_) (a' := ?_) #[true, true, true, true, true, true, true, true, true, true, true, true, true, true, true, true, true] rfl rfl (any_of HT_.out (by kernel_rfl)) (fun _ _ _ h => h) (Or.inl ⟨by rfl, ?_⟩) ?_ ?_
            rotate_left
            · intro w'
              go_simp
              with_reducible rfl
            rotate_left
            · simp only [Act.put, List.setIfInBounds_toArray, List.set_cons_zero, List.set_cons_succ, i64_w, i32_w]
              rfl
            refine done_ (done_of HT_.out (by kernel_rfl)) ?_
            try go_wp2
            go_ret
            exact ⟨by first | rfl | (simp [errW_none, errW_some] <;> rfl) | (simp [*, errW_none, errW_some] <;> rfl), by repeat (first | (with_reducible first | exact HB.out | apply below_alloc | apply pw_below_drewN | apply below_drew1 | refine below_set ?_ GE222.out | refine below_set ?_ GE223.out) | exact HB.out)⟩
  · replace c4 := Bool.eq_false_iff.mpr c4
    subst c4
    have H1 : (some false) = some r := by rw [if_neg (show ¬ (false = true) by decide)] at H; exact H
    clear H
    have H := H1
    clear H1
    obtain rfl := Option.some.inj H
    go_enter Try.func4, Try.ntmps4
    go_wp2_with (first | ((with_reducible refine gate_dst (N := 2) rfl ?_); refine box_event ?hg (N := 2) ?hd (cs := #[.int .i64 a0_0, .int .i64 a0_1, .string a0_2, .slice A0_3 l0_3.length c0_3]) (t := 24) ?hr ?_; (case hd => rfl); (case hg => rfl); (case hr => first | (go_simp; done) | (go_simp; rfl)); intro gb222 hg w48 hbox hb; have n0_ := Aside0.mk (below_step (by repeat (first | (with_reducible first | exact HB.out | apply below_alloc | apply pw_below_drewN | apply below_drew1) | exact HB.out)) hb); have n1_ := Aside0.mk (hbox); have n2_ := Aside0.mk ((by rw [hg]; exact (below_size (by repeat (first | (with_reducible first | exact HB.out | apply below_alloc | apply pw_below_drewN | apply below_drew1) | exact HB.out))) : w.heap.size ≤ gb222)); have n3_ := Aside0.mk ((by rw [hg]; exact (below_size (by repeat (first | (with_reducible first | exact HB.out | apply below_alloc | apply pw_below_drewN | apply below_drew1) | exact HB.out))) : w.heap.size ≤ gb222)); clear HB; have HB := n0_; have BK222 := n1_; have GW222 := n2_; have GE222 := n3_; clear n0_ n1_ n2_ n3_; clear hb hbox hg) | ((with_reducible refine gate_dst (N := 3) rfl ?_); refine box_event ?hg (N := 3) ?hd (cs := #[.int .i64 a1_0, .int .i64 a1_1, .string a1_2, .slice A1_3 l1_3.length c1_3]) (t := 24) ?hr ?_; (case hd => rfl); (case hg => rfl); (case hr => first | (go_simp; done) | (go_simp; rfl)); intro gb223 hg w49 hbox hb; have n0_ := Aside0.mk (blk_below (g := gb222) (o := .cells #[.int .i64 a0_0, .int .i64 a0_1, .string a0_2, .slice A0_3 l0_3.length c0_3] 24 (0, 0)) (by (with_reducible repeat (first | refine blk_drewN ?_ _ | refine blk_drew ?_ | refine blk_alloc ?_ _)); exact BK222.out) hb); have n1_ := Aside0.mk (below_step (by repeat (first | (with_reducible first | exact HB.out | apply below_alloc | apply pw_below_drewN | apply below_drew1 | refine below_set ?_ GE222.out) | exact HB.out)) hb); have n2_ := Aside0.mk (hbox); have n3_ := Aside0.mk ((by rw [hg]; exact (below_size (by repeat (first | (with_reducible first | exact HB.out | apply below_alloc | apply pw_below_drewN | apply below_drew1 | refine below_set ?_ GE222.out) | exact HB.out))) : w.heap.size ≤ gb223)); have n4_ := Aside0.mk ((by rw [hg]; exact (below_size (by repeat (first | (with_reducible first | exact HB.out | apply below_alloc | apply pw_below_drewN | apply below_drew1 | refine below_set ?_ GE222.out) | exact HB.out))) : w.heap.size ≤ gb223)); have n5_ := Aside0.mk ((by rw [hg]; exact Nat.ne_of_lt (blk_lt (g := gb222) (o := .cells #[.int .i64 a0_0, .int .i64 a0_1, .string a0_2, .slice A0_3 l0_3.length c0_3] 24 (0, 0)) (by (with_reducible repeat (first | refine blk_drewN ?_ _ | refine blk_drew ?_ | refine blk_alloc ?_ _)); exact BK222.out)) : gb222 ≠ gb223)); have n6_ := Aside0.mk ((by rw [hg]; exact Nat.ne_of_gt (blk_lt (g := gb222) (o := .cells #[.int .i64 a0_0, .int .i64 a0_1, .string a0_2, .slice A0_3 l0_3.length c0_3] 24 (0, 0)) (by (with_reducible repeat (first | refine blk_drewN ?_ _ | refine blk_drew ?_ | refine blk_alloc ?_ _)); exact BK222.out)) : gb223 ≠ gb222)); clear BK222; clear HB; have BK222 := n0_; have HB := n1_; have BK223 := n2_; have GW223 := n3_; have GE223 := n4_; have NB222_223 := n5_; have NB223_222 := n6_; clear n0_ n1_ n2_ n3_ n4_ n5_ n6_; clear hb hbox hg) | ((with_reducible refine gate_callee (f := 11) rfl ?_); refine goesL_ (some 5) rfl rfl Try.func11 (by kernel_rfl) rfl #[] rfl (by (try simp only [List.map_toArray, List.map_cons, List.map_nil]); first | done | rfl | (simp only [List.length_drop, List.length_take]; rfl)) ?_; (with_reducible refine (vinculumlaw03_awake.calls k  false _ A3.out).mono ?_); rintro e w50 ⟨rfl, hb⟩; refine ⟨_, rfl, ?_⟩; have n0_ := Aside0.mk (blk_below (g := gb222) (o := .cells #[.int .i64 a0_0, .int .i64 a0_1, .string a0_2, .slice A0_3 l0_3.length c0_3] 24 (0, 0)) (by (with_reducible repeat (first | refine blk_drewN ?_ _ | refine blk_drew ?_ | refine blk_alloc ?_ _)); exact BK222.out) hb); have n1_ := Aside0.mk (blk_below (g := gb223) (o := .cells #[.int .i64 a1_0, .int .i64 a1_1, .string a1_2, .slice A1_3 l1_3.length c1_3] 24 (0, 0)) (by (with_reducible repeat (first | refine blk_drewN ?_ _ | refine blk_drew ?_ | refine blk_alloc ?_ _)); exact BK223.out) hb); have n2_ := Aside0.mk (below_step (by repeat (first | (with_reducible first | exact HB.out | apply below_alloc | apply pw_below_drewN | apply below_drew1 | refine below_set ?_ GE222.out | refine below_set ?_ GE223.out) | exact HB.out)) hb); clear BK222; clear BK223; clear HB; have BK222 := n0_; have BK223 := n1_; have HB := n2_; clear n0_ n1_ n2_; (try clear hb); (try clear hb2); (try clear hk); (try clear hi)))
    go_ret
    exact ⟨by first | rfl | (simp [errW_none, errW_some] <;> rfl) | (simp [*, errW_none, errW_some] <;> rfl), by repeat (first | (with_reducible first | exact HB.out | apply below_alloc | apply pw_below_drewN | apply below_drew1 | refine below_set ?_ GE222.out | refine below_set ?_ GE223.out) | exact HB.out)⟩

end Go.Proofs.Ytploigkfnkgjiaa.PE
