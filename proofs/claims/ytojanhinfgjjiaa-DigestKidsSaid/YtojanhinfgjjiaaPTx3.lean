-- Written by a program of this place (wip/gen.py) with the kit's print; not trusted: Lean checks it.
import Derived.Test.YtojanhinfgjjiaaPTx0
import Derived.Test.YtojanhinfgjjiaaPTx1
namespace Go.Proofs.Ytojanhinfgjjiaa.PT
open Go.RowKit Go.Proofs.YtojanhinfgjjiaaW.PrintWords Go.Proofs.YtojanhinfgjjiaaW.PrintLast Go.Proofs.YtojanhinfgjjiaaW.PrintMore
attribute [local go_sem] max2_int min2_int max_two min_two max_three min_three max_four min_four   -- for this text's walks alone
set_option linter.unusedVariables false
set_option linter.unusedSimpArgs false

/-! ### vinculumlaw04_DigestKids: function 8 -/
mutual
def vinculumlaw04_DigestKids.j0 : Nat → Bool → Int → ByteArray → Int → List (S38) → Option (Bool)
  | 0, _, _, _, _, _ => none
  | k + 1, x12, x191000, x191001, x191002, x191003 => if x12 = true then ((vinculumlaw04_awake.f k).bind fun t193 => (some t193)) else (vinculumlaw04_DigestKids.l0 k ([] : List Int) x191003 (x191003.length : Int) 0 x191000 x191001 x191002 x191003)
def vinculumlaw04_DigestKids.l0 : Nat → List Int → List (S38) → Int → Int → Int → ByteArray → Int → List (S38) → Option (Bool)
  | 0, _, _, _, _, _, _, _, _ => none
  | k + 1, x3, x15, x16, x17, x191000, x191001, x191002, x191003 => if x17 < x16 then (if 0 ≤ x17 then (if x17 < (x15.length : Int) then ((digest_Tree.f k ((rd_T38 x15 x17).f0) ((rd_T38 x15 x17).f1) ((rd_T38 x15 x17).f2) ((rd_T38 x15 x17).f3)).bind fun t196 => (if x3.length < 17592186044416 then (vinculumlaw04_DigestKids.l0 k (x3 ++ [t196]) x15 x16 (wrap64 (x17 + 1)) x191000 x191001 x191002 x191003) else (none))) else (none)) else (none)) else ((digest_Tree.f k x191000 x191001 x191002 x191003).bind fun t200 => ((digest_Join.f k x191000 x191001 x191002 x3).bind fun t201 => (some (t200 == t201))))
end
def vinculumlaw04_DigestKids.f (k : Nat) (a0_0 : Int) (a0_1 : ByteArray) (a0_2 : Int) (l0_3 : List (S38)) : Option (Bool) := (vinculumlaw04_awake.f k).bind fun t191 => (if t191 = true then ((vinculumlaw04_size.f k a0_0 a0_1 a0_2 l0_3 201).bind fun t192 => (vinculumlaw04_DigestKids.j0 k (decide (t192 > 200)) a0_0 a0_1 a0_2 l0_3)) else (vinculumlaw04_DigestKids.j0 k true a0_0 a0_1 a0_2 l0_3))
theorem vinculumlaw04_DigestKids.mono_l : ∀ k, (∀ y0 y1 y2 y3 y4, LeO (vinculumlaw04_DigestKids.j0 k y0 y1 y2 y3 y4) (vinculumlaw04_DigestKids.j0 (k + 1) y0 y1 y2 y3 y4)) ∧ (∀ y0 y1 y2 y3 y4 y5 y6 y7, LeO (vinculumlaw04_DigestKids.l0 k y0 y1 y2 y3 y4 y5 y6 y7) (vinculumlaw04_DigestKids.l0 (k + 1) y0 y1 y2 y3 y4 y5 y6 y7))
  | 0 => ⟨fun _ _ _ _ _ r h => by simp [vinculumlaw04_DigestKids.j0] at h, fun _ _ _ _ _ _ _ _ r h => by simp [vinculumlaw04_DigestKids.l0] at h⟩
  | k + 1 => by
    obtain ⟨ih0, ih1⟩ := vinculumlaw04_DigestKids.mono_l k
    refine ⟨?_, ?_⟩
    · intro y0 y1 y2 y3 y4
      unfold vinculumlaw04_DigestKids.j0
      repeat' first
      | (with_reducible exact ih0 _ _ _ _ _)
      | (with_reducible exact ih1 _ _ _ _ _ _ _ _)
      | (with_reducible exact digest_Join.mono _ _ _ _ _)
      | (with_reducible exact digest_Tree.mono _ _ _ _ _)
      | (with_reducible exact vinculumlaw04_awake.mono _)
      | (with_reducible exact vinculumlaw04_size.mono _ _ _ _ _ _)
      | (with_reducible exact LeO.refl _)
      | (with_reducible exact LeO.none _)
      | (with_reducible refine LeO.ite ?_ ?_)
      | (with_reducible refine LeO.bind ?_ (fun _ => ?_))
      | exact ih0 _ _ _ _ _
      | exact ih1 _ _ _ _ _ _ _ _
      | exact digest_Join.mono _ _ _ _ _
      | exact digest_Tree.mono _ _ _ _ _
      | exact vinculumlaw04_awake.mono _
      | exact vinculumlaw04_size.mono _ _ _ _ _ _
      | exact LeO.none _
      | refine LeO.ite ?_ ?_
      | refine LeO.bind ?_ (fun _ => ?_)
    · intro y0 y1 y2 y3 y4 y5 y6 y7
      unfold vinculumlaw04_DigestKids.l0
      repeat' first
      | (with_reducible exact ih0 _ _ _ _ _)
      | (with_reducible exact ih1 _ _ _ _ _ _ _ _)
      | (with_reducible exact digest_Join.mono _ _ _ _ _)
      | (with_reducible exact digest_Tree.mono _ _ _ _ _)
      | (with_reducible exact vinculumlaw04_awake.mono _)
      | (with_reducible exact vinculumlaw04_size.mono _ _ _ _ _ _)
      | (with_reducible exact LeO.refl _)
      | (with_reducible exact LeO.none _)
      | (with_reducible refine LeO.ite ?_ ?_)
      | (with_reducible refine LeO.bind ?_ (fun _ => ?_))
      | exact ih0 _ _ _ _ _
      | exact ih1 _ _ _ _ _ _ _ _
      | exact digest_Join.mono _ _ _ _ _
      | exact digest_Tree.mono _ _ _ _ _
      | exact vinculumlaw04_awake.mono _
      | exact vinculumlaw04_size.mono _ _ _ _ _ _
      | exact LeO.none _
      | refine LeO.ite ?_ ?_
      | refine LeO.bind ?_ (fun _ => ?_)
theorem vinculumlaw04_DigestKids.mono : ∀ a0 a1 a2 a3 k, LeO (vinculumlaw04_DigestKids.f k a0 a1 a2 a3) (vinculumlaw04_DigestKids.f (k + 1) a0 a1 a2 a3) := by
  intro a0 a1 a2 a3 k
  obtain ⟨ih0, ih1⟩ := vinculumlaw04_DigestKids.mono_l k
  unfold vinculumlaw04_DigestKids.f
  repeat' first
      | (with_reducible exact ih0 _ _ _ _ _)
      | (with_reducible exact ih1 _ _ _ _ _ _ _ _)
      | (with_reducible exact digest_Join.mono _ _ _ _ _)
      | (with_reducible exact digest_Tree.mono _ _ _ _ _)
      | (with_reducible exact vinculumlaw04_awake.mono _)
      | (with_reducible exact vinculumlaw04_size.mono _ _ _ _ _ _)
      | (with_reducible exact LeO.refl _)
      | (with_reducible exact LeO.none _)
      | (with_reducible refine LeO.ite ?_ ?_)
      | (with_reducible refine LeO.bind ?_ (fun _ => ?_))
      | exact ih0 _ _ _ _ _
      | exact ih1 _ _ _ _ _ _ _ _
      | exact digest_Join.mono _ _ _ _ _
      | exact digest_Tree.mono _ _ _ _ _
      | exact vinculumlaw04_awake.mono _
      | exact vinculumlaw04_size.mono _ _ _ _ _ _
      | exact LeO.none _
      | refine LeO.ite ?_ ?_
      | refine LeO.bind ?_ (fun _ => ?_)
def vinculumlaw04_DigestKids.T9 : Bool × List (List Nat × List Nat) := (true, [([], []), ([0], [0]), ([], []), ([2], [2]), ([], []), ([4], [4]), ([], []), ([6], [6]), ([], []), ([3, 5, 7, 8, 1], [3, 5, 7, 8]), ([1, 9], [1, 9]), ([10, 9, 0, 1, 2, 3, 4, 5, 6, 7, 8, 9, 10], [10])])
def vinculumlaw04_DigestKids.B9 : List Nat := [0, 1, 0, 4, 0, 16, 0, 64, 0, 511, 1023, 2047]
theorem vinculumlaw04_DigestKids.tab9 : rtab .any (opsOf Try.f8 9) = vinculumlaw04_DigestKids.T9 := by kernel_rfl
theorem vinculumlaw04_DigestKids.bits9 : waitsOk vinculumlaw04_DigestKids.T9.2 vinculumlaw04_DigestKids.B9 = true := by kernel_rfl
set_option maxHeartbeats 8000000 in
set_option maxRecDepth 100000 in
theorem vinculumlaw04_DigestKids.calls (k : Nat) (a0_0 : Int) (a0_1 : ByteArray) (a0_2 : Int) (A0_3 : Option Addr) (c0_3 : Nat) (l0_3 : List (S38)) (r : Bool) (w : World) (hr0_3 : Kd.C k38 w A0_3 l0_3.length l0_3) (hc0_3 : l0_3.length ≤ c0_3) (h : vinculumlaw04_DigestKids.f k a0_0 a0_1 a0_2 l0_3 = some r) :
    Calls Try.prog 8 #[.agg #[.int .i64 a0_0, .string a0_1, .int .i64 a0_2, .slice A0_3 l0_3.length c0_3]] w fun e w' => e = .returned (.bool r) ∧ Below w.heap.size w w' := by
  have hu38 := Try.underlying38
  have HR0_3 := Aside0.mk hr0_3
  have HC0_3 := Aside0.mk hc0_3
  clear hr0_3 hc0_3
  have HB := Aside0.mk (Below.refl w.heap.size w)
  have H : ((vinculumlaw04_awake.f k).bind fun t191 => (if t191 = true then ((vinculumlaw04_size.f k a0_0 a0_1 a0_2 l0_3 201).bind fun t192 => (vinculumlaw04_DigestKids.j0 k (decide (t192 > 200)) a0_0 a0_1 a0_2 l0_3)) else (vinculumlaw04_DigestKids.j0 k true a0_0 a0_1 a0_2 l0_3))) = some r := h
  clear h
  have HC2 := Aside0.mk H
  clear H
  go_enter Try.func8, Try.ntmps8
  go_upto_region 1 with (first | ((with_reducible refine gate_dst (N := 1) rfl ?_); refine box_event ?hg (N := 1) ?hd (cs := #[.int .i64 a0_0, .string a0_1, .int .i64 a0_2, .slice A0_3 l0_3.length c0_3]) (t := 38) ?hr ?_; (case hd => rfl); (case hg => rfl); (case hr => first | (go_simp; done) | (go_simp; rfl)); intro gb190 hg w3 hbox hb; have n0_ := Aside0.mk (below_step (by repeat (first | (with_reducible first | exact HB.out | apply below_alloc | apply pw_below_drewN | apply below_drew1) | exact HB.out)) hb); have n1_ := Aside0.mk (hbox); have n2_ := Aside0.mk ((by rw [hg]; exact (below_size (by repeat (first | (with_reducible first | exact HB.out | apply below_alloc | apply pw_below_drewN | apply below_drew1) | exact HB.out))) : w.heap.size ≤ gb190)); have n3_ := Aside0.mk ((by rw [hg]; exact (below_size (by repeat (first | (with_reducible first | exact HB.out | apply below_alloc | apply pw_below_drewN | apply below_drew1) | exact HB.out))) : w.heap.size ≤ gb190)); clear HB; have HB := n0_; have BK190 := n1_; have GW190 := n2_; have GE190 := n3_; clear n0_ n1_ n2_ n3_; clear hb hbox hg))
  (try simp only [Act.put, List.setIfInBounds_toArray, List.set_cons_zero, List.set_cons_succ])
  go_cut [12] (fun v12 wc => ∃ (kq : Nat) (x12_1 : Bool), v12 = .bool x12_1 ∧ Aside0 (vinculumlaw04_DigestKids.j0 kq x12_1 a0_0 a0_1 a0_2 l0_3 = some r) ∧ Aside0 (kq ≤ k) ∧ Aside0 (wc.heap[gb190]? = some (.cells #[.int .i64 a0_0, .string a0_1, .int .i64 a0_2, (.slice A0_3 l0_3.length c0_3)] 38 (0, 0))) ∧ Aside0 (Below w.heap.size w wc))
  case first =>
    have H := HC2.out
    clear HC2
    replace H := Option.bind_eq_some_iff.mp H
    obtain ⟨t191, A40, H⟩ := H
    replace H : (if t191 = true then ((vinculumlaw04_size.f k a0_0 a0_1 a0_2 l0_3 201).bind fun t192 => (vinculumlaw04_DigestKids.j0 k (decide (t192 > 200)) a0_0 a0_1 a0_2 l0_3)) else (vinculumlaw04_DigestKids.j0 k true a0_0 a0_1 a0_2 l0_3)) = some r := H
    have A4 := Aside0.mk A40
    clear A40
    by_cases c5 : t191 = true
    · subst c5
      have H1 : ((vinculumlaw04_size.f k a0_0 a0_1 a0_2 l0_3 201).bind fun t192 => (vinculumlaw04_DigestKids.j0 k (decide (t192 > 200)) a0_0 a0_1 a0_2 l0_3)) = some r := by rw [if_pos rfl] at H; exact H
      clear H
      have H := H1
      clear H1
      replace H := Option.bind_eq_some_iff.mp H
      obtain ⟨t192, A60, H⟩ := H
      replace H : (vinculumlaw04_DigestKids.j0 k (decide (t192 > 200)) a0_0 a0_1 a0_2 l0_3) = some r := H
      have A6 := Aside0.mk A60
      clear A60
      have H' := Aside0.mk H
      clear H
      go_wp2_with (first | ((with_reducible refine gate_callee (f := 10) rfl ?_); refine goesL_ (some 6) rfl rfl Try.func10 (by kernel_rfl) rfl #[] rfl (by (try simp only [List.map_toArray, List.map_cons, List.map_nil]); first | done | rfl | (simp only [List.length_drop, List.length_take]; rfl)) ?_; (with_reducible refine (vinculumlaw04_awake.calls k  true _ A4.out).mono ?_); rintro e w7 ⟨rfl, hb⟩; refine ⟨_, rfl, ?_⟩; have n0_ := Aside0.mk (blk_below (g := gb190) (o := .cells #[.int .i64 a0_0, .string a0_1, .int .i64 a0_2, .slice A0_3 l0_3.length c0_3] 38 (0, 0)) (by (with_reducible repeat (first | refine blk_drewN ?_ _ | refine blk_drew ?_ | refine blk_alloc ?_ _)); exact BK190.out) hb); have n1_ := Aside0.mk (below_step (by repeat (first | (with_reducible first | exact HB.out | apply below_alloc | apply pw_below_drewN | apply below_drew1 | refine below_set ?_ GE190.out) | exact HB.out)) hb); clear BK190; clear HB; have BK190 := n0_; have HB := n1_; clear n0_ n1_; (try clear hb); (try clear hb2); (try clear hk); (try clear hi); have hcz8_0 : w7.cell? ⟨gb190, 0, none⟩ = some (.int .i64 a0_0) := (blk_cell BK190.out 0).trans rfl; have hcz8_1 : w7.cell? ⟨gb190, 1, none⟩ = some (.string a0_1) := (blk_cell BK190.out 1).trans rfl; have hcz8_2 : w7.cell? ⟨gb190, 2, none⟩ = some (.int .i64 a0_2) := (blk_cell BK190.out 2).trans rfl; have hcz8_3 : w7.cell? ⟨gb190, 3, none⟩ = some (.slice A0_3 l0_3.length c0_3) := (blk_cell BK190.out 3).trans rfl; have hfz8_0 := blk_frozen BK190.out 0; have hfz8_1 := blk_frozen BK190.out 1; have hfz8_2 := blk_frozen BK190.out 2; have hfz8_3 := blk_frozen BK190.out 3) | (go_at_call 17; (with_reducible refine (vinculumlaw04_size.calls k a0_0 a0_1 a0_2 _ _ l0_3 201 t192 _ ?side1 ?side2 A6.out).mono ?_); (case side1 => repeat (first | exact (Kd.C_below HR0_3.out HB.out) | (with_reducible refine Kd.C_alloc ?_ _) | (with_reducible refine Kd.C_drewN ?_ _) | (with_reducible refine Kd.C_drew ?_))); (case side2 => exact HC0_3.out); rintro e w9 ⟨rfl, hb⟩; have n0_ := Aside0.mk (blk_below (g := gb190) (o := .cells #[.int .i64 a0_0, .string a0_1, .int .i64 a0_2, .slice A0_3 l0_3.length c0_3] 38 (0, 0)) (by (with_reducible repeat (first | refine blk_drewN ?_ _ | refine blk_drew ?_ | refine blk_alloc ?_ _)); exact BK190.out) hb); have n1_ := Aside0.mk (below_step (by repeat (first | (with_reducible first | exact HB.out | apply below_alloc | apply pw_below_drewN | apply below_drew1 | refine below_set ?_ GE190.out) | exact HB.out)) hb); clear BK190; clear HB; have BK190 := n0_; have HB := n1_; clear n0_ n1_; (try clear hb); (try clear hb2); (try clear hk); (try clear hi)))
      go_meet
      case rel => exact ⟨_, (decide (t192 > 200)), (by first | rfl | (simp; done) | (simp [*]; done) | (simp [ne_nil_bool]; done)), H', ⟨by first | omega | exact Nat.le_refl _⟩, ⟨by (with_reducible repeat (first | refine blk_drewN ?_ _ | refine blk_drew ?_ | refine blk_alloc ?_ _)); exact BK190.out⟩, ⟨by repeat (first | (with_reducible first | exact HB.out | apply below_alloc | apply pw_below_drewN | apply below_drew1 | refine below_set ?_ GE190.out) | exact HB.out)⟩⟩
    · replace c5 := Bool.eq_false_iff.mpr c5
      subst c5
      have H1 : (vinculumlaw04_DigestKids.j0 k true a0_0 a0_1 a0_2 l0_3) = some r := by rw [if_neg (show ¬ (false = true) by decide)] at H; exact H
      clear H
      have H := H1
      clear H1
      have H' := Aside0.mk H
      clear H
      go_wp2_with (first | ((with_reducible refine gate_callee (f := 10) rfl ?_); refine goesL_ (some 6) rfl rfl Try.func10 (by kernel_rfl) rfl #[] rfl (by (try simp only [List.map_toArray, List.map_cons, List.map_nil]); first | done | rfl | (simp only [List.length_drop, List.length_take]; rfl)) ?_; (with_reducible refine (vinculumlaw04_awake.calls k  false _ A4.out).mono ?_); rintro e w10 ⟨rfl, hb⟩; refine ⟨_, rfl, ?_⟩; have n0_ := Aside0.mk (blk_below (g := gb190) (o := .cells #[.int .i64 a0_0, .string a0_1, .int .i64 a0_2, .slice A0_3 l0_3.length c0_3] 38 (0, 0)) (by (with_reducible repeat (first | refine blk_drewN ?_ _ | refine blk_drew ?_ | refine blk_alloc ?_ _)); exact BK190.out) hb); have n1_ := Aside0.mk (below_step (by repeat (first | (with_reducible first | exact HB.out | apply below_alloc | apply pw_below_drewN | apply below_drew1 | refine below_set ?_ GE190.out) | exact HB.out)) hb); clear BK190; clear HB; have BK190 := n0_; have HB := n1_; clear n0_ n1_; (try clear hb); (try clear hb2); (try clear hk); (try clear hi)))
      go_meet
      case rel => exact ⟨_, (true), (by first | rfl | (simp; done) | (simp [*]; done) | (simp [ne_nil_bool]; done)), H', ⟨by first | omega | exact Nat.le_refl _⟩, ⟨by (with_reducible repeat (first | refine blk_drewN ?_ _ | refine blk_drew ?_ | refine blk_alloc ?_ _)); exact BK190.out⟩, ⟨by repeat (first | (with_reducible first | exact HB.out | apply below_alloc | apply pw_below_drewN | apply below_drew1 | refine below_set ?_ GE190.out) | exact HB.out)⟩⟩
  case rest =>
    clear HC2
    try clear c1
    try clear p2
    try clear c5
    try clear c8
    try clear c10
    try clear hcz8_0
    try clear hcz8_1
    try clear hcz8_2
    try clear hcz8_3
    try clear hfz8_0
    try clear hfz8_1
    try clear hfz8_2
    try clear hfz8_3
    obtain ⟨kq, x12_1, rfl, HA, HJ1, BK190, HB⟩ := hcut
    cases kq with
    | zero => exact absurd HA.out (by simp [vinculumlaw04_DigestKids.j0])
    | succ kj1 =>
      have H := HA.out
      clear HA
      simp only [vinculumlaw04_DigestKids.j0] at H
      by_cases c11 : x12_1 = true
      · subst c11
        have H1 : ((vinculumlaw04_awake.f kj1).bind fun t193 => (some t193)) = some r := by rw [if_pos rfl] at H; exact H
        clear H
        have H := H1
        clear H1
        replace H := Option.bind_eq_some_iff.mp H
        obtain ⟨t193, A120, H⟩ := H
        replace H : (some t193) = some r := H
        have A12 := Aside0.mk A120
        clear A120
        obtain rfl := Option.some.inj H
        go_wp2_with (first | ((with_reducible refine gate_callee (f := 10) rfl ?_); refine goesL_ (some 13) rfl rfl Try.func10 (by kernel_rfl) rfl #[] rfl (by (try simp only [List.map_toArray, List.map_cons, List.map_nil]); first | done | rfl | (simp only [List.length_drop, List.length_take]; rfl)) ?_; (with_reducible refine (vinculumlaw04_awake.calls kj1  t193 _ A12.out).mono ?_); rintro e w13 ⟨rfl, hb⟩; refine ⟨_, rfl, ?_⟩; have n0_ := Aside0.mk (blk_below (g := gb190) (o := .cells #[.int .i64 a0_0, .string a0_1, .int .i64 a0_2, .slice A0_3 l0_3.length c0_3] 38 (0, 0)) (by (with_reducible repeat (first | refine blk_drewN ?_ _ | refine blk_drew ?_ | refine blk_alloc ?_ _)); exact BK190.out) hb); have n1_ := Aside0.mk (below_step (by repeat (first | (with_reducible first | exact HB.out | apply below_alloc | apply pw_below_drewN | apply below_drew1 | refine below_set ?_ GE190.out) | exact HB.out)) hb); clear BK190; clear HB; have BK190 := n0_; have HB := n1_; clear n0_ n1_; (try clear hb); (try clear hb2); (try clear hk); (try clear hi)))
        go_ret
        exact ⟨by first | rfl | (simp [errW_none, errW_some] <;> rfl) | (simp [*, errW_none, errW_some] <;> rfl), by repeat (first | (with_reducible first | exact HB.out | apply below_alloc | apply pw_below_drewN | apply below_drew1 | refine below_set ?_ GE190.out) | exact HB.out)⟩
      · replace c11 := Bool.eq_false_iff.mpr c11
        subst c11
        have H1 : (vinculumlaw04_DigestKids.l0 kj1 ([] : List Int) l0_3 (l0_3.length : Int) 0 a0_0 a0_1 a0_2 l0_3) = some r := by rw [if_neg (show ¬ (false = true) by decide)] at H; exact H
        clear H
        have H := H1
        clear H1
        have H' := Aside0.mk H
        clear H
        have hcz14_0 : wc.cell? ⟨gb190, 0, none⟩ = some (.int .i64 a0_0) := (blk_cell BK190.out 0).trans rfl
        have hcz14_1 : wc.cell? ⟨gb190, 1, none⟩ = some (.string a0_1) := (blk_cell BK190.out 1).trans rfl
        have hcz14_2 : wc.cell? ⟨gb190, 2, none⟩ = some (.int .i64 a0_2) := (blk_cell BK190.out 2).trans rfl
        have hcz14_3 : wc.cell? ⟨gb190, 3, none⟩ = some (.slice A0_3 l0_3.length c0_3) := (blk_cell BK190.out 3).trans rfl
        have hfz14_0 := blk_frozen BK190.out 0
        have hfz14_1 := blk_frozen BK190.out 1
        have hfz14_2 := blk_frozen BK190.out 2
        have hfz14_3 := blk_frozen BK190.out 3
        go_wp2
        go_loopg [3, 17] kj1 (fun kq v3 v17 w' => ∃ (x3_2 : List Int) (x17_2 : Int), v17 = .int .i64 x17_2 ∧ Aside0 (vinculumlaw04_DigestKids.l0 kq x3_2 l0_3 (l0_3.length : Int) x17_2 a0_0 a0_1 a0_2 l0_3 = some r) ∧ Aside0 (kq ≤ kj1) ∧ Aside0 (Kd.R (Kd.int .u64) 22 w' w.heap.size (fun _ => True) v3 x3_2) ∧ Aside0 (w'.heap[gb190]? = some (.cells #[.int .i64 a0_0, .string a0_1, .int .i64 a0_2, (.slice A0_3 l0_3.length c0_3)] 38 (0, 0))) ∧ Aside0 (Below w.heap.size w w'))
        case atStart => exact ⟨(([] : List Int)), (0), (by first | rfl | (simp; done) | (simp [*]; done) | (simp [ne_nil_bool]; done)), H', ⟨Nat.le_refl _⟩, ⟨by first | exact Kd.R_nil _ _ _ _ _ | exact Kd.N_nil _ _ _ _ _ | exact Kd.V_nil _ _ _ _ _ | exact Kd.Q_nil _ _ _ _ _ | exact Kd.S_nil _ _ _ _ _⟩, ⟨by (with_reducible repeat (first | refine blk_drewN ?_ _ | refine blk_drew ?_ | refine blk_alloc ?_ _)); exact BK190.out⟩, ⟨by repeat (first | (with_reducible first | exact HB.out | apply below_alloc | apply pw_below_drewN | apply below_drew1 | refine below_set ?_ GE190.out) | exact HB.out)⟩⟩
        case round =>
          clear H'
          try clear c1
          try clear p2
          try clear c5
          try clear c8
          try clear c10
          try clear c11
          try clear hcz14_0
          try clear hcz14_1
          try clear hcz14_2
          try clear hcz14_3
          try clear hcz8_0
          try clear hcz8_1
          try clear hcz8_2
          try clear hcz8_3
          try clear hfz14_0
          try clear hfz14_1
          try clear hfz14_2
          try clear hfz14_3
          try clear hfz8_0
          try clear hfz8_1
          try clear hfz8_2
          try clear hfz8_3
          try clear p2
          obtain ⟨x3_2, x17_2, rfl, HA, HK2, HO_3, BK190, HB⟩ := hrel
          cases gk with
          | zero => exact absurd HA.out (by simp [vinculumlaw04_DigestKids.l0])
          | succ k2 =>
            have H := HA.out
            clear HA
            simp only [vinculumlaw04_DigestKids.l0] at H
            by_cases c15 : x17_2 < (l0_3.length : Int)
            · rw [if_pos c15] at H
              have c15b0 : decide (x17_2 < (l0_3.length : Int)) = true := decide_eq_true c15
              clear c15
              by_cases c16 : 0 ≤ x17_2
              · rw [if_pos c16] at H
                have c16b0 : decide (0 ≤ x17_2) = true := decide_eq_true c16
                clear c16
                by_cases c17 : x17_2 < (l0_3.length : Int)
                · rw [if_pos c17] at H
                  have c17b0 : decide (x17_2 < (l0_3.length : Int)) = true := decide_eq_true c17
                  clear c17
                  replace H := Option.bind_eq_some_iff.mp H
                  obtain ⟨t196, A180, H⟩ := H
                  replace H : (if x3_2.length < 17592186044416 then (vinculumlaw04_DigestKids.l0 k2 (x3_2 ++ [t196]) l0_3 (l0_3.length : Int) (wrap64 (x17_2 + 1)) a0_0 a0_1 a0_2 l0_3) else (none)) = some r := H
                  have A18 := Aside0.mk A180
                  clear A180
                  by_cases c19 : x3_2.length < 17592186044416
                  · rw [if_pos c19] at H
                    have LMc19 := Aside0.mk c19
                    clear c19
                    obtain ⟨y197, hy197⟩ : ∃ y_ : List Int, y_ = (x3_2 ++ [t196]) := ⟨_, rfl⟩
                    replace H : (vinculumlaw04_DigestKids.l0 k2 y197 l0_3 (l0_3.length : Int) (wrap64 (x17_2 + 1)) a0_0 a0_1 a0_2 l0_3) = some r := by first | (rw [hy197]; with_reducible exact H) | (have H2_ := (Option.bind_some _ _).symm.trans H; rw [hy197]; with_reducible exact H2_) | (have H2_ := (Option.bind_some _ _).symm.trans H; with_reducible exact H2_) | with_reducible exact H | (rw [hy197]; exact H) | exact H
                    have Ny197 := Aside0.mk hy197
                    clear hy197
                    have H' := Aside0.mk H
                    clear H
                    have p194 : 0 ≤ (x17_2 : Int) := of_decide_eq_true (by first | (with_reducible assumption) | assumption)
                    have q194 : x17_2 < (l0_3.length : Int) := of_decide_eq_true (by first | (with_reducible assumption) | assumption)
                    obtain ⟨ad194, A194_3, c194_3, e194, hx194_0, hx194_1, hx194_2, hx194_3, hl194_3, hi194_3⟩ := at_T38 HR0_3.out x17_2 p194 q194
                    cases e194
                    replace hx194_0 := (HB.out.cell (World.block_lt_of_cell? w _ hx194_0)).trans hx194_0
                    replace hx194_1 := (HB.out.cell (World.block_lt_of_cell? w _ hx194_1)).trans hx194_1
                    replace hx194_2 := (HB.out.cell (World.block_lt_of_cell? w _ hx194_2)).trans hx194_2
                    replace hx194_3 := (HB.out.cell (World.block_lt_of_cell? w _ hx194_3)).trans hx194_3
                    have HR194_3 := Aside0.mk hi194_3
                    have HC194_3 := Aside0.mk hl194_3
                    clear hi194_3 hl194_3
                    replace p194 := eq_true p194
                    replace q194 := eq_true q194
                    go_wp2_with (first | ((with_reducible refine gate_dst (N := 5) rfl ?_); refine box_event ?hg (N := 5) ?hd (cs := #[.int .i64 0, .string (⟨#[]⟩ : ByteArray), .int .i64 0, .slice none 0 0]) (t := 38) ?hr ?_; (case hd => rfl); (case hg => rfl); (case hr => first | (go_simp; done) | (go_simp; rfl)); intro gb195 hg w20 hbox hb; have n0_ := Aside0.mk (Kd.R_below (by (with_reducible repeat (first | apply Kd.R_alloc | apply Kd.R_drewN | apply Kd.R_drew)); exact HO_3.out) hb); have n1_ := Aside0.mk (blk_below (g := gb190) (o := .cells #[.int .i64 a0_0, .string a0_1, .int .i64 a0_2, .slice (some ad194) l0_3.length c0_3] 38 (0, 0)) (by (with_reducible repeat (first | refine blk_drewN ?_ _ | refine blk_drew ?_ | refine blk_alloc ?_ _)); exact BK190.out) hb); have n2_ := Aside0.mk (below_step (by repeat (first | (with_reducible first | exact HB.out | apply below_alloc | apply pw_below_drewN | apply below_drew1 | refine below_set ?_ GE190.out) | exact HB.out)) hb); have n3_ := Aside0.mk (hbox); have n4_ := Aside0.mk ((by rw [hg]; exact (below_size (by repeat (first | (with_reducible first | exact HB.out | apply below_alloc | apply pw_below_drewN | apply below_drew1 | refine below_set ?_ GE190.out) | exact HB.out))) : w.heap.size ≤ gb195)); have n5_ := Aside0.mk ((by rw [hg]; exact (below_size (by repeat (first | (with_reducible first | exact HB.out | apply below_alloc | apply pw_below_drewN | apply below_drew1 | refine below_set ?_ GE190.out) | exact HB.out))) : w.heap.size ≤ gb195)); have n6_ := Aside0.mk ((by rw [hg]; exact Nat.ne_of_lt (blk_lt (g := gb190) (o := .cells #[.int .i64 a0_0, .string a0_1, .int .i64 a0_2, .slice (some ad194) l0_3.length c0_3] 38 (0, 0)) (by (with_reducible repeat (first | refine blk_drewN ?_ _ | refine blk_drew ?_ | refine blk_alloc ?_ _)); exact BK190.out)) : gb190 ≠ gb195)); have n7_ := Aside0.mk ((by rw [hg]; exact Nat.ne_of_gt (blk_lt (g := gb190) (o := .cells #[.int .i64 a0_0, .string a0_1, .int .i64 a0_2, .slice (some ad194) l0_3.length c0_3] 38 (0, 0)) (by (with_reducible repeat (first | refine blk_drewN ?_ _ | refine blk_drew ?_ | refine blk_alloc ?_ _)); exact BK190.out)) : gb195 ≠ gb190)); clear HO_3; clear BK190; clear HB; have HO_3 := n0_; have BK190 := n1_; have HB := n2_; have BK195 := n3_; have GW195 := n4_; have GE195 := n5_; have NB190_195 := n6_; have NB195_190 := n7_; clear n0_ n1_ n2_ n3_ n4_ n5_ n6_ n7_; clear hb hbox hg; have hnb21 := NB195_190.out; have hnc21 := NB190_195.out; have hcz22_0 : w20.cell? ⟨gb195, 0, none⟩ = some (.int .i64 0) := (blk_cell BK195.out 0).trans rfl; have hcz22_1 : w20.cell? ⟨gb195, 1, none⟩ = some (.string (⟨#[]⟩ : ByteArray)) := (blk_cell BK195.out 1).trans rfl; have hcz22_2 : w20.cell? ⟨gb195, 2, none⟩ = some (.int .i64 0) := (blk_cell BK195.out 2).trans rfl; have hcz22_3 : w20.cell? ⟨gb195, 3, none⟩ = some (.slice none 0 0) := (blk_cell BK195.out 3).trans rfl; have hfz22_0 := blk_frozen BK195.out 0; have hfz22_1 := blk_frozen BK195.out 1; have hfz22_2 := blk_frozen BK195.out 2; have hfz22_3 := blk_frozen BK195.out 3) | ((with_reducible refine gate_callee (f := 18) rfl ?_); refine goesL_ (some 23) rfl rfl Try.func18 (by kernel_rfl) rfl #[.agg #[.int .i64 ((rd_T38 l0_3 x17_2).f0), .string ((rd_T38 l0_3 x17_2).f1), .int .i64 ((rd_T38 l0_3 x17_2).f2), .slice A194_3 ((rd_T38 l0_3 x17_2).f3).length c194_3]] rfl (by (try simp only [List.map_toArray, List.map_cons, List.map_nil]); first | done | rfl | (simp only [List.length_drop, List.length_take]; rfl)) ?_; (with_reducible refine (digest_Tree.calls k2 ((rd_T38 l0_3 x17_2).f0) ((rd_T38 l0_3 x17_2).f1) ((rd_T38 l0_3 x17_2).f2) _ _ ((rd_T38 l0_3 x17_2).f3) t196 _ ?side1 ?side2 A18.out).mono ?_); (case side1 => exact Kd.C_below HR194_3.out (by repeat (first | (with_reducible first | exact HB.out | apply below_alloc | apply pw_below_drewN | apply below_drew1 | refine below_set ?_ GE190.out | refine below_set ?_ GE195.out) | exact HB.out))); (case side2 => exact HC194_3.out); rintro e w23 ⟨rfl, hb⟩; refine ⟨_, rfl, ?_⟩; have n0_ := Aside0.mk (Kd.R_below (by (with_reducible repeat (first | apply Kd.R_alloc | apply Kd.R_drewN | apply Kd.R_drew)); exact (Kd.R_mono (Kd.R_far (p := ⟨gb195, 3, none⟩) (Kd.R_far (p := ⟨gb195, 2, none⟩) (Kd.R_far (p := ⟨gb195, 1, none⟩) (Kd.R_far (p := ⟨gb195, 0, none⟩) (Kd.R_types HO_3.out BK195.out (by decide)) (fun _ hk => hk.2) (.int .i64 ((rd_T38 l0_3 x17_2).f0))) (fun _ hk => hk.2) (.string ((rd_T38 l0_3 x17_2).f1))) (fun _ hk => hk.2) (.int .i64 ((rd_T38 l0_3 x17_2).f2))) (fun _ hk => hk.2) (.slice A194_3 ((rd_T38 l0_3 x17_2).f3).length c194_3)) (fun _ h_ => h_.1))) hb); have n1_ := Aside0.mk (blk_below (g := gb190) (o := .cells #[.int .i64 a0_0, .string a0_1, .int .i64 a0_2, .slice (some ad194) l0_3.length c0_3] 38 (0, 0)) (by (with_reducible repeat (first | refine blk_drewN ?_ _ | refine blk_drew ?_ | refine blk_alloc ?_ _)); refine blk_far ?_ NB190_195.out _; (with_reducible repeat (first | refine blk_drewN ?_ _ | refine blk_drew ?_ | refine blk_alloc ?_ _)); refine blk_far ?_ NB190_195.out _; (with_reducible repeat (first | refine blk_drewN ?_ _ | refine blk_drew ?_ | refine blk_alloc ?_ _)); refine blk_far ?_ NB190_195.out _; (with_reducible repeat (first | refine blk_drewN ?_ _ | refine blk_drew ?_ | refine blk_alloc ?_ _)); refine blk_far ?_ NB190_195.out _; (with_reducible repeat (first | refine blk_drewN ?_ _ | refine blk_drew ?_ | refine blk_alloc ?_ _)); exact BK190.out) hb); have n2_ := Aside0.mk (blk_below (g := gb195) (o := .cells #[.int .i64 ((rd_T38 l0_3 x17_2).f0), .string ((rd_T38 l0_3 x17_2).f1), .int .i64 ((rd_T38 l0_3 x17_2).f2), .slice A194_3 ((rd_T38 l0_3 x17_2).f3).length c194_3] 38 (0, 0)) (by (with_reducible repeat (first | refine blk_drewN ?_ _ | refine blk_drew ?_ | refine blk_alloc ?_ _)); refine blk_put (cs := #[.int .i64 ((rd_T38 l0_3 x17_2).f0), .string ((rd_T38 l0_3 x17_2).f1), .int .i64 ((rd_T38 l0_3 x17_2).f2), .slice none 0 0]) ?_ 3 _ rfl; (with_reducible repeat (first | refine blk_drewN ?_ _ | refine blk_drew ?_ | refine blk_alloc ?_ _)); refine blk_put (cs := #[.int .i64 ((rd_T38 l0_3 x17_2).f0), .string ((rd_T38 l0_3 x17_2).f1), .int .i64 0, .slice none 0 0]) ?_ 2 _ rfl; (with_reducible repeat (first | refine blk_drewN ?_ _ | refine blk_drew ?_ | refine blk_alloc ?_ _)); refine blk_put (cs := #[.int .i64 ((rd_T38 l0_3 x17_2).f0), .string (⟨#[]⟩ : ByteArray), .int .i64 0, .slice none 0 0]) ?_ 1 _ rfl; (with_reducible repeat (first | refine blk_drewN ?_ _ | refine blk_drew ?_ | refine blk_alloc ?_ _)); refine blk_put (cs := #[.int .i64 0, .string (⟨#[]⟩ : ByteArray), .int .i64 0, .slice none 0 0]) ?_ 0 _ rfl; (with_reducible repeat (first | refine blk_drewN ?_ _ | refine blk_drew ?_ | refine blk_alloc ?_ _)); exact BK195.out) hb); have n3_ := Aside0.mk (below_step (by repeat (first | (with_reducible first | exact HB.out | apply below_alloc | apply pw_below_drewN | apply below_drew1 | refine below_set ?_ GE190.out | refine below_set ?_ GE195.out) | exact HB.out)) hb); clear HO_3; clear BK190; clear BK195; clear HB; have HO_3 := n0_; have BK190 := n1_; have BK195 := n2_; have HB := n3_; clear n0_ n1_ n2_ n3_; (try clear hb); (try clear hb2); (try clear hk); (try clear hi)) | ((with_reducible refine gate_builtin (b := .append) (xs := #[.tmp 21, .tmp 24]) rfl ?_); at_builtin; refine Kd.R_append (Kd.int .u64) (w0 := w) w.heap.size rfl (.tmp 21) (.tmp 24) 33 22 (.int .u64 0) 8 rfl Try.underlying33 info22 rfl (by decide) (by omega) u3 x3_2 t196 [.int .u64 t196] (fun _ => True) (fun _ => False) rfl rfl ?aP (fun _ hk => hk.elim) ?aF ?aO ?aB ?aS ?aL ?_; (case aP => exact rfl); (case aB => exact (by repeat (first | (with_reducible first | exact HB.out | apply below_alloc | apply pw_below_drewN | apply below_drew1 | refine below_set ?_ GE190.out | refine below_set ?_ GE195.out) | exact HB.out))); (case aF => exact (fun _ _ => trivial)); (case aO => exact (by (with_reducible repeat (first | apply Kd.R_alloc | apply Kd.R_drewN | apply Kd.R_drew)); exact HO_3.out)); (case aS => exact (below_size (by repeat (first | (with_reducible first | exact HB.out | apply below_alloc | apply pw_below_drewN | apply below_drew1 | refine below_set ?_ GE190.out | refine below_set ?_ GE195.out) | exact HB.out)))); (case aL => have := LMc19.out; omega); intro v198 w24 ho hb hg hat; rw [← Ny197.out] at ho; have n0_ := Aside0.mk (blk_grown (g := gb190) (o := .cells #[.int .i64 a0_0, .string a0_1, .int .i64 a0_2, .slice (some ad194) l0_3.length c0_3] 38 (0, 0)) (by (with_reducible repeat (first | refine blk_drewN ?_ _ | refine blk_drew ?_ | refine blk_alloc ?_ _)); exact BK190.out) hg (Kd.R_ne HO_3.out BK190.out (by decide))); have n1_ := Aside0.mk (blk_grown (g := gb195) (o := .cells #[.int .i64 ((rd_T38 l0_3 x17_2).f0), .string ((rd_T38 l0_3 x17_2).f1), .int .i64 ((rd_T38 l0_3 x17_2).f2), .slice A194_3 ((rd_T38 l0_3 x17_2).f3).length c194_3] 38 (0, 0)) (by (with_reducible repeat (first | refine blk_drewN ?_ _ | refine blk_drew ?_ | refine blk_alloc ?_ _)); exact BK195.out) hg (Kd.R_ne HO_3.out BK195.out (by decide))); have n2_ := Aside0.mk (hb); have n3_ := Aside0.mk (ho); clear BK190; clear BK195; clear HB; clear HO_3; have BK190 := n0_; have BK195 := n1_; have HB := n2_; have HO199 := n3_; clear n0_ n1_ n2_ n3_; clear ho hb hg hat))
                    go_roundg k2
                    case measure => have := HJ1.out; have := HK2.out; omega
                    case rel => exact ⟨(y197), (wrap64 (x17_2 + 1)), (by first | rfl | (simp; done) | (simp [*]; done) | (simp [ne_nil_bool]; done)), H', ⟨by have := HJ1.out; have := HK2.out; omega⟩, ⟨by (with_reducible repeat (first | apply Kd.R_alloc | apply Kd.R_drewN | apply Kd.R_drew)); exact HO199.out⟩, ⟨by (with_reducible repeat (first | refine blk_drewN ?_ _ | refine blk_drew ?_ | refine blk_alloc ?_ _)); exact BK190.out⟩, ⟨by repeat (first | (with_reducible first | exact HB.out | apply below_alloc | apply pw_below_drewN | apply below_drew1 | refine below_set ?_ GE190.out | refine below_set ?_ GE195.out) | exact HB.out)⟩⟩
                  · rw [if_neg c19] at H
                    exact absurd H (by simp)
                · rw [if_neg c17] at H
                  exact absurd H (by simp)
              · rw [if_neg c16] at H
                exact absurd H (by simp)
            · rw [if_neg c15] at H
              have c15b0 : decide (x17_2 < (l0_3.length : Int)) = false := decide_eq_false c15
              clear c15
              replace H := Option.bind_eq_some_iff.mp H
              obtain ⟨t200, A250, H⟩ := H
              replace H : ((digest_Join.f k2 a0_0 a0_1 a0_2 x3_2).bind fun t201 => (some (t200 == t201))) = some r := H
              have A25 := Aside0.mk A250
              clear A250
              replace H := Option.bind_eq_some_iff.mp H
              obtain ⟨t201, A260, H⟩ := H
              replace H : (some (t200 == t201)) = some r := H
              have A26 := Aside0.mk A260
              clear A260
              obtain rfl := Option.some.inj H
              try go_wp2
              have n0_ := Aside0.mk (Kd.R_drew HO_3.out)
              have n1_ := Aside0.mk (blk_drew BK190.out)
              have n2_ := Aside0.mk (below_drew1 HB.out)
              clear HO_3
              clear BK190
              clear HB
              have HO_3 := n0_
              have BK190 := n1_
              have HB := n2_
              clear n0_ n1_ n2_
              refine start_ (n := 12) (S := fun w' => w'.cell? ⟨gb190, 0, none⟩ = some (.int .i64 a0_0) ∧ w'.cell? ⟨gb190, 1, none⟩ = some (.string a0_1) ∧ w'.cell? ⟨gb190, 2, none⟩ = some (.int .i64 a0_2) ∧ w'.cell? ⟨gb190, 3, none⟩ = some (.slice A0_3 l0_3.length c0_3)) (ds := []) #[false, false, false, false, false, false, false, false, false, false, false, false] (by kernel_rfl) rfl rfl ⟨(blk_cell BK190.out 0).trans rfl, (blk_cell BK190.out 1).trans rfl, (blk_cell BK190.out 2).trans rfl, (blk_cell BK190.out 3).trans rfl⟩ (fun hHeld => ?_); refine with_tabW vinculumlaw04_DigestKids.tab9 vinculumlaw04_DigestKids.bits9 (fun HT_ HW_ => ?_)
              generalize wr.drew = w27 at HO_3 BK190 HB hHeld ⊢
              refine pure_ (i := 2) (N := some 29) (v := ?_) (a' := ?_) #[false, false, true, false, false, false, false, false, false, false, false, false] rfl rfl (any_of HT_.out (by kernel_rfl)) (fun _ _ _ h => h) (Or.inl ⟨by rfl, ?_⟩) ?_ ?_
              rotate_left
              · intro w'
                go_simp
                with_reducible rfl
              rotate_left
              · simp only [Act.put, List.setIfInBounds_toArray, List.set_cons_zero, List.set_cons_succ, i64_w, i32_w]
                rfl
              refine pure_ (i := 4) (N := some 31) (v := ?_) (a' := ?_) #[false, false, true, false, true, false, false, false, false, false, false, false] rfl rfl (any_of HT_.out (by kernel_rfl)) (fun _ _ _ h => h) (Or.inl ⟨by rfl, ?_⟩) ?_ ?_
              rotate_left
              · intro w'
                go_simp
                with_reducible rfl
              rotate_left
              · simp only [Act.put, List.setIfInBounds_toArray, List.set_cons_zero, List.set_cons_succ, i64_w, i32_w]
                rfl
              refine pure_ (i := 6) (N := some 33) (v := ?_) (a' := ?_) #[false, false, true, false, true, false, true, false, false, false, false, false] rfl rfl (any_of HT_.out (by kernel_rfl)) (fun _ _ _ h => h) (Or.inl ⟨by rfl, ?_⟩) ?_ ?_
              rotate_left
              · intro w'
                go_simp
                with_reducible rfl
              rotate_left
              · simp only [Act.put, List.setIfInBounds_toArray, List.set_cons_zero, List.set_cons_succ, i64_w, i32_w]
                rfl
              refine pure_ (i := 8) (N := some 35) (v := ?_) (a' := ?_) #[false, false, true, false, true, false, true, false, true, false, false, false] rfl rfl (any_of HT_.out (by kernel_rfl)) (fun _ _ _ h => h) (Or.inl ⟨by rfl, ?_⟩) ?_ ?_
              rotate_left
              · intro w'
                go_simp
                with_reducible rfl
              rotate_left
              · simp only [Act.put, List.setIfInBounds_toArray, List.set_cons_zero, List.set_cons_succ, i64_w, i32_w]
                rfl
              refine take_ (i := 0) (N := some 27) (v := ?_) (a' := ?_) #[true, false, true, false, true, false, true, false, true, false, false, false] rfl rfl (take_ofW HT_.out HW_.out (by kernel_rfl)) (fun _ _ _ h => h) (Or.inl ⟨by rfl, ?_⟩) hHeld ?_ ?_
              rotate_left
              · rintro w' ⟨s0, s1, s2, s3⟩
                go_simp
                with_reducible rfl
              rotate_left
              · simp only [Act.put, List.setIfInBounds_toArray, List.set_cons_zero, List.set_cons_succ, i64_w, i32_w]
                rfl
              refine take_ (i := 3) (N := some 30) (v := ?_) (a' := ?_) #[true, false, true, true, true, false, true, false, true, false, false, false] rfl rfl (take_ofW HT_.out HW_.out (by kernel_rfl)) (fun _ _ _ h => h) (Or.inl ⟨by rfl, ?_⟩) hHeld ?_ ?_
              rotate_left
              · rintro w' ⟨s0, s1, s2, s3⟩
                go_simp
                with_reducible rfl
              rotate_left
              · simp only [Act.put, List.setIfInBounds_toArray, List.set_cons_zero, List.set_cons_succ, i64_w, i32_w]
                rfl
              refine take_ (i := 5) (N := some 32) (v := ?_) (a' := ?_) #[true, false, true, true, true, true, true, false, true, false, false, false] rfl rfl (take_ofW HT_.out HW_.out (by kernel_rfl)) (fun _ _ _ h => h) (Or.inl ⟨by rfl, ?_⟩) hHeld ?_ ?_
              rotate_left
              · rintro w' ⟨s0, s1, s2, s3⟩
                go_simp
                with_reducible rfl
              rotate_left
              · simp only [Act.put, List.setIfInBounds_toArray, List.set_cons_zero, List.set_cons_succ, i64_w, i32_w]
                rfl
              refine take_ (i := 7) (N := some 34) (v := ?_) (a' := ?_) #[true, false, true, true, true, true, true, true, true, false, false, false] rfl rfl (take_ofW HT_.out HW_.out (by kernel_rfl)) (fun _ _ _ h => h) (Or.inl ⟨by rfl, ?_⟩) hHeld ?_ ?_
              rotate_left
              · rintro w' ⟨s0, s1, s2, s3⟩
                go_simp
                with_reducible rfl
              rotate_left
              · simp only [Act.put, List.setIfInBounds_toArray, List.set_cons_zero, List.set_cons_succ, i64_w, i32_w]
                rfl
              refine one_ (i := 1) (N := some 28) #[true, true, true, true, true, true, true, true, true, false, false, false] rfl rfl (one_of HT_.out (by kernel_rfl)) (by decide) (fun K hK => ?_)
              refine goes_ Try.func18 (by kernel_rfl) rfl #[.agg #[.int .i64 a0_0, .string a0_1, .int .i64 a0_2, .slice A0_3 l0_3.length c0_3]] (by rfl) rfl rfl (by (try simp only [List.map_toArray, List.map_cons, List.map_nil]); first | done | rfl | (simp only [List.length_drop, List.length_take]; rfl)) ?_
              with_reducible refine (digest_Tree.calls k2 a0_0 a0_1 a0_2 _ _ l0_3 t200 _ ?side1 ?side2 A25.out).mono ?_
              (case side1 => repeat (first | exact (Kd.C_below HR0_3.out HB.out) | (with_reducible refine Kd.C_alloc ?_ _) | (with_reducible refine Kd.C_drewN ?_ _) | (with_reducible refine Kd.C_drew ?_)))
              (case side2 => exact HC0_3.out)
              rintro e w28 ⟨rfl, hb⟩
              refine ⟨_, rfl, ?_⟩
              have n0_ := Aside0.mk (Kd.R_below (by (with_reducible repeat (first | apply Kd.R_alloc | apply Kd.R_drewN | apply Kd.R_drew)); exact HO_3.out) hb)
              have n1_ := Aside0.mk (blk_below (g := gb190) (o := .cells #[.int .i64 a0_0, .string a0_1, .int .i64 a0_2, .slice A0_3 l0_3.length c0_3] 38 (0, 0)) (by (with_reducible repeat (first | refine blk_drewN ?_ _ | refine blk_drew ?_ | refine blk_alloc ?_ _)); exact BK190.out) hb)
              have n2_ := Aside0.mk (below_step (by repeat (first | (with_reducible first | exact HB.out | apply below_alloc | apply pw_below_drewN | apply below_drew1 | refine below_set ?_ GE190.out) | exact HB.out)) hb)
              clear HO_3
              clear BK190
              clear HB
              have HO_3 := n0_
              have BK190 := n1_
              have HB := n2_
              clear n0_ n1_ n2_
              (try clear hb)
              (try clear hb2)
              (try clear hk)
              (try clear hi)
              obtain ⟨Ao29, co29, eo29⟩ := Kd.R_slice HO_3.out
              (first | subst eo29 | (injection eo29 with f1_ f2_ f3_; have f4_ := f1_.symm; have f5_ := f3_.symm; clear f1_ f2_ f3_; subst f4_; subst f5_))
              refine hK.out _ _ ⟨(blk_cell BK190.out 0).trans rfl, (blk_cell BK190.out 1).trans rfl, (blk_cell BK190.out 2).trans rfl, (blk_cell BK190.out 3).trans rfl⟩ (fun hHeld => ?_)
              clear hK K
              refine norm_ (a' := ?_) ?_ ?_
              rotate_left
              · show Act.put _ (some 28) _ = _
                simp only [Act.put, List.setIfInBounds_toArray, List.set_cons_zero, List.set_cons_succ, i64_w, i32_w]
                rfl
              refine one_ (i := 9) (N := some 36) #[true, true, true, true, true, true, true, true, true, true, false, false] rfl rfl (one_of HT_.out (by kernel_rfl)) (by decide) (fun K hK => ?_)
              refine goes_ Try.func15 (by kernel_rfl) rfl #[.int .i64 a0_0, .string a0_1, .int .i64 a0_2, .slice Ao29 x3_2.length co29] (by rfl) rfl rfl (by (try simp only [List.map_toArray, List.map_cons, List.map_nil]); first | done | rfl | (simp only [List.length_drop, List.length_take]; rfl)) ?_
              with_reducible refine (digest_Join.calls k2 a0_0 a0_1 a0_2 _ _ x3_2 t201 _ ?side1 ?side2 A26.out).mono ?_
              (case side1 => repeat (first | exact (Kd.R_reads' HO_3.out).2.2 | (with_reducible refine Kd.C_alloc ?_ _) | (with_reducible refine Kd.C_drewN ?_ _) | (with_reducible refine Kd.C_drew ?_)))
              (case side2 => exact (Kd.R_reads' HO_3.out).2.1)
              rintro e w30 ⟨rfl, hb⟩
              refine ⟨_, rfl, ?_⟩
              have n0_ := Aside0.mk (Kd.R_below (by (with_reducible repeat (first | apply Kd.R_alloc | apply Kd.R_drewN | apply Kd.R_drew)); exact HO_3.out) hb)
              have n1_ := Aside0.mk (blk_below (g := gb190) (o := .cells #[.int .i64 a0_0, .string a0_1, .int .i64 a0_2, .slice A0_3 l0_3.length c0_3] 38 (0, 0)) (by (with_reducible repeat (first | refine blk_drewN ?_ _ | refine blk_drew ?_ | refine blk_alloc ?_ _)); exact BK190.out) hb)
              have n2_ := Aside0.mk (below_step (by repeat (first | (with_reducible first | exact HB.out | apply below_alloc | apply pw_below_drewN | apply below_drew1 | refine below_set ?_ GE190.out) | exact HB.out)) hb)
              clear HO_3
              clear BK190
              clear HB
              have HO_3 := n0_
              have BK190 := n1_
              have HB := n2_
              clear n0_ n1_ n2_
              (try clear hb)
              (try clear hb2)
              (try clear hk)
              (try clear hi)
              refine hK.out _ _ ⟨(blk_cell BK190.out 0).trans rfl, (blk_cell BK190.out 1).trans rfl, (blk_cell BK190.out 2).trans rfl, (blk_cell BK190.out 3).trans rfl⟩ (fun hHeld => ?_)
              clear hK K
              refine norm_ (a' := ?_) ?_ ?_
              rotate_left
              · show Act.put _ (some 36) _ = _
                simp only [Act.put, List.setIfInBounds_toArray, List.set_cons_zero, List.set_cons_succ, i64_w, i32_w]
                rfl
              refine pure_ (i := 10) (N := some 37) (v := ?_) (a' := ?_) #[true, true, true, true, true, true, true, true, true, true, true, false] rfl rfl (any_of HT_.out (by kernel_rfl)) (fun _ _ _ h => h) (Or.inl ⟨by rfl, ?_⟩) ?_ ?_
              rotate_left
              · intro w'
                go_simp
                with_reducible rfl
              rotate_left
              · simp only [Act.put, List.setIfInBounds_toArray, List.set_cons_zero, List.set_cons_succ, i64_w, i32_w]
                rfl
              refine pure_ (i := 11) (N := some 2) (v := ?_) (a' := ?_) #[true, true, true, true, true, true, true, true, true, true, true, true] rfl rfl (any_of HT_.out (by kernel_rfl)) (fun _ _ _ h => h) (Or.inl ⟨by rfl, ?_⟩) ?_ ?_
              rotate_left
              · intro w'
                go_simp
                with_reducible rfl
              rotate_left
              · simp only [Act.put, List.setIfInBounds_toArray, List.set_cons_zero, List.set_cons_succ, i64_w, i32_w]
                rfl
              refine done_ (done_of HT_.out (by kernel_rfl)) ?_
              try go_wp2
              go_ret
              exact ⟨by first | rfl | (simp [errW_none, errW_some] <;> rfl) | (simp [*, errW_none, errW_some] <;> rfl), by repeat (first | (with_reducible first | exact HB.out | apply below_alloc | apply pw_below_drewN | apply below_drew1 | refine below_set ?_ GE190.out) | exact HB.out)⟩

end Go.Proofs.Ytojanhinfgjjiaa.PT
