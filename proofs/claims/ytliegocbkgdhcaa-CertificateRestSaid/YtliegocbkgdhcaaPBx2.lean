-- Written by a program of this place (wip/gen.py) with the kit's print; not trusted: Lean checks it.
import Derived.Test.YtliegocbkgdhcaaPBx0
import Derived.Test.YtliegocbkgdhcaaPBx1
namespace Go.Proofs.Ytliegocbkgdhcaa.PB
open Go.RowKit Go.Proofs.YtliegocbkgdhcaaW.PrintWords Go.Proofs.YtliegocbkgdhcaaW.PrintLast Go.Proofs.YtliegocbkgdhcaaW.PrintMore
attribute [local go_sem] max2_int min2_int max_two min_two max_three min_three max_four min_four   -- for this text's walks alone
set_option linter.unusedVariables false
set_option linter.unusedSimpArgs false

/-! ### demerit_Line: function 33 -/
mutual
def demerit_Line.j0 : Nat → List (S50) → Int → Int → Int → Bool → Option (Int × Int)
  | 0, _, _, _, _, _ => none
  | k + 1, x0, x1, x2, x3, x18 => if x18 = true then (some (0, 1)) else ((demerit_Length.f k x0 x1 x2).bind fun bt107 => (if bt107.2 = 0 then (if bt107.1 > x3 then (demerit_Line.j1 k x0 x1 x2 x3 bt107.1 (decide ((wrap64 (x2 - x1)) > 1))) else (demerit_Line.j1 k x0 x1 x2 x3 bt107.1 false)) else (some (0, bt107.2))))
def demerit_Line.j1 : Nat → List (S50) → Int → Int → Int → Int → Bool → Option (Int × Int)
  | 0, _, _, _, _, _, _ => none
  | k + 1, x0, x1, x2, x3, x10, x37 => if x37 = true then (some (0, 6)) else ((demerit_badness.f (wrap64 (x3 - x10)) x3 (x2 == (x0.length : Int))).bind fun t109 => (if x1 > 0 then (if 0 ≤ x1 then (if x1 < (x0.length : Int) then (some (wrap64 ((wrap64 (100 + t109)) + ((rd_T50 x0 x1).f2)), 0)) else (none)) else (none)) else (some (wrap64 (100 + t109), 0))))
end
def demerit_Line.f (k : Nat) (l0 : List (S50)) (a1 : Int) (a2 : Int) (a3 : Int) : Option (Int × Int) := if a3 < 1 then (demerit_Line.j0 k l0 a1 a2 a3 true) else (demerit_Line.j0 k l0 a1 a2 a3 (decide (a3 > 10000000)))
theorem demerit_Line.mono_l : ∀ k, (∀ y0 y1 y2 y3 y4, LeO (demerit_Line.j0 k y0 y1 y2 y3 y4) (demerit_Line.j0 (k + 1) y0 y1 y2 y3 y4)) ∧ (∀ y0 y1 y2 y3 y4 y5, LeO (demerit_Line.j1 k y0 y1 y2 y3 y4 y5) (demerit_Line.j1 (k + 1) y0 y1 y2 y3 y4 y5))
  | 0 => ⟨fun _ _ _ _ _ r h => by simp [demerit_Line.j0] at h, fun _ _ _ _ _ _ r h => by simp [demerit_Line.j1] at h⟩
  | k + 1 => by
    obtain ⟨ih0, ih1⟩ := demerit_Line.mono_l k
    refine ⟨?_, ?_⟩
    · intro y0 y1 y2 y3 y4
      unfold demerit_Line.j0
      repeat' first
      | (with_reducible exact ih0 _ _ _ _ _)
      | (with_reducible exact ih1 _ _ _ _ _ _)
      | (with_reducible exact demerit_Length.mono _ _ _ _)
      | (with_reducible exact LeO.refl _)
      | (with_reducible exact LeO.none _)
      | (with_reducible refine LeO.ite ?_ ?_)
      | (with_reducible refine LeO.bind ?_ (fun _ => ?_))
      | exact ih0 _ _ _ _ _
      | exact ih1 _ _ _ _ _ _
      | exact demerit_Length.mono _ _ _ _
      | exact LeO.none _
      | refine LeO.ite ?_ ?_
      | refine LeO.bind ?_ (fun _ => ?_)
    · intro y0 y1 y2 y3 y4 y5
      unfold demerit_Line.j1
      repeat' first
      | (with_reducible exact ih0 _ _ _ _ _)
      | (with_reducible exact ih1 _ _ _ _ _ _)
      | (with_reducible exact demerit_Length.mono _ _ _ _)
      | (with_reducible exact LeO.refl _)
      | (with_reducible exact LeO.none _)
      | (with_reducible refine LeO.ite ?_ ?_)
      | (with_reducible refine LeO.bind ?_ (fun _ => ?_))
      | exact ih0 _ _ _ _ _
      | exact ih1 _ _ _ _ _ _
      | exact demerit_Length.mono _ _ _ _
      | exact LeO.none _
      | refine LeO.ite ?_ ?_
      | refine LeO.bind ?_ (fun _ => ?_)
theorem demerit_Line.mono : ∀ a0 a1 a2 a3 k, LeO (demerit_Line.f k a0 a1 a2 a3) (demerit_Line.f (k + 1) a0 a1 a2 a3) := by
  intro a0 a1 a2 a3 k
  obtain ⟨ih0, ih1⟩ := demerit_Line.mono_l k
  unfold demerit_Line.f
  repeat' first
      | (with_reducible exact ih0 _ _ _ _ _)
      | (with_reducible exact ih1 _ _ _ _ _ _)
      | (with_reducible exact demerit_Length.mono _ _ _ _)
      | (with_reducible exact LeO.refl _)
      | (with_reducible exact LeO.none _)
      | (with_reducible refine LeO.ite ?_ ?_)
      | (with_reducible refine LeO.bind ?_ (fun _ => ?_))
      | exact ih0 _ _ _ _ _
      | exact ih1 _ _ _ _ _ _
      | exact demerit_Length.mono _ _ _ _
      | exact LeO.none _
      | refine LeO.ite ?_ ?_
      | refine LeO.bind ?_ (fun _ => ?_)
set_option maxHeartbeats 8000000 in
set_option maxRecDepth 100000 in
theorem demerit_Line.calls (k : Nat) (A0 : Option Addr) (c0 : Nat) (l0 : List (S50)) (a1 : Int) (a2 : Int) (a3 : Int) (r1 : Int) (r2 : Int) (w : World) (hr0 : Kd.C k50 w A0 l0.length l0) (hc0 : l0.length ≤ c0) (h : demerit_Line.f k l0 a1 a2 a3 = some (r1, r2)) :
    Calls Try.prog 33 #[.slice A0 l0.length c0, .int .i64 a1, .int .i64 a2, .int .i64 a3] w fun e w' => e = .returned (.tuple #[.int .i64 r1, .int .i64 r2]) ∧ Below w.heap.size w w' := by
  have HR0 := Aside0.mk hr0
  have HC0 := Aside0.mk hc0
  clear hr0 hc0
  have HB := Aside0.mk (Below.refl w.heap.size w)
  have H : (if a3 < 1 then (demerit_Line.j0 k l0 a1 a2 a3 true) else (demerit_Line.j0 k l0 a1 a2 a3 (decide (a3 > 10000000)))) = some (r1, r2) := h
  clear h
  have HC5 := Aside0.mk H
  clear H
  go_enter Try.func33, Try.ntmps33
  go_upto_region 1 with (fail)
  go_cut [18] (fun v18 wc => ∃ (kq : Nat) (x18_4 : Bool), v18 = .bool x18_4 ∧ Aside0 (demerit_Line.j0 kq l0 a1 a2 a3 x18_4 = some (r1, r2)) ∧ Aside0 (kq ≤ k) ∧ Aside0 (Below w.heap.size w wc))
  case first =>
    have H := HC5.out
    clear HC5
    by_cases c6 : a3 < 1
    · rw [if_pos c6] at H
      have c6b0 : decide (a3 < 1) = true := decide_eq_true c6
      clear c6
      (first | rw [c6b0] | (simp only [i64_w, i32_w]; rw [c6b0]) | skip)
      have H' := Aside0.mk H
      clear H
      go_wp2
      go_meet
      case rel => exact ⟨_, (true), (by first | rfl | (simp; done) | (simp [*]; done) | (simp [ne_nil_bool]; done)), H', ⟨by first | omega | exact Nat.le_refl _⟩, ⟨by repeat (first | (with_reducible first | exact HB.out | apply below_alloc | apply pw_below_drewN | apply below_drew1) | exact HB.out)⟩⟩
    · rw [if_neg c6] at H
      have c6b0 : decide (a3 < 1) = false := decide_eq_false c6
      clear c6
      (first | rw [c6b0] | (simp only [i64_w, i32_w]; rw [c6b0]) | skip)
      have H' := Aside0.mk H
      clear H
      go_wp2
      go_meet
      case rel => exact ⟨_, (decide (a3 > 10000000)), (by first | rfl | (simp; done) | (simp [*]; done) | (simp [ne_nil_bool]; done)), H', ⟨by first | omega | exact Nat.le_refl _⟩, ⟨by repeat (first | (with_reducible first | exact HB.out | apply below_alloc | apply pw_below_drewN | apply below_drew1) | exact HB.out)⟩⟩
  case rest =>
    clear HC5
    try clear p2
    try clear c3
    try clear c6
    try clear c6b0
    obtain ⟨kq, x18_4, rfl, HA, HJ4, HB⟩ := hcut
    cases kq with
    | zero => exact absurd HA.out (by simp [demerit_Line.j0])
    | succ kj4 =>
      have H := HA.out
      clear HA
      simp only [demerit_Line.j0] at H
      by_cases c7 : x18_4 = true
      · subst c7
        have H1 : (some (0, 1)) = some (r1, r2) := by rw [if_pos rfl] at H; exact H
        clear H
        have H := H1
        clear H1
        simp only [Option.some.injEq, Prod.mk.injEq] at H
        obtain ⟨rfl, rfl⟩ := H
        go_wp2
        go_ret2
        exact ⟨by first | rfl | (simp [errW_none, errW_some] <;> rfl) | (simp [*, errW_none, errW_some] <;> rfl), by repeat (first | (with_reducible first | exact HB.out | apply below_alloc | apply pw_below_drewN | apply below_drew1) | exact HB.out)⟩
      · replace c7 := Bool.eq_false_iff.mpr c7
        subst c7
        have H1 : ((demerit_Length.f kj4 l0 a1 a2).bind fun bt107 => (if bt107.2 = 0 then (if bt107.1 > a3 then (demerit_Line.j1 kj4 l0 a1 a2 a3 bt107.1 (decide ((wrap64 (a2 - a1)) > 1))) else (demerit_Line.j1 kj4 l0 a1 a2 a3 bt107.1 false)) else (some (0, bt107.2)))) = some (r1, r2) := by rw [if_neg (show ¬ (false = true) by decide)] at H; exact H
        clear H
        have H := H1
        clear H1
        replace H := Option.bind_eq_some_iff.mp H
        obtain ⟨⟨t107, t108⟩, A80, H⟩ := H
        replace H : (if t108 = 0 then (if t107 > a3 then (demerit_Line.j1 kj4 l0 a1 a2 a3 t107 (decide ((wrap64 (a2 - a1)) > 1))) else (demerit_Line.j1 kj4 l0 a1 a2 a3 t107 false)) else (some (0, t108))) = some (r1, r2) := H
        have A8 := Aside0.mk A80
        clear A80
        by_cases c9 : t108 = 0
        · rw [if_pos c9] at H
          have c9b0 : (t108 == 0) = true := beq_iff_eq.mpr c9
          have c9b1 : (t108 != 0) = false := bne_eq_false_iff_eq.mpr c9
          clear c9
          have HC10 := Aside0.mk H
          clear H
          go_upto_region 6 with (first | ((with_reducible refine gate_callee (f := 41) rfl ?_); refine goesL_ (some 23) rfl rfl Try.func41 (by kernel_rfl) rfl #[.slice A0 l0.length c0, .int .i64 a1, .int .i64 a2] rfl (by (try simp only [List.map_toArray, List.map_cons, List.map_nil]); first | done | rfl | (simp only [List.length_drop, List.length_take]; rfl)) ?_; (with_reducible refine (demerit_Length.calls kj4 _ _ l0 a1 a2 t107 t108 _ ?side1 ?side2 A8.out).mono ?_); (case side1 => repeat (first | exact (Kd.C_below HR0.out HB.out) | (with_reducible refine Kd.C_alloc ?_ _) | (with_reducible refine Kd.C_drewN ?_ _) | (with_reducible refine Kd.C_drew ?_))); (case side2 => exact HC0.out); rintro e w11 ⟨rfl, hb⟩; refine ⟨_, rfl, ?_⟩; have n0_ := Aside0.mk (below_step (by repeat (first | (with_reducible first | exact HB.out | apply below_alloc | apply pw_below_drewN | apply below_drew1) | exact HB.out)) hb); clear HB; have HB := n0_; clear n0_; (try clear hb); (try clear hb2); (try clear hk); (try clear hi)))
          (try simp only [Act.put, List.setIfInBounds_toArray, List.set_cons_zero, List.set_cons_succ])
          go_cut [37] (fun v37 wc => ∃ (kq : Nat) (x37_9 : Bool), v37 = .bool x37_9 ∧ Aside0 (demerit_Line.j1 kq l0 a1 a2 a3 t107 x37_9 = some (r1, r2)) ∧ Aside0 (kq ≤ kj4) ∧ Aside0 (Below w.heap.size w wc))
          case first =>
            have H := HC10.out
            clear HC10
            by_cases c12 : t107 > a3
            · rw [if_pos c12] at H
              have c12b0 : decide (a3 < t107) = true := decide_eq_true c12
              clear c12
              (first | rw [c12b0] | (simp only [i64_w, i32_w]; rw [c12b0]) | skip)
              have H' := Aside0.mk H
              clear H
              go_wp2
              go_meet
              case rel => exact ⟨_, (decide ((wrap64 (a2 - a1)) > 1)), (by first | rfl | (simp; done) | (simp [*]; done) | (simp [ne_nil_bool]; done)), H', ⟨by have := HJ4.out; first | omega | exact Nat.le_refl _⟩, ⟨by repeat (first | (with_reducible first | exact HB.out | apply below_alloc | apply pw_below_drewN | apply below_drew1) | exact HB.out)⟩⟩
            · rw [if_neg c12] at H
              have c12b0 : decide (a3 < t107) = false := decide_eq_false c12
              clear c12
              (first | rw [c12b0] | (simp only [i64_w, i32_w]; rw [c12b0]) | skip)
              have H' := Aside0.mk H
              clear H
              go_wp2
              go_meet
              case rel => exact ⟨_, (false), (by first | rfl | (simp; done) | (simp [*]; done) | (simp [ne_nil_bool]; done)), H', ⟨by have := HJ4.out; first | omega | exact Nat.le_refl _⟩, ⟨by repeat (first | (with_reducible first | exact HB.out | apply below_alloc | apply pw_below_drewN | apply below_drew1) | exact HB.out)⟩⟩
          case rest =>
            clear HC10
            try clear c1
            try clear p2
            try clear c3
            try clear c4
            try clear c6
            try clear c6b0
            try clear p6
            try clear c7
            try clear c9
            try clear c9b0
            try clear c9b1
            try clear c12
            try clear c12b0
            try clear p2
            obtain ⟨kq, x37_9, rfl, HA, HJ9, HB⟩ := hcut
            cases kq with
            | zero => exact absurd HA.out (by simp [demerit_Line.j1])
            | succ kj9 =>
              have H := HA.out
              clear HA
              simp only [demerit_Line.j1] at H
              by_cases c13 : x37_9 = true
              · subst c13
                have H1 : (some (0, 6)) = some (r1, r2) := by rw [if_pos rfl] at H; exact H
                clear H
                have H := H1
                clear H1
                simp only [Option.some.injEq, Prod.mk.injEq] at H
                obtain ⟨rfl, rfl⟩ := H
                go_wp2
                go_ret2
                exact ⟨by first | rfl | (simp [errW_none, errW_some] <;> rfl) | (simp [*, errW_none, errW_some] <;> rfl), by repeat (first | (with_reducible first | exact HB.out | apply below_alloc | apply pw_below_drewN | apply below_drew1) | exact HB.out)⟩
              · replace c13 := Bool.eq_false_iff.mpr c13
                subst c13
                have H1 : ((demerit_badness.f (wrap64 (a3 - t107)) a3 (a2 == (l0.length : Int))).bind fun t109 => (if a1 > 0 then (if 0 ≤ a1 then (if a1 < (l0.length : Int) then (some (wrap64 ((wrap64 (100 + t109)) + ((rd_T50 l0 a1).f2)), 0)) else (none)) else (none)) else (some (wrap64 (100 + t109), 0)))) = some (r1, r2) := by rw [if_neg (show ¬ (false = true) by decide)] at H; exact H
                clear H
                have H := H1
                clear H1
                replace H := Option.bind_eq_some_iff.mp H
                obtain ⟨t109, A140, H⟩ := H
                replace H : (if a1 > 0 then (if 0 ≤ a1 then (if a1 < (l0.length : Int) then (some (wrap64 ((wrap64 (100 + t109)) + ((rd_T50 l0 a1).f2)), 0)) else (none)) else (none)) else (some (wrap64 (100 + t109), 0))) = some (r1, r2) := H
                have A14 := Aside0.mk A140
                clear A140
                by_cases c15 : a1 > 0
                · rw [if_pos c15] at H
                  have c15b0 : decide (0 < a1) = true := decide_eq_true c15
                  clear c15
                  by_cases c16 : 0 ≤ a1
                  · rw [if_pos c16] at H
                    have c16b0 : decide (0 ≤ a1) = true := decide_eq_true c16
                    clear c16
                    by_cases c17 : a1 < (l0.length : Int)
                    · rw [if_pos c17] at H
                      have c17b0 : decide (a1 < (l0.length : Int)) = true := decide_eq_true c17
                      clear c17
                      simp only [Option.some.injEq, Prod.mk.injEq] at H
                      obtain ⟨rfl, rfl⟩ := H
                      go_wp2_with (first | ((with_reducible refine gate_callee (f := 42) rfl ?_); refine goesL_ (some 46) rfl rfl Try.func42 (by kernel_rfl) rfl #[.int .i64 (wrap64 (a3 - t107)), .int .i64 a3, .bool (a2 == (l0.length : Int))] rfl (by (try simp only [List.map_toArray, List.map_cons, List.map_nil]); first | done | rfl | (simp only [List.length_drop, List.length_take]; rfl)) ?_; (with_reducible refine (demerit_badness.calls (wrap64 (a3 - t107)) a3 (a2 == (l0.length : Int)) t109 _ A14.out).mono ?_); rintro e w18 ⟨rfl, hb⟩; refine ⟨_, rfl, ?_⟩; have n0_ := Aside0.mk (below_step (by repeat (first | (with_reducible first | exact HB.out | apply below_alloc | apply pw_below_drewN | apply below_drew1) | exact HB.out)) hb); clear HB; have HB := n0_; clear n0_; (try clear hb); (try clear hb2); (try clear hk); (try clear hi); have p110 : 0 ≤ (a1 : Int) := of_decide_eq_true (by first | (with_reducible assumption) | assumption); have q110 : a1 < (l0.length : Int) := of_decide_eq_true (by first | (with_reducible assumption) | assumption); obtain ⟨ad110, e110, hx110_0, hx110_1, hx110_2⟩ := at_T50 HR0.out a1 p110 q110; cases e110; replace hx110_0 := (HB.out.cell (World.block_lt_of_cell? w _ hx110_0)).trans hx110_0; replace hx110_1 := (HB.out.cell (World.block_lt_of_cell? w _ hx110_1)).trans hx110_1; replace hx110_2 := (HB.out.cell (World.block_lt_of_cell? w _ hx110_2)).trans hx110_2; replace p110 := eq_true p110; replace q110 := eq_true q110))
                      go_ret2
                      exact ⟨by first | rfl | (simp [errW_none, errW_some] <;> rfl) | (simp [*, errW_none, errW_some] <;> rfl), by repeat (first | (with_reducible first | exact HB.out | apply below_alloc | apply pw_below_drewN | apply below_drew1) | exact HB.out)⟩
                    · rw [if_neg c17] at H
                      exact absurd H (by simp)
                  · rw [if_neg c16] at H
                    exact absurd H (by simp)
                · rw [if_neg c15] at H
                  have c15b0 : decide (0 < a1) = false := decide_eq_false c15
                  clear c15
                  simp only [Option.some.injEq, Prod.mk.injEq] at H
                  obtain ⟨rfl, rfl⟩ := H
                  go_wp2_with (first | ((with_reducible refine gate_callee (f := 42) rfl ?_); refine goesL_ (some 46) rfl rfl Try.func42 (by kernel_rfl) rfl #[.int .i64 (wrap64 (a3 - t107)), .int .i64 a3, .bool (a2 == (l0.length : Int))] rfl (by (try simp only [List.map_toArray, List.map_cons, List.map_nil]); first | done | rfl | (simp only [List.length_drop, List.length_take]; rfl)) ?_; (with_reducible refine (demerit_badness.calls (wrap64 (a3 - t107)) a3 (a2 == (l0.length : Int)) t109 _ A14.out).mono ?_); rintro e w19 ⟨rfl, hb⟩; refine ⟨_, rfl, ?_⟩; have n0_ := Aside0.mk (below_step (by repeat (first | (with_reducible first | exact HB.out | apply below_alloc | apply pw_below_drewN | apply below_drew1) | exact HB.out)) hb); clear HB; have HB := n0_; clear n0_; (try clear hb); (try clear hb2); (try clear hk); (try clear hi)))
                  go_ret2
                  exact ⟨by first | rfl | (simp [errW_none, errW_some] <;> rfl) | (simp [*, errW_none, errW_some] <;> rfl), by repeat (first | (with_reducible first | exact HB.out | apply below_alloc | apply pw_below_drewN | apply below_drew1) | exact HB.out)⟩
        · rw [if_neg c9] at H
          have c9b0 : (t108 == 0) = false := beq_eq_false_iff_ne.mpr c9
          have c9b1 : (t108 != 0) = true := bne_iff_ne.mpr c9
          simp only [Option.some.injEq, Prod.mk.injEq] at H
          obtain ⟨rfl, rfl⟩ := H
          go_wp2_with (first | ((with_reducible refine gate_callee (f := 41) rfl ?_); refine goesL_ (some 23) rfl rfl Try.func41 (by kernel_rfl) rfl #[.slice A0 l0.length c0, .int .i64 a1, .int .i64 a2] rfl (by (try simp only [List.map_toArray, List.map_cons, List.map_nil]); first | done | rfl | (simp only [List.length_drop, List.length_take]; rfl)) ?_; (with_reducible refine (demerit_Length.calls kj4 _ _ l0 a1 a2 t107 t108 _ ?side1 ?side2 A8.out).mono ?_); (case side1 => repeat (first | exact (Kd.C_below HR0.out HB.out) | (with_reducible refine Kd.C_alloc ?_ _) | (with_reducible refine Kd.C_drewN ?_ _) | (with_reducible refine Kd.C_drew ?_))); (case side2 => exact HC0.out); rintro e w20 ⟨rfl, hb⟩; refine ⟨_, rfl, ?_⟩; have n0_ := Aside0.mk (below_step (by repeat (first | (with_reducible first | exact HB.out | apply below_alloc | apply pw_below_drewN | apply below_drew1) | exact HB.out)) hb); clear HB; have HB := n0_; clear n0_; (try clear hb); (try clear hb2); (try clear hk); (try clear hi)))
          go_ret2
          exact ⟨by first | rfl | (simp [errW_none, errW_some] <;> rfl) | (simp [*, errW_none, errW_some] <;> rfl), by repeat (first | (with_reducible first | exact HB.out | apply below_alloc | apply pw_below_drewN | apply below_drew1) | exact HB.out)⟩

/-! ### certificate_problem_line: function 27 -/
def certificate_problem_line.f (k : Nat) (l0_0 : List (S50)) (a0_1 : Int) (a0_2 : Int) (a1 : Int) (a2 : Int) : Option (Int × Bool) := if a1 > 0 then ((demerit_Line.f k l0_0 a1 a2 (wrap64 (a0_1 - a0_2))).bind fun bt112 => (some (bt112.1, (bt112.2 == 0)))) else ((demerit_Line.f k l0_0 a1 a2 a0_1).bind fun bt114 => (some (bt114.1, (bt114.2 == 0))))
theorem certificate_problem_line.mono : ∀ a0 a1 a2 a3 a4 k, LeO (certificate_problem_line.f k a0 a1 a2 a3 a4) (certificate_problem_line.f (k + 1) a0 a1 a2 a3 a4) := by
  intro a0 a1 a2 a3 a4 k
  unfold certificate_problem_line.f
  repeat' first
      | (with_reducible exact demerit_Line.mono _ _ _ _ _)
      | (with_reducible exact LeO.refl _)
      | (with_reducible exact LeO.none _)
      | (with_reducible refine LeO.ite ?_ ?_)
      | (with_reducible refine LeO.bind ?_ (fun _ => ?_))
      | exact demerit_Line.mono _ _ _ _ _
      | exact LeO.none _
      | refine LeO.ite ?_ ?_
      | refine LeO.bind ?_ (fun _ => ?_)
set_option maxHeartbeats 8000000 in
set_option maxRecDepth 100000 in
theorem certificate_problem_line.calls (k : Nat) (A0_0 : Option Addr) (c0_0 : Nat) (l0_0 : List (S50)) (a0_1 : Int) (a0_2 : Int) (a1 : Int) (a2 : Int) (r1 : Int) (r2 : Bool) (w : World) (hr0_0 : Kd.C k50 w A0_0 l0_0.length l0_0) (hc0_0 : l0_0.length ≤ c0_0) (h : certificate_problem_line.f k l0_0 a0_1 a0_2 a1 a2 = some (r1, r2)) :
    Calls Try.prog 27 #[.agg #[.slice A0_0 l0_0.length c0_0, .int .i64 a0_1, .int .i64 a0_2], .int .i64 a1, .int .i64 a2] w fun e w' => e = .returned (.tuple #[.int .i64 r1, .bool r2]) ∧ Below w.heap.size w w' := by
  have hu54 := Try.underlying54
  have HR0_0 := Aside0.mk hr0_0
  have HC0_0 := Aside0.mk hc0_0
  clear hr0_0 hc0_0
  have HB := Aside0.mk (Below.refl w.heap.size w)
  have H : (if a1 > 0 then ((demerit_Line.f k l0_0 a1 a2 (wrap64 (a0_1 - a0_2))).bind fun bt112 => (some (bt112.1, (bt112.2 == 0)))) else ((demerit_Line.f k l0_0 a1 a2 a0_1).bind fun bt114 => (some (bt114.1, (bt114.2 == 0))))) = some (r1, r2) := h
  clear h
  by_cases c4 : a1 > 0
  · rw [if_pos c4] at H
    have c4b0 : decide (0 < a1) = true := decide_eq_true c4
    clear c4
    replace H := Option.bind_eq_some_iff.mp H
    obtain ⟨⟨t112, t113⟩, A50, H⟩ := H
    replace H : (some (t112, (t113 == 0))) = some (r1, r2) := H
    have A5 := Aside0.mk A50
    clear A50
    simp only [Option.some.injEq, Prod.mk.injEq] at H
    obtain ⟨rfl, rfl⟩ := H
    go_enter Try.func27, Try.ntmps27
    go_wp2_with (first | ((with_reducible refine gate_dst (N := 3) rfl ?_); refine box_event ?hg (N := 3) ?hd (cs := #[.slice A0_0 l0_0.length c0_0, .int .i64 a0_1, .int .i64 a0_2]) (t := 54) ?hr ?_; (case hd => rfl); (case hg => rfl); (case hr => first | (go_simp; done) | (go_simp; rfl)); intro gb111 hg w6 hbox hb; have n0_ := Aside0.mk (below_step (by repeat (first | (with_reducible first | exact HB.out | apply below_alloc | apply pw_below_drewN | apply below_drew1) | exact HB.out)) hb); have n1_ := Aside0.mk (hbox); have n2_ := Aside0.mk ((by rw [hg]; exact (below_size (by repeat (first | (with_reducible first | exact HB.out | apply below_alloc | apply pw_below_drewN | apply below_drew1) | exact HB.out))) : w.heap.size ≤ gb111)); have n3_ := Aside0.mk ((by rw [hg]; exact (below_size (by repeat (first | (with_reducible first | exact HB.out | apply below_alloc | apply pw_below_drewN | apply below_drew1) | exact HB.out))) : w.heap.size ≤ gb111)); clear HB; have HB := n0_; have BK111 := n1_; have GW111 := n2_; have GE111 := n3_; clear n0_ n1_ n2_ n3_; clear hb hbox hg; have hcz7_0 : w6.cell? ⟨gb111, 0, none⟩ = some (.slice A0_0 l0_0.length c0_0) := (blk_cell BK111.out 0).trans rfl; have hcz7_1 : w6.cell? ⟨gb111, 1, none⟩ = some (.int .i64 a0_1) := (blk_cell BK111.out 1).trans rfl; have hcz7_2 : w6.cell? ⟨gb111, 2, none⟩ = some (.int .i64 a0_2) := (blk_cell BK111.out 2).trans rfl; have hfz7_0 := blk_frozen BK111.out 0; have hfz7_1 := blk_frozen BK111.out 1; have hfz7_2 := blk_frozen BK111.out 2) | ((with_reducible refine gate_callee (f := 33) rfl ?_); refine goesL_ (some 25) rfl rfl Try.func33 (by kernel_rfl) rfl #[.slice A0_0 l0_0.length c0_0, .int .i64 a1, .int .i64 a2, .int .i64 (wrap64 (a0_1 - a0_2))] rfl (by (try simp only [List.map_toArray, List.map_cons, List.map_nil]); first | done | rfl | (simp only [List.length_drop, List.length_take]; rfl)) ?_; (with_reducible refine (demerit_Line.calls k _ _ l0_0 a1 a2 (wrap64 (a0_1 - a0_2)) t112 t113 _ ?side1 ?side2 A5.out).mono ?_); (case side1 => repeat (first | exact (Kd.C_below HR0_0.out HB.out) | (with_reducible refine Kd.C_alloc ?_ _) | (with_reducible refine Kd.C_drewN ?_ _) | (with_reducible refine Kd.C_drew ?_))); (case side2 => exact HC0_0.out); rintro e w8 ⟨rfl, hb⟩; refine ⟨_, rfl, ?_⟩; have n0_ := Aside0.mk (blk_below (g := gb111) (o := .cells #[.slice A0_0 l0_0.length c0_0, .int .i64 a0_1, .int .i64 a0_2] 54 (0, 0)) (by (with_reducible repeat (first | refine blk_drewN ?_ _ | refine blk_drew ?_ | refine blk_alloc ?_ _)); exact BK111.out) hb); have n1_ := Aside0.mk (below_step (by repeat (first | (with_reducible first | exact HB.out | apply below_alloc | apply pw_below_drewN | apply below_drew1 | refine below_set ?_ GE111.out) | exact HB.out)) hb); clear BK111; clear HB; have BK111 := n0_; have HB := n1_; clear n0_ n1_; (try clear hb); (try clear hb2); (try clear hk); (try clear hi)))
    go_ret2
    exact ⟨by first | rfl | (simp [errW_none, errW_some] <;> rfl) | (simp [*, errW_none, errW_some] <;> rfl), by repeat (first | (with_reducible first | exact HB.out | apply below_alloc | apply pw_below_drewN | apply below_drew1 | refine below_set ?_ GE111.out) | exact HB.out)⟩
  · rw [if_neg c4] at H
    have c4b0 : decide (0 < a1) = false := decide_eq_false c4
    clear c4
    replace H := Option.bind_eq_some_iff.mp H
    obtain ⟨⟨t114, t115⟩, A90, H⟩ := H
    replace H : (some (t114, (t115 == 0))) = some (r1, r2) := H
    have A9 := Aside0.mk A90
    clear A90
    simp only [Option.some.injEq, Prod.mk.injEq] at H
    obtain ⟨rfl, rfl⟩ := H
    go_enter Try.func27, Try.ntmps27
    go_wp2_with (first | ((with_reducible refine gate_dst (N := 3) rfl ?_); refine box_event ?hg (N := 3) ?hd (cs := #[.slice A0_0 l0_0.length c0_0, .int .i64 a0_1, .int .i64 a0_2]) (t := 54) ?hr ?_; (case hd => rfl); (case hg => rfl); (case hr => first | (go_simp; done) | (go_simp; rfl)); intro gb111 hg w10 hbox hb; have n0_ := Aside0.mk (below_step (by repeat (first | (with_reducible first | exact HB.out | apply below_alloc | apply pw_below_drewN | apply below_drew1) | exact HB.out)) hb); have n1_ := Aside0.mk (hbox); have n2_ := Aside0.mk ((by rw [hg]; exact (below_size (by repeat (first | (with_reducible first | exact HB.out | apply below_alloc | apply pw_below_drewN | apply below_drew1) | exact HB.out))) : w.heap.size ≤ gb111)); have n3_ := Aside0.mk ((by rw [hg]; exact (below_size (by repeat (first | (with_reducible first | exact HB.out | apply below_alloc | apply pw_below_drewN | apply below_drew1) | exact HB.out))) : w.heap.size ≤ gb111)); clear HB; have HB := n0_; have BK111 := n1_; have GW111 := n2_; have GE111 := n3_; clear n0_ n1_ n2_ n3_; clear hb hbox hg; have hcz11_0 : w10.cell? ⟨gb111, 0, none⟩ = some (.slice A0_0 l0_0.length c0_0) := (blk_cell BK111.out 0).trans rfl; have hcz11_1 : w10.cell? ⟨gb111, 1, none⟩ = some (.int .i64 a0_1) := (blk_cell BK111.out 1).trans rfl; have hcz11_2 : w10.cell? ⟨gb111, 2, none⟩ = some (.int .i64 a0_2) := (blk_cell BK111.out 2).trans rfl; have hfz11_0 := blk_frozen BK111.out 0; have hfz11_1 := blk_frozen BK111.out 1; have hfz11_2 := blk_frozen BK111.out 2) | ((with_reducible refine gate_callee (f := 33) rfl ?_); refine goesL_ (some 25) rfl rfl Try.func33 (by kernel_rfl) rfl #[.slice A0_0 l0_0.length c0_0, .int .i64 a1, .int .i64 a2, .int .i64 a0_1] rfl (by (try simp only [List.map_toArray, List.map_cons, List.map_nil]); first | done | rfl | (simp only [List.length_drop, List.length_take]; rfl)) ?_; (with_reducible refine (demerit_Line.calls k _ _ l0_0 a1 a2 a0_1 t114 t115 _ ?side1 ?side2 A9.out).mono ?_); (case side1 => repeat (first | exact (Kd.C_below HR0_0.out HB.out) | (with_reducible refine Kd.C_alloc ?_ _) | (with_reducible refine Kd.C_drewN ?_ _) | (with_reducible refine Kd.C_drew ?_))); (case side2 => exact HC0_0.out); rintro e w12 ⟨rfl, hb⟩; refine ⟨_, rfl, ?_⟩; have n0_ := Aside0.mk (blk_below (g := gb111) (o := .cells #[.slice A0_0 l0_0.length c0_0, .int .i64 a0_1, .int .i64 a0_2] 54 (0, 0)) (by (with_reducible repeat (first | refine blk_drewN ?_ _ | refine blk_drew ?_ | refine blk_alloc ?_ _)); exact BK111.out) hb); have n1_ := Aside0.mk (below_step (by repeat (first | (with_reducible first | exact HB.out | apply below_alloc | apply pw_below_drewN | apply below_drew1 | refine below_set ?_ GE111.out) | exact HB.out)) hb); clear BK111; clear HB; have BK111 := n0_; have HB := n1_; clear n0_ n1_; (try clear hb); (try clear hb2); (try clear hk); (try clear hi)))
    go_ret2
    exact ⟨by first | rfl | (simp [errW_none, errW_some] <;> rfl) | (simp [*, errW_none, errW_some] <;> rfl), by repeat (first | (with_reducible first | exact HB.out | apply below_alloc | apply pw_below_drewN | apply below_drew1 | refine below_set ?_ GE111.out) | exact HB.out)⟩

/-! ### certificate_Make: function 11, by hand -/
/-! ### a region that draws, within a round -/
section
variable {F : Fence} {n : Nat} {P : Program} {ops : Array Oper} {Q : Exit → Act → World → Prop} {md : Region.Mode}
theorem Oper.wpIn_inRound (r : Nat) {o : Oper} {a : Act} {w : World} {K K' : Act → World → Prop} (hro : F.round = none) (hd : ∀ c, o.op ≠ .defer c) (hk : ∀ a w, K a w → K' a w) (h : o.wpIn F n P a w K Q) : o.wpIn (F.inRound r) n P a w K' Q := by
  unfold Oper.wpIn at *
  refine ⟨h.1, ?_⟩
  have hh := h.2
  rw [Oper.semAt_plain F _ _ hd] at hh
  rw [Oper.semAt_plain (F.inRound r) _ _ hd]
  generalize (execOp a.eval o).run P w = q at *
  cases q with
  | ok x w' =>
    cases x <;> simp only [Oper.uponIn] at hh ⊢ <;>
      first
        | exact hk _ _ hh
        | exact ⟨hh.1, CallsIn.mono (F := F) hh.2 (fun e w'' he => by cases e <;> first | exact hk _ _ he | exact he)⟩
        | exact ⟨hh.1, RowsIn.mono hh.2 (fun _ _ he => hk _ _ he)⟩
        | exact ⟨hh.1, RoundIn.mono hh.2 (fun e w'' he => by cases e <;> first | exact hk _ _ he | exact he)⟩
  | halt x w' => cases x <;> simp only [Oper.uponIn] at hh ⊢ <;> exact hh
theorem wpAnyIn_inRound (r : Nat) (hro : F.round = none) (hd : ∀ (i : Nat) o, ops[i]? = some o → ∀ c, o.op ≠ .defer c) : ∀ (fuel : Nat) (listed : Array Bool) (a : Act) (w : World), wpAnyIn F n P md ops Q fuel listed a w → wpAnyIn (F.inRound r) n P md ops Q fuel listed a w := by
  intro fuel
  induction fuel with
  | zero => intro listed a w h; exact h
  | succ fuel ih =>
    intro listed a w h
    refine ⟨h.1, fun i hi => ?_⟩
    have h2 := h.2 i hi
    unfold wpOpIn at *
    cases ho : ops[i]? with
    | none => rw [ho] at h2; exact ih _ _ _ h2
    | some o =>
      rw [ho] at h2
      dsimp only at h2 ⊢
      split
      · rename_i hw
        rw [if_pos hw] at h2
        exact Oper.wpIn_inRound r hro (hd i o ho) (fun a w => ih _ a w) h2
      · rename_i hw
        rw [if_neg hw] at h2
        exact ⟨h2.1, ih _ _ _ h2.2⟩
def noDefer (ops : List Oper) : Bool := ops.all fun o => match o.op with | .defer _ => false | _ => true
theorem noDefer_spec {l : List Oper} (h : noDefer l = true) (i : Nat) (o : Oper) (ho : l.toArray[i]? = some o) (c : Call) : o.op ≠ .defer c := fun e => by
  have h1 := List.all_eq_true.1 h o (List.mem_of_getElem? (by simpa using ho))
  rw [e] at h1
  cases h1
/-- A region that draws and only reads, in a round: one walk in the text's order. -/
theorem region_quiet_round (r : Nat) {id : Nat} {a : Act} {w : World} {l : List Oper} (hro : F.round = none) (hm : P.follows .mixedOrders = true) (hB : Region.lexB .any l.toArray = true) (hd : noDefer l = true)
    (h : wpQuietIn F n P l.toArray (fun w' => ∃ n, w' = w.drewN n) (fun a' => ∀ w', (∃ n, w' = w.drewN n) → Q .normal a' w') l a) : (Code.region id l.toArray true).wpIn (F.inRound r) n P Q a w := by
  refine wpIn_region_any hm (wpAnyIn_inRound r hro (noDefer_spec hd) _ _ _ _ ?_)
  simp only [Region.lexB, Bool.and_eq_true] at hB
  refine wpAnyIn_of_quiet (C := fun w' => ∃ n, w' = w.drewN n) (Q := fun a' => ∀ w', (∃ n, w' = w.drewN n) → Q .normal a' w') hro (fun _ w' hw' h => h w' hw') _ _ _ _ ⟨1, rfl⟩ ?_
  have := wpAnyQIn_lex (F := F) (n := n) (C := fun w' => ∃ n, w' = w.drewN n) (md := .any) hB.1 l 0 (Array.replicate l.toArray.size false) a (by simp) (by simpa using hB.2) h
  simpa using this
end
/-- A number, brought into a row's range. -/
def clp (N : Nat) (j : Int) : Int := if 0 ≤ j ∧ j ≤ (N : Int) then j else 0
theorem clp_in {N : Nat} {j : Int} (h0 : 0 ≤ j) (h1 : j ≤ (N : Int)) : clp N j = j := if_pos ⟨h0, h1⟩
theorem clp_range (N : Nat) (j : Int) : 0 ≤ clp N j ∧ clp N j ≤ (N : Int) := by unfold clp; split <;> omega
/-- What an iterator's caller keeps: all below a number, and the iterator's two boxes. -/
def KB (base p : Nat) (W W' : World) : Prop := Below base W W' ∧ W'.heap[p]? = W.heap[p]? ∧ W'.heap[p + 1]? = W.heap[p + 1]?
theorem KB.refl (base p : Nat) (W : World) : KB base p W W := ⟨Below.refl _ _, rfl, rfl⟩
theorem KB.trans {base p : Nat} {A B C : World} (h : KB base p A B) (k : KB base p B C) : KB base p A C := ⟨h.1.trans k.1, k.2.1.trans h.2.1, k.2.2.trans h.2.2⟩
theorem KB.of_below {base p : Nat} {A B : World} (h : Below A.heap.size A B) (hb : base ≤ A.heap.size) (hp : p + 1 < A.heap.size) : KB base p A B := ⟨h.mono hb, h.block _ (by omega), h.block _ hp⟩
theorem grown_of_below {A B : World} (h : Below A.heap.size A B) : A.grownBy B none := ⟨h.os, h.tape, h.output, h.size, fun k hk _ => h.block k hk⟩
theorem cell_blk {W W' : World} {a : Addr} {v : Value} (h : W.cell? a = some v) (e : W'.heap[a.block]? = W.heap[a.block]?) : W'.cell? a = some v := (World.cell?_of_block e).trans h
section
open Go.Shelf
attribute [local go_sem] Oper.semAt_some
/-- What from yields in m rounds: the ends of the legal lines, with their demerits. -/
def certificate_problem_from.l (k : Nat) (xs : List S50) (wd ind i : Int) : Nat → Option (List (Int × Int))
  | 0 => some []
  | m + 1 => (certificate_problem_from.l k xs wd ind i m).bind fun l => (certificate_problem_line.f k xs wd ind i (i + 1 + (m : Int))).bind fun r => some (if r.2 = true then l ++ [(i + 1 + (m : Int), r.1)] else l)
theorem from_prefix {k : Nat} {xs : List S50} {wd ind i : Int} {m : Nat} {ys : List (Int × Int)} (h : certificate_problem_from.l k xs wd ind i m = some ys) : ∀ j, j ≤ m → ∃ zs, certificate_problem_from.l k xs wd ind i j = some zs ∧ zs.length ≤ j := by
  induction m generalizing ys with
  | zero =>
    intro j hj
    obtain rfl : j = 0 := by omega
    exact ⟨[], rfl, Nat.le_refl _⟩
  | succ m ih =>
    simp only [certificate_problem_from.l] at h
    obtain ⟨l, hl, h⟩ := Option.bind_eq_some_iff.1 h
    obtain ⟨r, hr, h⟩ := Option.bind_eq_some_iff.1 h
    intro j hj
    by_cases e : j = m + 1
    · subst e
      refine ⟨ys, by simp only [certificate_problem_from.l]; rw [hl, Option.bind_some, hr, Option.bind_some]; exact h, ?_⟩
      obtain ⟨zs, g1, g2⟩ := ih hl m (Nat.le_refl _)
      rw [hl] at g1
      obtain rfl := Option.some.inj g1
      obtain rfl := Option.some.inj h
      split
      · rw [List.length_append, List.length_singleton]; omega
      · omega
    · exact ih hl j (by omega)
set_option maxHeartbeats 1000000 in
theorem from_in (n : Nat) (a : Option Addr) (len cap : Nat) (wd ind i : Int) (w : World) :
    CallsIn Fence.wide n Try.prog 25 #[.agg #[.slice a len cap, .int .i64 wd, .int .i64 ind], .int .i64 i] w fun e w' => e = .returned (.func (.func 38) #[] #[.pointer (some ⟨w.heap.size + 1, 0, none⟩), .pointer (some ⟨w.heap.size, 0, none⟩)]) ∧ w' = (w.alloc (.cells #[.slice a len cap, .int .i64 wd, .int .i64 ind] 54)).alloc (.cells #[.int .i64 i] 3) := by
  refine callsIn_of_wp Try.func25 rfl trivial ?_ rfl
  simp only [Try.ntmps25, List.size_toArray, List.length_cons, List.length_nil, Nat.reduceAdd, Nat.reduceSub, Array.replicate_succ, Array.replicate_zero, List.push_toArray, List.append_toArray, List.nil_append, List.cons_append]
  gi_wp2
  go_ret
  exact ⟨rfl, rfl⟩

set_option maxRecDepth 100000 in
set_option maxHeartbeats 4000000 in
theorem from1_in (n : Nat) (hn : 1 ≤ n) (l p base : Nat) (w0 : World) (hbase : w0.heap.size = base) (hp : base ≤ p) (A : Option Addr) (c : Nat) (xs : List S50) (wd ind : Int) (i : Nat) (hi : i < xs.length) (hc : xs.length ≤ c) (hlen : xs.length ≤ 1000)
    (K : Nat) (ys : List (Int × Int)) (hys : certificate_problem_from.l K xs wd ind (i : Int) (xs.length - i) = some ys) (hr : Kd.C k50 w0 A xs.length xs)
    (J Jx : List (Int × Int) → World → Prop)
    (W : World) (hB : Below base w0 W) (hpW : p + 1 < W.heap.size) (hJ : AbidesFrom W.heap.size J)
    (hY : ∀ pre x W, J pre W → pre.length < xs.length - i → YieldAt Fence.wide (n - 1) Try.prog l #[.int .i64 (clp xs.length x.1), .int .i64 x.2] W fun e W' =>
      (e = .returned (.bool true) ∧ J (pre ++ [x]) W' ∧ KB base p W W') ∨ (e = .returned (.bool false) ∧ Jx (pre ++ [x]) W'))
    (hp0 : W.cell? ⟨p, 0, none⟩ = some (.slice A xs.length c)) (hp1 : W.cell? ⟨p, 1, none⟩ = some (.int .i64 wd)) (hp2 : W.cell? ⟨p, 2, none⟩ = some (.int .i64 ind)) (hi0 : W.cell? ⟨p + 1, 0, none⟩ = some (.int .i64 i))
    (h0 : J [] W) :
    CallsIn Fence.wide n Try.prog 38 #[.func (.yield l) #[] #[], .pointer (some ⟨p + 1, 0, none⟩), .pointer (some ⟨p, 0, none⟩)] W fun e W' => (∃ v, e = .returned v) ∧
      ((∃ zs, zs = ys ∧ J zs W') ∨ (∃ pre, (∃ k, k ≤ xs.length - i ∧ certificate_problem_from.l K xs wd ind (i : Int) k = some pre) ∧ Jx pre W')) := by
  refine callsIn_of_wp Try.func38 rfl trivial ?_ rfl
  simp only [Try.ntmps38, List.size_toArray, List.length_cons, List.length_nil, Nat.reduceAdd, Nat.reduceSub, Array.replicate_succ, Array.replicate_zero, List.push_toArray, List.append_toArray, List.nil_append, List.cons_append]
  have HYS := Aside0.mk hys
  have HYY := Aside0.mk hY
  have HJJ := Aside0.mk hJ
  have HBS := Aside0.mk hbase
  have HR := Aside0.mk hr
  have HB := Aside0.mk hB
  have HPW := Aside0.mk hpW
  have HP := Aside0.mk hp
  have HC := Aside0.mk hc
  have HLEN := Aside0.mk hlen
  clear hys hY hJ hbase hr hB hpW hp hc
  gi_wp2
  gi_loopw [4] (fun s wr => ∃ (k : Nat) (pre : List (Int × Int)), k ≤ xs.length - i ∧ s = .int .i64 ((i : Int) + 1 + k) ∧ Aside0 (certificate_problem_from.l K xs wd ind (i : Int) k = some pre) ∧ Aside0 (J pre wr) ∧ Aside0 (KB base p W wr))
    (fun v _ => xs.length + 1 - (intOf v).toNat)
  case atStart => exact ⟨0, [], Nat.zero_le _, by go_num, ⟨rfl⟩, ⟨h0⟩, ⟨KB.refl _ _ _⟩⟩
  case round =>
    obtain ⟨k, pre, hk, rfl, HPRE, HJS, HK⟩ := hrel
    have q0 := cell_blk hp0 HK.out.2.1
    have q1 := cell_blk hp1 HK.out.2.1
    have q2 := cell_blk hp2 HK.out.2.1
    have qi := cell_blk hi0 HK.out.2.2
    clear hp0 hp1 hp2 hi0 h0
    by_cases hlt : k < xs.length - i
    · have e1 : ((i : Int) + 1 + k ≤ (xs.length : Int)) = True := eq_true (by omega)
      have e1' : decide ((i : Int) + 1 + k ≤ (xs.length : Int)) = true := decide_eq_true (by omega)
      obtain ⟨zs, g1, g1l⟩ := from_prefix HYS.out (k + 1) (by omega)
      simp only [certificate_problem_from.l] at g1
      rw [HPRE.out, Option.bind_some] at g1
      obtain ⟨⟨d, ok⟩, g2, g1⟩ := Option.bind_eq_some_iff.1 g1
      have HD := Aside0.mk g2
      have HZ := Aside0.mk g1
      have HPL : Aside0 (pre.length ≤ k) := ⟨by
        obtain ⟨zs', a1, a2⟩ := from_prefix HYS.out k (by omega)
        rw [HPRE.out] at a1
        obtain rfl := Option.some.inj a1
        exact a2⟩
      clear g1 g2 g1l
      have arg1 : wrap64 ((i : Int) + 1 + k + 1) = (i : Int) + 1 + ((k + 1 : Nat) : Int) := by have := HLEN.out; unfold wrap64; omega
      cases ok with
      | false =>
        gi_wp2_with (first | (refine ⟨trivial, ?_⟩; gi_at_call 27; (refine (callsIn_wide.2 (certificate_problem_line.calls K _ _ xs wd ind (i : Int) ((i : Int) + 1 + (k : Int)) d false _ ?s1 ?s2 HD.out)).mono ?_); (case s1 => exact Kd.C_below HR.out (by rw [HBS.out]; exact HB.out.trans HK.out.1)); (case s2 => exact HC.out); rintro e w5 ⟨rfl, hb⟩; (have HK5 := Aside0.mk (HK.out.trans (KB.of_below hb (Nat.le_trans (by rw [← HBS.out]; exact HB.out.size) HK.out.1.size) (Nat.lt_of_lt_of_le HPW.out HK.out.1.size)))); (have HJ5 := Aside0.mk (HJJ.out _ _ _ none HJS.out (grown_of_below hb) (fun r e => by cases e))); clear hb) | (refine ⟨fun _ h_ => absurd h_ (by simp), ?_⟩))
        go_roundw
        case rel => exact ⟨k + 1, pre, by omega, by first | rw [arg1] | go_num, ⟨by simp only [certificate_problem_from.l]; rw [HPRE.out, Option.bind_some, HD.out, Option.bind_some]; rfl⟩, HJ5, HK5⟩
        case measure => simp [intOf]; omega
      | true =>
        gi_wp2_with (first | (refine ⟨trivial, ?_⟩; gi_at_call 27; (refine (callsIn_wide.2 (certificate_problem_line.calls K _ _ xs wd ind (i : Int) ((i : Int) + 1 + (k : Int)) d true _ ?s1 ?s2 HD.out)).mono ?_); (case s1 => exact Kd.C_below HR.out (by rw [HBS.out]; exact HB.out.trans HK.out.1)); (case s2 => exact HC.out); rintro e w5 ⟨rfl, hb⟩; obtain ⟨fn, tmps, assign, body, hy, hR⟩ := HYY.out pre ((i : Int) + 1 + k, d) w5 (HJJ.out _ _ _ none HJS.out (grown_of_below hb) (fun r e => by cases e)) (by have := HPL.out; omega); dsimp only at hy; rw [clp_in (by omega) (by omega)] at hy; (have HK5 := Aside0.mk (HK.out.trans (KB.of_below hb (Nat.le_trans (by rw [← HBS.out]; exact HB.out.size) HK.out.1.size) (Nat.lt_of_lt_of_le HPW.out HK.out.1.size)))); (have HJ5 := Aside0.mk (HJJ.out _ _ _ none HJS.out (grown_of_below hb) (fun r e => by cases e))); clear hb))
        refine hR.mono ?_
        rintro e W6 (⟨rfl, hJ6, hK6⟩ | ⟨rfl, hJx⟩)
        · gi_wp2
          go_roundw
          case rel => exact ⟨k + 1, pre ++ [((i : Int) + 1 + k, d)], by omega, by first | rw [arg1] | go_num, ⟨by simp only [certificate_problem_from.l]; rw [HPRE.out, Option.bind_some, HD.out, Option.bind_some]; rfl⟩, ⟨hJ6⟩, ⟨HK5.out.trans hK6⟩⟩
          case measure => simp [intOf]; omega
        · gi_wp2
          refine bodyPost_ret (results_none rfl _ _ _) rfl ?_
          exact ⟨⟨_, rfl⟩, .inr ⟨_, ⟨k + 1, by omega, by simp only [certificate_problem_from.l]; rw [HPRE.out, Option.bind_some, HD.out, Option.bind_some]; rfl⟩, hJx⟩⟩
    · obtain rfl : k = xs.length - i := by omega
      have e1' : decide ((i : Int) + 1 + ((xs.length - i : Nat) : Int) ≤ (xs.length : Int)) = false := decide_eq_false (by omega)
      have e2 : ((i : Int) + 1 + ((xs.length - i : Nat) : Int) ≤ (xs.length : Int)) = False := eq_false (by omega)
      gi_wp2
      go_end0
      have h1 := HYS.out
      rw [HPRE.out] at h1
      exact ⟨⟨_, rfl⟩, .inl ⟨pre, Option.some.inj h1, HJS.out⟩⟩
end
section
open Go.Shelf
attribute [local go_sem] Oper.semAt_some
theorem from_stops (n : Nat) (hn : 1 ≤ n) (p base : Nat) (w0 : World) (hbase : w0.heap.size = base) (hp : base ≤ p) (A : Option Addr) (c : Nat) (xs : List S50) (wd ind : Int) (i : Nat) (hi : i < xs.length) (hc : xs.length ≤ c) (hlen : xs.length ≤ 1000)
    (K : Nat) (ys : List (Int × Int)) (hys : certificate_problem_from.l K xs wd ind (i : Int) (xs.length - i) = some ys) (hr : Kd.C k50 w0 A xs.length xs)
    (w : World) (hB : Below base w0 w) (hp0 : w.heap[p]? = some (.cells #[.slice A xs.length c, .int .i64 wd, .int .i64 ind] 54 (0, 0))) (hi0 : w.heap[p + 1]? = some (.cells #[.int .i64 i] 3 (0, 0))) :
    SeqStopsK Fence.wide n Try.prog 38 #[.pointer (some ⟨p + 1, 0, none⟩), .pointer (some ⟨p, 0, none⟩)] (fun x : Int × Int => #[Value.int .i64 (clp xs.length x.1), Value.int .i64 x.2]) (KB base p)
      (fun zs => zs = ys) (fun pre => ∃ k, k ≤ xs.length - i ∧ certificate_problem_from.l K xs wd ind (i : Int) k = some pre) (xs.length - i) w := fun l J Jx W hW hJ _ hY h0 => by
  have q0 := blk_below hp0 hW
  have q1 := blk_below hi0 hW
  exact from1_in n hn l p base w0 hbase hp A c xs wd ind i hi hc hlen K ys hys hr J Jx W (hB.trans (hW.mono (by rw [← hbase]; exact hB.size))) (blk_lt q1) hJ hY ((blk_cell q0 0).trans rfl) ((blk_cell q0 1).trans rfl) ((blk_cell q0 2).trans rfl) ((blk_cell q1 0).trans rfl) h0
theorem kbK_t {base p : Nat} {A B C : World} (h : KB base p A B) (k : KB base p B C) : KB base p A C := h.trans k
theorem kbK_b {base p : Nat} {w : World} (hb : base ≤ w.heap.size) (hp : p + 1 < w.heap.size) (W : World) (l : Nat) (o o' : Obj) (hl : w.heap.size ≤ l) (h : W.heap[l]? = some o) (h1 : o.isCells = false) (h2 : o.isWalk = false) : KB base p W (W.putObj l o') :=
  ⟨belowK_b hb W l o o' hl h h1 h2, World.putObj_heap_other (by omega), World.putObj_heap_other (by omega)⟩

/-! ### the marks that ranges over a function leave -/
def mks (Ds : List Nat) : List Deferred := Ds.map fun D => { target := .collected D, args := #[] }
/-- The marks' blocks are open. -/
def Opn (w : World) (Ds : List Nat) : Prop := Ds.Nodup ∧ ∀ D ∈ Ds, w.heap[D]? = some (.deferred (some []))
/-- What shutting the marks' blocks keeps. -/
def Shutd (w W : World) (Ds : List Nat) : Prop := W.os = w.os ∧ W.tape = w.tape ∧ W.output = w.output ∧ W.heap.size = w.heap.size ∧ ∀ k, k ∉ Ds → W.heap[k]? = w.heap[k]?
theorem leaves_mks {F : Fence} {n : Nat} {P : Program} {fn : Func} {tmps : Array Value} {R : Ending → World → Prop} : ∀ (Ds : List Nat) (w : World), Opn w Ds → (∀ W, Shutd w W Ds → ∃ v, (results fn tmps).run P W = .ok v W ∧ R (.returned v) W) → LeavesInM F n P fn tmps R (mks Ds) .returning w
  | [], w, _, h => by
    obtain ⟨v, h1, h2⟩ := h w ⟨rfl, rfl, rfl, rfl, fun _ _ => rfl⟩
    exact ⟨v, h1, h2⟩
  | D :: Ds, w, ⟨hn, ho⟩, h => by
    have hD := (List.nodup_cons.1 hn).1
    refine ⟨by simp, .inl ⟨D, _, rfl, run_takeDeferred (ho D List.mem_cons_self), leaves_mks Ds _ ⟨(List.nodup_cons.1 hn).2, fun D' hD' => ?_⟩ (fun W hW => h W ?_)⟩⟩
    · rw [World.putObj_heap_other (fun e => hD (by rw [← e]; exact hD'))]
      exact ho D' (List.mem_cons_of_mem _ hD')
    · obtain ⟨h1, h2, h3, h4, h5⟩ := hW
      exact ⟨h1, h2, h3, by rw [h4, World.putObj_size], fun k hk => by
        rw [h5 k (fun e => hk (List.mem_cons_of_mem _ e)), World.putObj_heap_other (fun e => hk (by rw [e]; exact List.mem_cons_self))]⟩
theorem Shutd.below {w W : World} {Ds : List Nat} {B : Nat} (h : Shutd w W Ds) (hD : ∀ D ∈ Ds, B ≤ D) : Below B w W :=
  ⟨h.1, h.2.1, h.2.2.1, Nat.le_of_eq h.2.2.2.1.symm, fun k hk => h.2.2.2.2 k (fun e => by have := hD k e; omega)⟩
/-- A block of cells is no mark's. -/
theorem Opn.cells {w : World} {Ds : List Nat} (h : Opn w Ds) {g : Nat} {cs : Array Value} {t : TypeId} {f : Nat × Nat} (hg : w.heap[g]? = some (.cells cs t f)) : g ∉ Ds := fun e => by
  have := h.2 g e
  rw [hg] at this
  cases this
theorem Shutd.blk {w W : World} {Ds : List Nat} (h : Shutd w W Ds) (ho : Opn w Ds) {g : Nat} {cs : Array Value} {t : TypeId} {f : Nat × Nat} (hg : w.heap[g]? = some (.cells cs t f)) : W.heap[g]? = some (.cells cs t f) := (h.2.2.2.2 g (ho.cells hg)).trans hg
theorem Opn.nil (w : World) : Opn w [] := ⟨List.nodup_nil, fun _ h => by cases h⟩
theorem Opn.lt {w : World} {Ds : List Nat} (h : Opn w Ds) : ∀ D ∈ Ds, D < w.heap.size := fun D hD => (Array.getElem?_eq_some_iff.1 (h.2 D hD)).1
/-- A new mark. -/
theorem Opn.cons {w W : World} {Ds : List Nat} (h : Opn W Ds) {D : Nat} (hD : W.heap[D]? = some (.deferred (some []))) (hn : D ∉ Ds) : Opn W (D :: Ds) := ⟨List.nodup_cons.2 ⟨hn, h.1⟩, fun D' hD' => by
  rcases List.mem_cons.1 hD' with rfl | h'
  · exact hD
  · exact h.2 D' h'⟩
/-- What is no cells abides. -/
theorem Opn.kept {w W : World} {Ds : List Nat} (h : Opn w Ds) (hk : KeepsOthers w W) : Opn W Ds := ⟨h.1, fun D hD => hk.same D _ (h.2 D hD) rfl⟩
theorem Opn.grown {w W : World} {Ds : List Nat} (h : Opn w Ds) {row : Option Nat} (hg : w.grownBy W row) (hr : ∀ r, row = some r → r ∉ Ds) : Opn W Ds := ⟨h.1, fun D hD => (hg.block D (h.lt D hD) (fun e => hr D e.symm hD)).trans (h.2 D hD)⟩
theorem opn_ownFrom {β : Type} (B : Nat) (Ds : List Nat) (hB : ∀ D ∈ Ds, D < B) : OwnFrom B (fun (_ : β) W => Opn W Ds) := fun _ X Y row hs hg hr => hs.grown hg (fun r e hD => by have := (hr r e).1; have := hB r hD; omega)
theorem blk_own {β : Type} (B g : Nat) (cs : β → Array Value) (t : TypeId) : OwnFrom B (fun s W => W.heap[g]? = some (.cells (cs s) t (0, 0))) := fun s X Y row hs hg hr => (hg.block g (blk_lt hs) (fun e => by
  obtain ⟨_, o, ho, hc⟩ := hr g e.symm
  rw [hs] at ho
  cases ho
  cases hc)).trans hs
/-! ### a row of whole numbers in a block of its own -/
def mkRow (o : List Int) : Array Value := (o.map (Value.int .i64)).toArray
theorem mkRow_size (o : List Int) : (mkRow o).size = o.length := by simp [mkRow]
theorem mkRow_get (o : List Int) (j : Nat) (h : j < o.length) : (mkRow o)[j]? = some (.int .i64 (rd o (j : Int))) := by simp [mkRow, rd, h]
theorem mkRow_set (o : List Int) (j : Nat) (x : Int) : (mkRow o).setIfInBounds j (.int .i64 x) = mkRow (o.set j x) := by
  unfold mkRow
  rw [List.map_set]
  apply Array.ext'
  simp
theorem madeRow (m : Nat) : madeCells (Value.int .i64 0).cells (m * 1) = mkRow (List.replicate m 0) := by
  apply Array.ext'
  have h1 : (Value.int .i64 0).cells = #[Value.int .i64 0] := rfl
  rw [h1]
  simp only [mkRow, madeCells, Nat.mul_one, Array.toList_map, Array.toList_range, List.map_replicate]
  refine List.ext_getElem (by simp) (fun j h1 h2 => ?_)
  simp [Nat.mod_one]
theorem row_R {W : World} {base g : Nat} {o : List Int} {ok : Nat → Prop} (h : W.heap[g]? = some (.cells (mkRow o) 3 (0, 0))) (hb : base ≤ g) (hok : ok g) (hl : o.length ≤ 9223372036854775807) : Kd.R (Kd.int .i64) 3 W base ok (.slice (some ⟨g, 0, none⟩) o.length o.length) o := by
  refine Kd.R_of_own ⟨by simp [encs], .inr ⟨g, o.length, mkRow o, rfl, hb, h, Nat.le_refl _, by simpa [maxLen] using hl, by rw [mkRow_size]; simp, ?_⟩⟩ (fun k e => by simp [Value.ownBlock] at e; subst e; exact hok)
  simp only [mkRow, encs, Nat.mul_one]
  exact List.take_of_length_le (by simp)
/-- What Make's loop keeps in memory. -/
structure MkI (w : World) (A0 : Option Addr) (c0 : Nat) (l0 : List S50) (a1 a2 : Int) (g : Nat) (W : World) (o : List Int) (b10 : Nat) (i : Int) (Ds : List Nat) : Prop where
  i8 : W.heap[w.heap.size]? = some (.cells #[.slice A0 l0.length c0, .int .i64 a1, .int .i64 a2] 54 (0, 0))
  row : W.heap[g]? = some (.cells (mkRow o) 3 (0, 0))
  len : o.length = l0.length + 1
  i9 : W.heap[g + 1]? = some (.cells #[.slice (some ⟨g, 0, none⟩) (l0.length + 1) (l0.length + 1)] 26 (0, 0))
  i10 : W.heap[b10]? = some (.cells #[.int .i64 i] 3 (0, 0))
  lt10 : g + 1 < b10
  lt8 : w.heap.size < g
  below : Below w.heap.size w W
  opn : Opn W Ds
  low : ∀ D ∈ Ds, w.heap.size ≤ D
/-- A loop with what holds at its head, numbered. -/
theorem wpIn_loop_g {F : Fence} {n : Nat} {P : Program} {c : Code} {Q : Exit → Act → World → Prop} {a : Act} {w : World} (I : Nat → Act → World → Prop) (m : Nat) (h0 : I m a w)
    (hr : ∀ m a w, I m a w → c.wpIn F n P (Exit.then (fun a' w' => ∃ m', m' < m ∧ I m' a' w') Q) a w) : (Code.loop c).wpIn F n P Q a w := by
  refine wpIn_loop_rounds (m + 1) ?_
  have key : ∀ N m a w, m < N → I m a w → Code.roundsIn F n P c Q N a w := by
    intro N
    induction N with
    | zero => intro m a w hm; omega
    | succ N ih =>
      intro m a w hm hI
      rw [roundsIn_succ]
      refine wpIn_mono (hr m a w hI) (fun e a' w' h => ?_)
      cases e with
      | normal =>
        obtain ⟨m', h1, h2⟩ := h
        exact ih m' a' w' (by omega) h2
      | exit id => exact h
      | goto l => exact h
      | ret => exact h
      | panic ch => exact h
      | outgrown => exact h
  exact key (m + 1) m a w (Nat.lt_succ_self m) h0
/-- One end in Make's inner loop. -/
def certificate_Make.s (i : Int) (s : List Int × Bool) (x : Int × Int) : List Int × Bool := if s.2 = false ∨ wrap64 (x.2 + rd s.1 x.1) < rd s.1 i then (s.1.set i.toNat (wrap64 (x.2 + rd s.1 x.1)), true) else s
/-- The same where the end is brought into the row's range. -/
def certificate_Make.c (N : Nat) (i : Int) (s : List Int × Bool) (x : Int × Int) : List Int × Bool := certificate_Make.s i s (clp N x.1, x.2)
theorem make_c_len (N : Nat) (i : Int) (s : List Int × Bool) (x : Int × Int) : (certificate_Make.c N i s x).1.length = s.1.length := by
  unfold certificate_Make.c certificate_Make.s
  split
  · exact List.length_set
  · rfl
theorem make_fold_len (N : Nat) (i : Int) : ∀ (ys : List (Int × Int)) (s : List Int × Bool), (ys.foldl (certificate_Make.c N i) s).1.length = s.1.length
  | [], _ => rfl
  | y :: ys, s => by rw [List.foldl_cons, make_fold_len N i ys, make_c_len]
theorem make_fold (N : Nat) (i : Int) : ∀ (ys : List (Int × Int)) (s : List Int × Bool), (∀ y ∈ ys, 0 ≤ y.1 ∧ y.1 ≤ (N : Int)) → ys.foldl (certificate_Make.c N i) s = ys.foldl (certificate_Make.s i) s
  | [], _, _ => rfl
  | y :: ys, s, h => by
    have h1 := h y List.mem_cons_self
    rw [List.foldl_cons, List.foldl_cons, make_fold N i ys _ (fun z hz => h z (List.mem_cons_of_mem _ hz))]
    unfold certificate_Make.c
    rw [clp_in h1.1 h1.2]
theorem from_mem {k : Nat} {xs : List S50} {wd ind i : Int} {m : Nat} {ys : List (Int × Int)} (h : certificate_problem_from.l k xs wd ind i m = some ys) : ∀ y ∈ ys, i + 1 ≤ y.1 ∧ y.1 ≤ i + (m : Int) := by
  induction m generalizing ys with
  | zero =>
    obtain rfl := Option.some.inj h
    intro y hy
    cases hy
  | succ m ih =>
    simp only [certificate_problem_from.l] at h
    obtain ⟨l, hl, h⟩ := Option.bind_eq_some_iff.1 h
    obtain ⟨r, hr, h⟩ := Option.bind_eq_some_iff.1 h
    obtain rfl := Option.some.inj h
    have ih := ih hl
    intro y hy
    split at hy
    · rcases List.mem_append.1 hy with hy | hy
      · have := ih y hy
        omega
      · obtain rfl := List.mem_singleton.1 hy
        dsimp only
        omega
    · have := ih y hy
      omega
/-- Make's loop, from i = m - 1 on down. -/
def certificate_Make.l (k : Nat) (xs : List S50) (wd ind : Int) : Nat → List Int → Option (List Int)
  | 0, o => some o
  | m + 1, o => (certificate_problem_from.l k xs wd ind (m : Int) (xs.length - m)).bind fun ys => certificate_Make.l k xs wd ind m (ys.foldl (certificate_Make.s (m : Int)) (o, false)).1
theorem make_stored {W : World} {b g b10 b11 p : Nat} {c8 c9 c10 : Array Value} {q' : List Int} {fd : Bool} {Ds : List Nat} {w : World} {m : Nat} {v : Int} {B : Nat}
    (w8 : W.heap[b]? = some (.cells c8 54 (0, 0))) (wR : W.heap[g]? = some (.cells (mkRow q') 3 (0, 0))) (w9 : W.heap[g + 1]? = some (.cells c9 26 (0, 0))) (w10 : W.heap[b10]? = some (.cells c10 3 (0, 0))) (w11 : W.heap[b11]? = some (.cells #[.bool fd] 4 (0, 0))) (wO : Opn W Ds) (wB : Below b w W)
    (l8 : b < g) (l10 : g + 1 < b10) (l11 : b10 < b11) (lp : b11 < p) :
    KeepsFrom B W ((W.setCell ⟨g, m, none⟩ (.int .i64 v)).setCell ⟨b11, 0, none⟩ (.bool true)) ∧ KB b p W ((W.setCell ⟨g, m, none⟩ (.int .i64 v)).setCell ⟨b11, 0, none⟩ (.bool true)) ∧
    ((((((((W.setCell ⟨g, m, none⟩ (.int .i64 v)).setCell ⟨b11, 0, none⟩ (.bool true)).heap[b]? = some (.cells c8 54 (0, 0)) ∧ ((W.setCell ⟨g, m, none⟩ (.int .i64 v)).setCell ⟨b11, 0, none⟩ (.bool true)).heap[g]? = some (.cells (mkRow (q'.set m v)) 3 (0, 0))) ∧ ((W.setCell ⟨g, m, none⟩ (.int .i64 v)).setCell ⟨b11, 0, none⟩ (.bool true)).heap[g + 1]? = some (.cells c9 26 (0, 0))) ∧ ((W.setCell ⟨g, m, none⟩ (.int .i64 v)).setCell ⟨b11, 0, none⟩ (.bool true)).heap[b10]? = some (.cells c10 3 (0, 0))) ∧ ((W.setCell ⟨g, m, none⟩ (.int .i64 v)).setCell ⟨b11, 0, none⟩ (.bool true)).heap[b11]? = some (.cells #[.bool true] 4 (0, 0))) ∧ Opn ((W.setCell ⟨g, m, none⟩ (.int .i64 v)).setCell ⟨b11, 0, none⟩ (.bool true)) Ds) ∧ Below b w ((W.setCell ⟨g, m, none⟩ (.int .i64 v)).setCell ⟨b11, 0, none⟩ (.bool true))) := by
  have hk := (KeepsOthers.setCell W ⟨g, m, none⟩ (.int .i64 v)).trans (KeepsOthers.setCell _ ⟨b11, 0, none⟩ (.bool true))
  refine ⟨hk.from _, ⟨((Below.refl b W).setCell (p := ⟨g, m, none⟩) (Nat.le_of_lt l8) _).setCell (p := ⟨b11, 0, none⟩) (show b ≤ b11 by omega) _, ?_, ?_⟩,
    ⟨⟨⟨⟨⟨blk_far (blk_far w8 (p := ⟨g, m, none⟩) (show b ≠ g by omega) _) (p := ⟨b11, 0, none⟩) (show b ≠ b11 by omega) _, blk_far (blk_put wR m _ (mkRow_set q' m v)) (p := ⟨b11, 0, none⟩) (show g ≠ b11 by omega) _⟩,
      blk_far (blk_far w9 (p := ⟨g, m, none⟩) (show g + 1 ≠ g by omega) _) (p := ⟨b11, 0, none⟩) (show g + 1 ≠ b11 by omega) _⟩, blk_far (blk_far w10 (p := ⟨g, m, none⟩) (show b10 ≠ g by omega) _) (p := ⟨b11, 0, none⟩) (show b10 ≠ b11 by omega) _⟩,
      blk_put (blk_far w11 (p := ⟨g, m, none⟩) (show b11 ≠ g by omega) _) 0 _ rfl⟩, wO.kept hk⟩, (wB.setCell (p := ⟨g, m, none⟩) (Nat.le_of_lt l8) _).setCell (p := ⟨b11, 0, none⟩) (show b ≤ b11 by omega) _⟩
  · rw [Below.heap_setCell _ _ _ _ (show p ≠ b11 by omega), Below.heap_setCell _ _ _ _ (show p ≠ g by omega)]
  · rw [Below.heap_setCell _ _ _ _ (show p + 1 ≠ b11 by omega), Below.heap_setCell _ _ _ _ (show p + 1 ≠ g by omega)]
def certificate_Make.f (k : Nat) (l0 : List S50) (a1 a2 : Int) : Option (List Int × Int) :=
  (certificate_problem_valid.f k l0 a1 a2).bind fun v => if v = true then (if l0.length ≤ 1000 then (certificate_Make.l k l0 a1 a2 l0.length (List.replicate (l0.length + 1) 0)).bind fun o => some (o, 0) else none) else some ([], 1)
set_option maxRecDepth 100000 in
set_option maxHeartbeats 4000000 in
theorem certificate_Make.calls (k : Nat) (A0 : Option Addr) (c0 : Nat) (l0 : List S50) (a1 a2 : Int) (r1 : List Int) (r2 : Int) (w : World) (hr0 : Kd.C k50 w A0 l0.length l0) (hc0 : l0.length ≤ c0) (h : certificate_Make.f k l0 a1 a2 = some (r1, r2)) :
    Calls Try.prog 11 #[.slice A0 l0.length c0, .int .i64 a1, .int .i64 a2] w fun e w' => ∃ v0_ : Value, e = .returned (.tuple #[v0_, .int .i64 r2]) ∧ Kd.R (Kd.int .i64) 3 w' w.heap.size (fun _ => True) v0_ r1 ∧ Below w.heap.size w w' := by
  have HR := Aside0.mk hr0
  have HC := Aside0.mk hc0
  clear hr0 hc0
  unfold certificate_Make.f at h
  obtain ⟨v, hv, h⟩ := Option.bind_eq_some_iff.1 h
  have HV := Aside0.mk hv
  clear hv
  have hu54 := Try.underlying54
  refine (callsIn_wide (n := 8)).1 ?_
  refine callsIn_of_wp_marks Try.func11 rfl trivial ?_ rfl
  simp only [Try.ntmps11, List.size_toArray, List.length_cons, List.length_nil, Nat.reduceAdd, Nat.reduceSub, Array.replicate_succ, Array.replicate_zero, List.push_toArray, List.append_toArray, List.nil_append, List.cons_append]
  have HB1 := Aside0.mk ((Below.refl w.heap.size w).alloc (Nat.le_refl _) (.cells #[.slice A0 l0.length c0, .int .i64 a1, .int .i64 a2] 54))
  cases v with
  | false =>
    rw [if_neg (by decide)] at h
    simp only [Option.some.injEq, Prod.mk.injEq] at h
    obtain ⟨rfl, rfl⟩ := h
    gi_wp2
    refine wpIn_wide.2 (wp_scope_straight ((wpIn_wide (n := 8)).1 ?_))
    gi_wp2_with (first | (refine ⟨trivial, ?_⟩; gi_at_call 24; (refine (callsIn_wide.2 (certificate_problem_valid.calls k _ _ l0 a1 a2 false _ ?s1 ?s2 HV.out)).mono ?_); (case s1 => exact Kd.C_below HR.out HB1.out); (case s2 => exact HC.out); rintro e w5 ⟨rfl, hb⟩; (have HB2 := Aside0.mk (HB1.out.trans (hb.mono HB1.out.size))); clear hb))
    rw [Exit.noGoto_ret]
    refine leaves_mks (fn := Try.f11) [] _ (Opn.nil _) (fun W hW => ⟨.tuple #[.slice none 0 0, .int .i64 1], by simp [results, Try.f11, go_sem], _, rfl, Kd.R_nil _ _ _ _ _, HB2.out.trans (hW.below (by simp))⟩)
  | true =>
    rw [if_pos rfl] at h
    by_cases hlen : l0.length ≤ 1000
    case neg => rw [if_neg hlen] at h; cases h
    rw [if_pos hlen] at h
    obtain ⟨o, ho, h⟩ := Option.bind_eq_some_iff.1 h
    simp only [Option.some.injEq, Prod.mk.injEq] at h
    obtain ⟨rfl, rfl⟩ := h
    have HO := Aside0.mk ho
    clear ho
    have hmk : ∀ W : World, (Instr.makeSlice 26 (.int .i64 ((l0.length : Int) + 1)) (.int .i64 ((l0.length : Int) + 1))).run Try.prog W = .ok (.slice (some ⟨W.heap.size, 0, none⟩) (l0.length + 1) (l0.length + 1)) (W.alloc (.cells (mkRow (List.replicate (l0.length + 1) 0)) 3)) := fun W => by
      obtain ⟨i0, hi, hz0, hz1, hz2⟩ := info_parts info3
      have h1 := run_make (P := Try.prog) W 26 3 i0 _ Try.underlying26 hi hz0 .i64 .i64 ((l0.length : Int) + 1) ((l0.length : Int) + 1) (by omega) (Int.le_refl _) (by rw [hz2]; omega) (by omega)
      rw [hz1, show ((l0.length : Int) + 1).toNat = l0.length + 1 from by omega, madeRow] at h1
      exact h1
    gi_wp2
    refine wpIn_wide.2 (wp_scope_straight ((wpIn_wide (n := 8)).1 ?_))
    gi_wp2_with (first | (refine ⟨trivial, ?_⟩; gi_at_call 24; (refine (callsIn_wide.2 (certificate_problem_valid.calls k _ _ l0 a1 a2 true _ ?s1 ?s2 HV.out)).mono ?_); (case s1 => exact Kd.C_below HR.out HB1.out); (case s2 => exact HC.out); rintro e w5 ⟨rfl, hb⟩; (have HB2 := Aside0.mk (HB1.out.trans (hb.mono HB1.out.size))); (have HW5 := Aside0.mk hb); (have HG := Aside0.mk (show w.heap.size < w5.heap.size from by have := hb.size; rw [World.size_alloc] at this; omega)); clear hb))
    apply wpIn_label
    gi_wp2
    have hg0 : w.heap.size < w5.heap.size := HG.out
    have hW0 : Aside0 (MkI w A0 c0 l0 a1 a2 w5.heap.size (((w5.alloc (.cells (mkRow (List.replicate (l0.length + 1) 0)) 3)).alloc (.cells #[.slice (some ⟨w5.heap.size, 0, none⟩) (l0.length + 1) (l0.length + 1)] 26)).alloc (.cells #[.int .i64 ((l0.length : Int) - 1)] 3)) (List.replicate (l0.length + 1) 0) (w5.heap.size + 1 + 1) ((l0.length : Int) - 1) []) := ⟨by
      refine ⟨blk_alloc (blk_alloc (blk_alloc (blk_below (blk_new w _) HW5.out) _) _) _, blk_alloc (blk_alloc (blk_new w5 _) _) _, by simp, ?_, ?_, by omega, hg0, ((HB2.out.alloc HB2.out.size _).alloc (Nat.le_trans HB2.out.size (by simp)) _).alloc (Nat.le_trans HB2.out.size (by simp; omega)) _, Opn.nil _, fun D hD => by cases hD⟩
      · have h1 := blk_new (w5.alloc (.cells (mkRow (List.replicate (l0.length + 1) 0)) 3)) (.cells #[.slice (some ⟨w5.heap.size, 0, none⟩) (l0.length + 1) (l0.length + 1)] 26)
        rw [World.size_alloc] at h1
        exact blk_alloc h1 _
      · have h1 := blk_new ((w5.alloc (.cells (mkRow (List.replicate (l0.length + 1) 0)) 3)).alloc (.cells #[.slice (some ⟨w5.heap.size, 0, none⟩) (l0.length + 1) (l0.length + 1)] 26)) (.cells #[.int .i64 ((l0.length : Int) - 1)] 3)
        rw [World.size_alloc, World.size_alloc] at h1
        exact h1⟩
    clear hmk HB2 HW5 hg0 HG
    generalize hgg : w5.heap.size = g at hW0 ⊢
    generalize ((w5.alloc (.cells (mkRow (List.replicate (l0.length + 1) 0)) 3)).alloc (.cells #[.slice (some ⟨g, 0, none⟩) (l0.length + 1) (l0.length + 1)] 26)).alloc (.cells #[.int .i64 ((l0.length : Int) - 1)] 3) = W1 at hW0 ⊢
    clear hgg
    refine wpIn_loop_g (fun m a W => ∃ (q : List Int) (b10 : Nat) (Ds : List Nat) (u11 u29 u30 u31 u32 u33 u34 u35 u58 : Value), m ≤ l0.length ∧ Aside0 (certificate_Make.l k l0 a1 a2 m q = some o) ∧ Aside0 (MkI w A0 c0 l0 a1 a2 g W q b10 ((m : Int) - 1) Ds) ∧ a = { tmps := #[.slice A0 l0.length c0, .int .i64 a1, .int .i64 a2, undef, undef, undef, .slice none 0 0, .int .i64 0, .pointer (some ⟨w.heap.size, 0, none⟩), .pointer (some ⟨g + 1, 0, none⟩), .pointer (some ⟨b10, 0, none⟩), u11, undef, undef, undef, .slice A0 l0.length c0, .int .i64 a1, .int .i64 a2, .agg #[.slice A0 l0.length c0, .int .i64 a1, .int .i64 a2], .agg #[.slice A0 l0.length c0, .int .i64 a1, .int .i64 a2], .bool true, .bool false, .slice A0 l0.length c0, .int .i64 (l0.length : Int), .int .i64 ((l0.length : Int) + 1), .slice (some ⟨g, 0, none⟩) (l0.length + 1) (l0.length + 1), .slice A0 l0.length c0, .int .i64 (l0.length : Int), .int .i64 ((l0.length : Int) - 1), u29, u30, u31, u32, u33, u34, u35, undef, undef, undef, undef, undef, undef, undef, undef, undef, undef, undef, undef, undef, undef, undef, undef, undef, undef, undef, undef, undef, undef, u58, undef], defers := mks Ds }) l0.length ?start ?round
    case start => exact ⟨_, _, [], _, _, _, _, _, _, _, _, _, Nat.le_refl _, HO, hW0, rfl⟩
    case round =>
      clear hW0 HO
      rintro m _ W ⟨q, b10, Ds, u11, u29, u30, u31, u32, u33, u34, u35, u58, hm, HQ, HI, rfl⟩
      cases m with
      | zero =>
        have h10 : W.cell? ⟨b10, 0, none⟩ = some (.int .i64 (-1)) := (blk_cell HI.out.i10 0).trans rfl
        have h9 : W.cell? ⟨g + 1, 0, none⟩ = some (.slice (some ⟨g, 0, none⟩) (l0.length + 1) (l0.length + 1)) := (blk_cell HI.out.i9 0).trans rfl
        gi_wp2
        rw [Exit.noGoto_ret]
        obtain rfl := Option.some.inj HQ.out
        refine leaves_mks (fn := Try.f11) Ds _ HI.out.opn (fun W' hW => ⟨.tuple #[.slice (some ⟨g, 0, none⟩) (l0.length + 1) (l0.length + 1), .int .i64 0], by simp [results, Try.f11, go_sem], _, rfl, ?_, HI.out.below.trans (hW.below HI.out.low)⟩)
        have hr := hW.blk HI.out.opn HI.out.row
        have := row_R (ok := fun _ => True) hr (Nat.le_of_lt HI.out.lt8) trivial (by have := HI.out.len; omega)
        rwa [HI.out.len] at this
      | succ m =>
        have HI' : Aside0 (MkI w A0 c0 l0 a1 a2 g W q b10 (m : Int) Ds) := ⟨by have := HI.out; rwa [show (((m + 1 : Nat) : Int) - 1) = (m : Int) by omega] at this⟩
        clear HI
        have h10 : W.cell? ⟨b10, 0, none⟩ = some (.int .i64 (m : Int)) := (blk_cell HI'.out.i10 0).trans rfl
        have h80 : (W.alloc (.cells #[.bool false] 4)).cell? ⟨w.heap.size, 0, none⟩ = some (.slice A0 l0.length c0) := (blk_cell (blk_alloc HI'.out.i8 _) 0).trans rfl
        have h81 : (W.alloc (.cells #[.bool false] 4)).cell? ⟨w.heap.size, 1, none⟩ = some (.int .i64 a1) := (blk_cell (blk_alloc HI'.out.i8 _) 1).trans rfl
        have h82 : (W.alloc (.cells #[.bool false] 4)).cell? ⟨w.heap.size, 2, none⟩ = some (.int .i64 a2) := (blk_cell (blk_alloc HI'.out.i8 _) 2).trans rfl
        have h10' : (W.alloc (.cells #[.bool false] 4)).cell? ⟨b10, 0, none⟩ = some (.int .i64 (m : Int)) := (blk_cell (blk_alloc HI'.out.i10 _) 0).trans rfl
        have e0 : decide ((m : Int) < 0) = false := decide_eq_false (by omega)
        have e1 : ((m : Int) < 0) = False := eq_false (by omega)
        have z1 := HI'.out.lt8
        have z2 := HI'.out.lt10
        have z3 := blk_lt HI'.out.i10
        have n1 : w.heap.size ≠ W.heap.size := by omega
        have n2 : b10 ≠ W.heap.size := by omega
        clear z1 z2 z3
        gi_wp2_with (first | (refine ⟨trivial, ?_⟩; gi_at_call 25; (refine (from_in 7 _ _ _ _ _ _ _).mono ?_); rintro e w' ⟨rfl, rfl⟩))
        obtain ⟨ys, hys, hrest⟩ := Option.bind_eq_some_iff.1 (show (certificate_problem_from.l k l0 a1 a2 (m : Int) (l0.length - m)).bind _ = some o from HQ.out)
        have HYS := Aside0.mk hys
        have HRE := Aside0.mk hrest
        clear HQ hys hrest h10 h10' h80 h81 h82 e0 e1 n1 n2
        have p11 := blk_alloc (blk_alloc (blk_new W (.cells #[.bool false] 4)) (.cells #[.slice A0 l0.length c0, .int .i64 a1, .int .i64 a2] 54)) (.cells #[.int .i64 (m : Int)] 3)
        have pP := blk_alloc (blk_new (W.alloc (.cells #[.bool false] 4)) (.cells #[.slice A0 l0.length c0, .int .i64 a1, .int .i64 a2] 54)) (.cells #[.int .i64 (m : Int)] 3)
        have pI := blk_new ((W.alloc (.cells #[.bool false] 4)).alloc (.cells #[.slice A0 l0.length c0, .int .i64 a1, .int .i64 a2] 54)) (.cells #[.int .i64 (m : Int)] 3)
        have p8 := blk_alloc (blk_alloc (blk_alloc HI'.out.i8 (.cells #[.bool false] 4)) (.cells #[.slice A0 l0.length c0, .int .i64 a1, .int .i64 a2] 54)) (.cells #[.int .i64 (m : Int)] 3)
        have pR := blk_alloc (blk_alloc (blk_alloc HI'.out.row (.cells #[.bool false] 4)) (.cells #[.slice A0 l0.length c0, .int .i64 a1, .int .i64 a2] 54)) (.cells #[.int .i64 (m : Int)] 3)
        have p9 := blk_alloc (blk_alloc (blk_alloc HI'.out.i9 (.cells #[.bool false] 4)) (.cells #[.slice A0 l0.length c0, .int .i64 a1, .int .i64 a2] 54)) (.cells #[.int .i64 (m : Int)] 3)
        have p10 := blk_alloc (blk_alloc (blk_alloc HI'.out.i10 (.cells #[.bool false] 4)) (.cells #[.slice A0 l0.length c0, .int .i64 a1, .int .i64 a2] 54)) (.cells #[.int .i64 (m : Int)] 3)
        have pO : Opn (((W.alloc (.cells #[.bool false] 4)).alloc (.cells #[.slice A0 l0.length c0, .int .i64 a1, .int .i64 a2] 54)).alloc (.cells #[.int .i64 (m : Int)] 3)) Ds := ((HI'.out.opn.kept (KeepsOthers.alloc _ _)).kept (KeepsOthers.alloc _ _)).kept (KeepsOthers.alloc _ _)
        have pB := ((HI'.out.below.alloc HI'.out.below.size (.cells #[.bool false] 4)).alloc (Nat.le_trans HI'.out.below.size (by simp)) (.cells #[.slice A0 l0.length c0, .int .i64 a1, .int .i64 a2] 54)).alloc (Nat.le_trans HI'.out.below.size (by simp; omega)) (.cells #[.int .i64 (m : Int)] 3)
        have pS : (((W.alloc (.cells #[.bool false] 4)).alloc (.cells #[.slice A0 l0.length c0, .int .i64 a1, .int .i64 a2] 54)).alloc (.cells #[.int .i64 (m : Int)] 3)).heap.size = W.heap.size + 3 := by simp
        rw [World.size_alloc] at pP
        rw [World.size_alloc, World.size_alloc] at pI
        have hlq := HI'.out.len
        have lt8 := HI'.out.lt8
        have lt10 := HI'.out.lt10
        have ltb := blk_lt HI'.out.i10
        have hlow := HI'.out.low
        have hold := HI'.out.opn.lt
        have hbz := HI'.out.below.size
        clear HI'
        obtain ⟨b11, hb11⟩ : ∃ b11, W.heap.size = b11 := ⟨_, rfl⟩
        rw [hb11] at p11 pP pI pS ltb hold hbz ⊢
        generalize ((W.alloc (.cells #[.bool false] 4)).alloc (.cells #[.slice A0 l0.length c0, .int .i64 a1, .int .i64 a2] 54)).alloc (.cells #[.int .i64 (m : Int)] 3) = W4 at p11 pP pI p8 pR p9 p10 pO pB pS ⊢
        clear hb11 W
        refine wpIn_rangeFunc_ownG rfl (show 1 ≤ 8 by decide) (gf := 38) (lb := #[.pointer (some ⟨b11 + 1 + 1, 0, none⟩), .pointer (some ⟨b11 + 1, 0, none⟩)]) rfl trivial (enters_of Try.func38 (by kernel_rfl) rfl)
          (from_stops 7 (by decide) (b11 + 1) w.heap.size w rfl (by omega) A0 c0 l0 a1 a2 m (by omega) HC.out hlen k ys HYS.out HR.out W4 pB pP pI) kbK_t (kbK_b (by omega) (by omega)) (Below.refl _ _) (fun _ => rfl)
          (fun pre W' => (((((W'.heap[w.heap.size]? = some (.cells #[.slice A0 l0.length c0, .int .i64 a1, .int .i64 a2] 54 (0, 0)) ∧ W'.heap[g]? = some (.cells (mkRow (pre.foldl (certificate_Make.c l0.length (m : Int)) (q, false)).1) 3 (0, 0))) ∧ W'.heap[g + 1]? = some (.cells #[.slice (some ⟨g, 0, none⟩) (l0.length + 1) (l0.length + 1)] 26 (0, 0))) ∧ W'.heap[b10]? = some (.cells #[.int .i64 (m : Int)] 3 (0, 0))) ∧ W'.heap[b11]? = some (.cells #[.bool (pre.foldl (certificate_Make.c l0.length (m : Int)) (q, false)).2] 4 (0, 0))) ∧ Opn W' Ds) ∧ Below w.heap.size w W')
          (fun _ _ _ => False)
          (((((((blk_own _ _ (fun _ => _) _).and (blk_own _ _ (fun pre : List (Int × Int) => mkRow (pre.foldl (certificate_Make.c l0.length (m : Int)) (q, false)).1) _)).and (blk_own _ _ (fun _ => _) _)).and (blk_own _ _ (fun _ => _) _)).and (blk_own _ _ (fun pre : List (Int × Int) => #[.bool (pre.foldl (certificate_Make.c l0.length (m : Int)) (q, false)).2]) _)).and (opn_ownFrom _ Ds (fun D hD => by have := hold D hD; omega))).and (ownFrom_below (Nat.le_refl _) (by omega)))
          (fun _ => fun _ _ _ _ hs _ _ => hs.elim)
          ⟨⟨⟨⟨⟨⟨p8, pR⟩, p9⟩, p10⟩, p11⟩, pO⟩, pB⟩
          (fun x => { tmps := #[.slice A0 l0.length c0, .int .i64 a1, .int .i64 a2, undef, undef, undef, .slice none 0 0, .int .i64 0, .pointer (some ⟨w.heap.size, 0, none⟩), .pointer (some ⟨g + 1, 0, none⟩), .pointer (some ⟨b10, 0, none⟩), .pointer (some ⟨b11, 0, none⟩), .int .i64 (clp l0.length x.1), .int .i64 x.2, undef, .slice A0 l0.length c0, .int .i64 a1, .int .i64 a2, .agg #[.slice A0 l0.length c0, .int .i64 a1, .int .i64 a2], .agg #[.slice A0 l0.length c0, .int .i64 a1, .int .i64 a2], .bool true, .bool false, .slice A0 l0.length c0, .int .i64 (l0.length : Int), .int .i64 ((l0.length : Int) + 1), .slice (some ⟨g, 0, none⟩) (l0.length + 1) (l0.length + 1), .slice A0 l0.length c0, .int .i64 (l0.length : Int), .int .i64 ((l0.length : Int) - 1), u29, u30, .int .i64 (m : Int), .bool false, .agg #[.slice A0 l0.length c0, .int .i64 a1, .int .i64 a2], .int .i64 (m : Int), .func (.func 38) #[] #[.pointer (some ⟨b11 + 1 + 1, 0, none⟩), .pointer (some ⟨b11 + 1, 0, none⟩)], .int .i64 (clp l0.length x.1), .int .i64 x.2, undef, undef, undef, undef, undef, undef, undef, undef, undef, undef, undef, undef, undef, undef, undef, undef, undef, undef, undef, undef, u58, undef], defers := [] }) ?assign ?body ?done ?stop
        case assign =>
          intro l x W K hK
          gi_wp2
          exact hK
        case body =>
          rintro l pre x W ⟨⟨⟨⟨⟨⟨w8, wR⟩, w9⟩, w10⟩, w11⟩, wO⟩, wB⟩ _
          have hpl := make_fold_len l0.length (m : Int) pre (q, false)
          obtain ⟨⟨q', fd⟩, hst⟩ : ∃ s, pre.foldl (certificate_Make.c l0.length (m : Int)) (q, false) = s := ⟨_, rfl⟩
          rw [hst] at wR w11 hpl
          dsimp only at wR w11 hpl
          obtain ⟨hj0, hj1⟩ := clp_range l0.length x.1
          obtain ⟨j, hj⟩ : ∃ j : Nat, clp l0.length x.1 = j := ⟨(clp l0.length x.1).toNat, by omega⟩
          have HJ := Aside0.mk hj
          have HST := Aside0.mk hst
          rw [hj] at hj0 hj1
          have c9 : W.cell? ⟨g + 1, 0, none⟩ = some (.slice (some ⟨g, 0, none⟩) (l0.length + 1) (l0.length + 1)) := (blk_cell w9 0).trans rfl
          have c10 : W.cell? ⟨b10, 0, none⟩ = some (.int .i64 (m : Int)) := (blk_cell w10 0).trans rfl
          have c11 : W.cell? ⟨b11, 0, none⟩ = some (.bool fd) := (blk_cell w11 0).trans rfl
          have cj : W.cell? ⟨g, j, none⟩ = some (.int .i64 (rd q' (j : Int))) := (blk_cell wR j).trans (mkRow_get q' j (by omega))
          have cm : W.cell? ⟨g, m, none⟩ = some (.int .i64 (rd q' (m : Int))) := (blk_cell wR m).trans (mkRow_get q' m (by omega))
          have f11 := blk_frozen w11 0
          have fm := blk_frozen wR m
          rw [hj]
          clear hj hst
          have hfold : (pre ++ [x]).foldl (certificate_Make.c l0.length (m : Int)) (q, false) = certificate_Make.c l0.length (m : Int) (q', fd) x := by rw [List.foldl_append, HST.out]; rfl
          have HF := Aside0.mk hfold
          clear hfold
          cases fd with
          | false =>
            gi_wp2
            have hr := make_stored (m := m) (v := wrap64 (x.2 + rd q' (j : Int))) (B := W4.heap.size) w8 wR w9 w10 w11 wO wB lt8 lt10 ltb (Nat.lt_succ_self b11)
            have e : certificate_Make.c l0.length (m : Int) (q', false) x = (q'.set m (wrap64 (x.2 + rd q' (j : Int))), true) := by
              unfold certificate_Make.c certificate_Make.s
              rw [HJ.out, if_pos (.inl rfl), Int.toNat_natCast]
            refine ⟨hr.1, hr.2.1, ?_⟩
            try dsimp only
            rw [HF.out, e]
            exact hr.2.2
          | true =>
            by_cases hlt : wrap64 (x.2 + rd q' (j : Int)) < rd q' (m : Int)
            · have e2 : decide (wrap64 (x.2 + rd q' (j : Int)) < rd q' (m : Int)) = true := decide_eq_true hlt
              have HLT := Aside0.mk hlt
              clear hlt
              gi_wp2
              have hr := make_stored (m := m) (v := wrap64 (x.2 + rd q' (j : Int))) (B := W4.heap.size) w8 wR w9 w10 w11 wO wB lt8 lt10 ltb (Nat.lt_succ_self b11)
              have e : certificate_Make.c l0.length (m : Int) (q', true) x = (q'.set m (wrap64 (x.2 + rd q' (j : Int))), true) := by
                unfold certificate_Make.c certificate_Make.s
                rw [HJ.out, if_pos (.inr HLT.out), Int.toNat_natCast]
              refine ⟨hr.1, hr.2.1, ?_⟩
              try dsimp only
              rw [HF.out, e]
              exact hr.2.2
            · have e2 : decide (wrap64 (x.2 + rd q' (j : Int)) < rd q' (m : Int)) = false := decide_eq_false hlt
              have HLT := Aside0.mk hlt
              clear hlt
              gi_wp2
              have e : certificate_Make.c l0.length (m : Int) (q', true) x = (q', true) := by
                unfold certificate_Make.c certificate_Make.s
                rw [HJ.out, if_neg (fun h => h.elim (fun h => by cases h) (fun h => absurd h (by have := HLT.out; dsimp only; omega)))]
              refine ⟨KeepsFrom.refl _ _, KB.refl _ _ _, ?_⟩
              try dsimp only
              rw [HF.out, e]
              exact ⟨⟨⟨⟨⟨⟨w8, wR⟩, w9⟩, w10⟩, w11⟩, wO⟩, wB⟩
        case done =>
          rintro D ys' W hD rfl ⟨⟨⟨⟨⟨⟨w8, wR⟩, w9⟩, w10⟩, w11⟩, wO⟩, wB⟩ hK
          have c10 : W.cell? ⟨b10, 0, none⟩ = some (.int .i64 (m : Int)) := (blk_cell w10 0).trans rfl
          have HD := Aside0.mk (wO.cons (w := W) hK (fun h => by have := hold D h; omega))
          clear hK
          gi_wp2
          have hb11 := blk_lt w11
          refine ⟨m, Nat.lt_succ_self m, (ys'.foldl (certificate_Make.c l0.length (m : Int)) (q, false)).1, W.heap.size, D :: Ds, _, _, _, _, _, _, _, _, _, by omega, ⟨?_⟩, ⟨?_⟩, rfl⟩
          · rw [make_fold l0.length (m : Int) ys' (q, false) (fun y hy => by have := from_mem HYS.out y hy; omega)]
            exact HRE.out
          · exact ⟨blk_alloc w8 _, blk_alloc wR _, by rw [make_fold_len]; exact hlq, blk_alloc w9 _, blk_new W _, by omega, lt8, wB.alloc wB.size _, HD.out.kept (KeepsOthers.alloc _ _), fun D' hD' => (List.mem_cons.1 hD').elim (fun e => by omega) (fun e => hlow D' e)⟩
        case stop => exact fun _ _ _ _ _ _ hf _ => hf.elim

end
theorem from_l_mono (xs : List S50) (wd ind i : Int) (k : Nat) : ∀ m, LeO (certificate_problem_from.l k xs wd ind i m) (certificate_problem_from.l (k + 1) xs wd ind i m)
  | 0 => LeO.refl _
  | m + 1 => by
    simp only [certificate_problem_from.l]
    exact LeO.bind (from_l_mono xs wd ind i k m) (fun _ => LeO.bind (certificate_problem_line.mono _ _ _ _ _ _) (fun _ => LeO.refl _))
theorem make_l_mono (xs : List S50) (wd ind : Int) (k : Nat) : ∀ m o, LeO (certificate_Make.l k xs wd ind m o) (certificate_Make.l (k + 1) xs wd ind m o)
  | 0, _ => LeO.refl _
  | m + 1, o => by
    simp only [certificate_Make.l]
    exact LeO.bind (from_l_mono xs wd ind _ k _) (fun _ => make_l_mono xs wd ind k m _)
theorem certificate_Make.mono : ∀ a0 a1 a2 k, LeO (certificate_Make.f k a0 a1 a2) (certificate_Make.f (k + 1) a0 a1 a2) := by
  intro a0 a1 a2 k
  unfold certificate_Make.f
  refine LeO.bind (certificate_problem_valid.mono _ _ _ _) (fun _ => ?_)
  refine LeO.ite ?_ (LeO.refl _)
  refine LeO.ite ?_ (LeO.refl _)
  exact LeO.bind (make_l_mono _ _ _ _ _ _) (fun _ => LeO.refl _)

end Go.Proofs.Ytliegocbkgdhcaa.PB
