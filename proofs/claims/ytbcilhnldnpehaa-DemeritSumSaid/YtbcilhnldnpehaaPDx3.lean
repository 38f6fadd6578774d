-- Written by a program of this place (wip/gen.py) with the kit's print; not trusted: Lean checks it.
import Derived.Test.YtbcilhnldnpehaaPDx0
import Derived.Test.YtbcilhnldnpehaaPDx1
import Derived.Test.YtbcilhnldnpehaaPDx2
namespace Go.Proofs.Ytbcilhnldnpehaa.PD
open Go.RowKit Go.Proofs.YtbcilhnldnpehaaW.PrintWords Go.Proofs.YtbcilhnldnpehaaW.PrintLast Go.Proofs.YtbcilhnldnpehaaW.PrintMore
attribute [local go_sem] max2_int min2_int max_two min_two max_three min_three max_four min_four   -- for this text's walks alone
set_option linter.unusedVariables false
set_option linter.unusedSimpArgs false

/-! ### vinculumlaw44_DemeritLine: function 3 -/
def vinculumlaw44_DemeritLine.f (k : Nat) (l0 : List (S34)) (a1_0 : Int) (a1_1 : Int) (a1_2 : Int) (a1_3 : Int) : Option (Bool) := (vinculumlaw44_awake.f k).bind fun t141 => (if t141 = true then (if (l0.length : Int) > 70 then (some true) else ((demerit_Length.f k l0 a1_0 a1_1).bind fun bt142 => ((vinculumref44_Length.f k l0 a1_0 a1_1).bind fun bt144 => ((demerit_Line.f k l0 a1_0 a1_1 a1_2).bind fun bt146 => ((vinculumref44_Line.f k l0 a1_0 a1_1 a1_2).bind fun bt148 => (if bt142.1 = bt144.1 then (if bt142.2 = bt144.2 then (if bt146.1 = bt148.1 then (if bt146.2 = bt148.2 then ((demerit_Valid.f k l0).bind fun t150 => ((vinculumref44_Valid.f k l0).bind fun t151 => (some (t150 == t151)))) else (some false)) else (some false)) else (some false)) else (some false))))))) else (some false))
theorem vinculumlaw44_DemeritLine.mono : ∀ a0 a1 a2 a3 a4 k, LeO (vinculumlaw44_DemeritLine.f k a0 a1 a2 a3 a4) (vinculumlaw44_DemeritLine.f (k + 1) a0 a1 a2 a3 a4) := by
  intro a0 a1 a2 a3 a4 k
  unfold vinculumlaw44_DemeritLine.f
  repeat' first
      | (with_reducible exact demerit_Length.mono _ _ _ _)
      | (with_reducible exact demerit_Line.mono _ _ _ _ _)
      | (with_reducible exact demerit_Valid.mono _ _)
      | (with_reducible exact vinculumlaw44_awake.mono _)
      | (with_reducible exact vinculumref44_Length.mono _ _ _ _)
      | (with_reducible exact vinculumref44_Line.mono _ _ _ _ _)
      | (with_reducible exact vinculumref44_Valid.mono _ _)
      | (with_reducible exact LeO.refl _)
      | (with_reducible exact LeO.none _)
      | (with_reducible refine LeO.ite ?_ ?_)
      | (with_reducible refine LeO.bind ?_ (fun _ => ?_))
      | exact demerit_Length.mono _ _ _ _
      | exact demerit_Line.mono _ _ _ _ _
      | exact demerit_Valid.mono _ _
      | exact vinculumlaw44_awake.mono _
      | exact vinculumref44_Length.mono _ _ _ _
      | exact vinculumref44_Line.mono _ _ _ _ _
      | exact vinculumref44_Valid.mono _ _
      | exact LeO.none _
      | refine LeO.ite ?_ ?_
      | refine LeO.bind ?_ (fun _ => ?_)
set_option maxHeartbeats 8000000 in
set_option maxRecDepth 100000 in
theorem vinculumlaw44_DemeritLine.calls (k : Nat) (A0 : Option Addr) (c0 : Nat) (l0 : List (S34)) (a1_0 : Int) (a1_1 : Int) (a1_2 : Int) (a1_3 : Int) (r : Bool) (w : World) (hr0 : Kd.C k34 w A0 l0.length l0) (hc0 : l0.length ≤ c0) (h : vinculumlaw44_DemeritLine.f k l0 a1_0 a1_1 a1_2 a1_3 = some r) :
    Calls Try.prog 3 #[.slice A0 l0.length c0, .agg #[.int .i64 a1_0, .int .i64 a1_1, .int .i64 a1_2, .int .i64 a1_3]] w fun e w' => e = .returned (.bool r) ∧ Below w.heap.size w w' := by
  have hu24 := Try.underlying24
  have HR0 := Aside0.mk hr0
  have HC0 := Aside0.mk hc0
  clear hr0 hc0
  have HB := Aside0.mk (Below.refl w.heap.size w)
  have H : ((vinculumlaw44_awake.f k).bind fun t141 => (if t141 = true then (if (l0.length : Int) > 70 then (some true) else ((demerit_Length.f k l0 a1_0 a1_1).bind fun bt142 => ((vinculumref44_Length.f k l0 a1_0 a1_1).bind fun bt144 => ((demerit_Line.f k l0 a1_0 a1_1 a1_2).bind fun bt146 => ((vinculumref44_Line.f k l0 a1_0 a1_1 a1_2).bind fun bt148 => (if bt142.1 = bt144.1 then (if bt142.2 = bt144.2 then (if bt146.1 = bt148.1 then (if bt146.2 = bt148.2 then ((demerit_Valid.f k l0).bind fun t150 => ((vinculumref44_Valid.f k l0).bind fun t151 => (some (t150 == t151)))) else (some false)) else (some false)) else (some false)) else (some false))))))) else (some false))) = some r := h
  clear h
  replace H := Option.bind_eq_some_iff.mp H
  obtain ⟨t141, A30, H⟩ := H
  replace H : (if t141 = true then (if (l0.length : Int) > 70 then (some true) else ((demerit_Length.f k l0 a1_0 a1_1).bind fun bt142 => ((vinculumref44_Length.f k l0 a1_0 a1_1).bind fun bt144 => ((demerit_Line.f k l0 a1_0 a1_1 a1_2).bind fun bt146 => ((vinculumref44_Line.f k l0 a1_0 a1_1 a1_2).bind fun bt148 => (if bt142.1 = bt144.1 then (if bt142.2 = bt144.2 then (if bt146.1 = bt148.1 then (if bt146.2 = bt148.2 then ((demerit_Valid.f k l0).bind fun t150 => ((vinculumref44_Valid.f k l0).bind fun t151 => (some (t150 == t151)))) else (some false)) else (some false)) else (some false)) else (some false))))))) else (some false)) = some r := H
  have A3 := Aside0.mk A30
  clear A30
  by_cases c4 : t141 = true
  · subst c4
    have H1 : (if (l0.length : Int) > 70 then (some true) else ((demerit_Length.f k l0 a1_0 a1_1).bind fun bt142 => ((vinculumref44_Length.f k l0 a1_0 a1_1).bind fun bt144 => ((demerit_Line.f k l0 a1_0 a1_1 a1_2).bind fun bt146 => ((vinculumref44_Line.f k l0 a1_0 a1_1 a1_2).bind fun bt148 => (if bt142.1 = bt144.1 then (if bt142.2 = bt144.2 then (if bt146.1 = bt148.1 then (if bt146.2 = bt148.2 then ((demerit_Valid.f k l0).bind fun t150 => ((vinculumref44_Valid.f k l0).bind fun t151 => (some (t150 == t151)))) else (some false)) else (some false)) else (some false)) else (some false))))))) = some r := by rw [if_pos rfl] at H; exact H
    clear H
    have H := H1
    clear H1
    by_cases c5 : (l0.length : Int) > 70
    · rw [if_pos c5] at H
      have c5b0 : decide (70 < (l0.length : Int)) = true := decide_eq_true c5
      have c5b1 : decide (70 < l0.length) = true := decide_eq_true (by omega)
      clear c5
      obtain rfl := Option.some.inj H
      go_enter Try.func3, Try.ntmps3
      go_wp2_with (first | ((with_reducible refine gate_dst (N := 3) rfl ?_); refine box_event ?hg (N := 3) ?hd (cs := #[.int .i64 a1_0, .int .i64 a1_1, .int .i64 a1_2, .int .i64 a1_3]) (t := 24) ?hr ?_; (case hd => rfl); (case hg => rfl); (case hr => first | (go_simp; done) | (go_simp; rfl)); intro gb140 hg w6 hbox hb; have n0_ := Aside0.mk (below_step (by repeat (first | (with_reducible first | exact HB.out | apply below_alloc | apply pw_below_drewN | apply below_drew1) | exact HB.out)) hb); have n1_ := Aside0.mk (hbox); have n2_ := Aside0.mk ((by rw [hg]; exact (below_size (by repeat (first | (with_reducible first | exact HB.out | apply below_alloc | apply pw_below_drewN | apply below_drew1) | exact HB.out))) : w.heap.size ≤ gb140)); have n3_ := Aside0.mk ((by rw [hg]; exact (below_size (by repeat (first | (with_reducible first | exact HB.out | apply below_alloc | apply pw_below_drewN | apply below_drew1) | exact HB.out))) : w.heap.size ≤ gb140)); clear HB; have HB := n0_; have BK140 := n1_; have GW140 := n2_; have GE140 := n3_; clear n0_ n1_ n2_ n3_; clear hb hbox hg) | ((with_reducible refine gate_callee (f := 9) rfl ?_); refine goesL_ (some 13) rfl rfl Try.func9 (by kernel_rfl) rfl #[] rfl (by (try simp only [List.map_toArray, List.map_cons, List.map_nil]); first | done | rfl | (simp only [List.length_drop, List.length_take]; rfl)) ?_; (with_reducible refine (vinculumlaw44_awake.calls k  true _ A3.out).mono ?_); rintro e w7 ⟨rfl, hb⟩; refine ⟨_, rfl, ?_⟩; have n0_ := Aside0.mk (blk_below (g := gb140) (o := .cells #[.int .i64 a1_0, .int .i64 a1_1, .int .i64 a1_2, .int .i64 a1_3] 24 (0, 0)) (by (with_reducible repeat (first | refine blk_drewN ?_ _ | refine blk_drew ?_ | refine blk_alloc ?_ _)); exact BK140.out) hb); have n1_ := Aside0.mk (below_step (by repeat (first | (with_reducible first | exact HB.out | apply below_alloc | apply pw_below_drewN | apply below_drew1 | refine below_set ?_ GE140.out) | exact HB.out)) hb); clear BK140; clear HB; have BK140 := n0_; have HB := n1_; clear n0_ n1_; (try clear hb); (try clear hb2); (try clear hk); (try clear hi)))
      go_ret
      exact ⟨by first | rfl | (simp [errW_none, errW_some] <;> rfl) | (simp [*, errW_none, errW_some] <;> rfl), by repeat (first | (with_reducible first | exact HB.out | apply below_alloc | apply pw_below_drewN | apply below_drew1 | refine below_set ?_ GE140.out) | exact HB.out)⟩
    · rw [if_neg c5] at H
      have c5b0 : decide (70 < (l0.length : Int)) = false := decide_eq_false c5
      have c5b1 : decide (70 < l0.length) = false := decide_eq_false (by omega)
      clear c5
      replace H := Option.bind_eq_some_iff.mp H
      obtain ⟨⟨t142, t143⟩, A80, H⟩ := H
      replace H : ((vinculumref44_Length.f k l0 a1_0 a1_1).bind fun bt144 => ((demerit_Line.f k l0 a1_0 a1_1 a1_2).bind fun bt146 => ((vinculumref44_Line.f k l0 a1_0 a1_1 a1_2).bind fun bt148 => (if t142 = bt144.1 then (if t143 = bt144.2 then (if bt146.1 = bt148.1 then (if bt146.2 = bt148.2 then ((demerit_Valid.f k l0).bind fun t150 => ((vinculumref44_Valid.f k l0).bind fun t151 => (some (t150 == t151)))) else (some false)) else (some false)) else (some false)) else (some false))))) = some r := H
      have A8 := Aside0.mk A80
      clear A80
      replace H := Option.bind_eq_some_iff.mp H
      obtain ⟨⟨t144, t145⟩, A90, H⟩ := H
      replace H : ((demerit_Line.f k l0 a1_0 a1_1 a1_2).bind fun bt146 => ((vinculumref44_Line.f k l0 a1_0 a1_1 a1_2).bind fun bt148 => (if t142 = t144 then (if t143 = t145 then (if bt146.1 = bt148.1 then (if bt146.2 = bt148.2 then ((demerit_Valid.f k l0).bind fun t150 => ((vinculumref44_Valid.f k l0).bind fun t151 => (some (t150 == t151)))) else (some false)) else (some false)) else (some false)) else (some false)))) = some r := H
      have A9 := Aside0.mk A90
      clear A90
      replace H := Option.bind_eq_some_iff.mp H
      obtain ⟨⟨t146, t147⟩, A100, H⟩ := H
      replace H : ((vinculumref44_Line.f k l0 a1_0 a1_1 a1_2).bind fun bt148 => (if t142 = t144 then (if t143 = t145 then (if t146 = bt148.1 then (if t147 = bt148.2 then ((demerit_Valid.f k l0).bind fun t150 => ((vinculumref44_Valid.f k l0).bind fun t151 => (some (t150 == t151)))) else (some false)) else (some false)) else (some false)) else (some false))) = some r := H
      have A10 := Aside0.mk A100
      clear A100
      replace H := Option.bind_eq_some_iff.mp H
      obtain ⟨⟨t148, t149⟩, A110, H⟩ := H
      replace H : (if t142 = t144 then (if t143 = t145 then (if t146 = t148 then (if t147 = t149 then ((demerit_Valid.f k l0).bind fun t150 => ((vinculumref44_Valid.f k l0).bind fun t151 => (some (t150 == t151)))) else (some false)) else (some false)) else (some false)) else (some false)) = some r := H
      have A11 := Aside0.mk A110
      clear A110
      by_cases c12 : t142 = t144
      · rw [if_pos c12] at H
        have c12b0 : (t142 == t144) = true := beq_iff_eq.mpr c12
        have c12b1 : (t142 != t144) = false := bne_eq_false_iff_eq.mpr c12
        clear c12
        by_cases c13 : t143 = t145
        · rw [if_pos c13] at H
          have c13b0 : (t143 == t145) = true := beq_iff_eq.mpr c13
          have c13b1 : (t143 != t145) = false := bne_eq_false_iff_eq.mpr c13
          clear c13
          by_cases c14 : t146 = t148
          · rw [if_pos c14] at H
            have c14b0 : (t146 == t148) = true := beq_iff_eq.mpr c14
            have c14b1 : (t146 != t148) = false := bne_eq_false_iff_eq.mpr c14
            clear c14
            by_cases c15 : t147 = t149
            · rw [if_pos c15] at H
              have c15b0 : (t147 == t149) = true := beq_iff_eq.mpr c15
              have c15b1 : (t147 != t149) = false := bne_eq_false_iff_eq.mpr c15
              clear c15
              replace H := Option.bind_eq_some_iff.mp H
              obtain ⟨t150, A160, H⟩ := H
              replace H : ((vinculumref44_Valid.f k l0).bind fun t151 => (some (t150 == t151))) = some r := H
              have A16 := Aside0.mk A160
              clear A160
              replace H := Option.bind_eq_some_iff.mp H
              obtain ⟨t151, A170, H⟩ := H
              replace H : (some (t150 == t151)) = some r := H
              have A17 := Aside0.mk A170
              clear A170
              obtain rfl := Option.some.inj H
              go_enter Try.func3, Try.ntmps3
              go_wp2_with (first | ((with_reducible refine gate_dst (N := 3) rfl ?_); refine box_event ?hg (N := 3) ?hd (cs := #[.int .i64 a1_0, .int .i64 a1_1, .int .i64 a1_2, .int .i64 a1_3]) (t := 24) ?hr ?_; (case hd => rfl); (case hg => rfl); (case hr => first | (go_simp; done) | (go_simp; rfl)); intro gb140 hg w18 hbox hb; have n0_ := Aside0.mk (below_step (by repeat (first | (with_reducible first | exact HB.out | apply below_alloc | apply pw_below_drewN | apply below_drew1) | exact HB.out)) hb); have n1_ := Aside0.mk (hbox); have n2_ := Aside0.mk ((by rw [hg]; exact (below_size (by repeat (first | (with_reducible first | exact HB.out | apply below_alloc | apply pw_below_drewN | apply below_drew1) | exact HB.out))) : w.heap.size ≤ gb140)); have n3_ := Aside0.mk ((by rw [hg]; exact (below_size (by repeat (first | (with_reducible first | exact HB.out | apply below_alloc | apply pw_below_drewN | apply below_drew1) | exact HB.out))) : w.heap.size ≤ gb140)); clear HB; have HB := n0_; have BK140 := n1_; have GW140 := n2_; have GE140 := n3_; clear n0_ n1_ n2_ n3_; clear hb hbox hg) | ((with_reducible refine gate_callee (f := 9) rfl ?_); refine goesL_ (some 13) rfl rfl Try.func9 (by kernel_rfl) rfl #[] rfl (by (try simp only [List.map_toArray, List.map_cons, List.map_nil]); first | done | rfl | (simp only [List.length_drop, List.length_take]; rfl)) ?_; (with_reducible refine (vinculumlaw44_awake.calls k  true _ A3.out).mono ?_); rintro e w19 ⟨rfl, hb⟩; refine ⟨_, rfl, ?_⟩; have n0_ := Aside0.mk (blk_below (g := gb140) (o := .cells #[.int .i64 a1_0, .int .i64 a1_1, .int .i64 a1_2, .int .i64 a1_3] 24 (0, 0)) (by (with_reducible repeat (first | refine blk_drewN ?_ _ | refine blk_drew ?_ | refine blk_alloc ?_ _)); exact BK140.out) hb); have n1_ := Aside0.mk (below_step (by repeat (first | (with_reducible first | exact HB.out | apply below_alloc | apply pw_below_drewN | apply below_drew1 | refine below_set ?_ GE140.out) | exact HB.out)) hb); clear BK140; clear HB; have BK140 := n0_; have HB := n1_; clear n0_ n1_; (try clear hb); (try clear hb2); (try clear hk); (try clear hi); have hcz20_0 : w19.cell? ⟨gb140, 0, none⟩ = some (.int .i64 a1_0) := (blk_cell BK140.out 0).trans rfl; have hcz20_1 : w19.cell? ⟨gb140, 1, none⟩ = some (.int .i64 a1_1) := (blk_cell BK140.out 1).trans rfl; have hcz20_2 : w19.cell? ⟨gb140, 2, none⟩ = some (.int .i64 a1_2) := (blk_cell BK140.out 2).trans rfl; have hcz20_3 : w19.cell? ⟨gb140, 3, none⟩ = some (.int .i64 a1_3) := (blk_cell BK140.out 3).trans rfl; have hfz20_0 := blk_frozen BK140.out 0; have hfz20_1 := blk_frozen BK140.out 1; have hfz20_2 := blk_frozen BK140.out 2; have hfz20_3 := blk_frozen BK140.out 3) | ((with_reducible refine gate_callee (f := 10) rfl ?_); refine goesL_ (some 24) rfl rfl Try.func10 (by kernel_rfl) rfl #[.slice A0 l0.length c0, .int .i64 a1_0, .int .i64 a1_1] rfl (by (try simp only [List.map_toArray, List.map_cons, List.map_nil]); first | done | rfl | (simp only [List.length_drop, List.length_take]; rfl)) ?_; (with_reducible refine (demerit_Length.calls k _ _ l0 a1_0 a1_1 t142 t143 _ ?side1 ?side2 A8.out).mono ?_); (case side1 => repeat (first | exact (Kd.C_below HR0.out HB.out) | (with_reducible refine Kd.C_alloc ?_ _) | (with_reducible refine Kd.C_drewN ?_ _) | (with_reducible refine Kd.C_drew ?_))); (case side2 => exact HC0.out); rintro e w21 ⟨rfl, hb⟩; refine ⟨_, rfl, ?_⟩; have n0_ := Aside0.mk (blk_below (g := gb140) (o := .cells #[.int .i64 a1_0, .int .i64 a1_1, .int .i64 a1_2, .int .i64 a1_3] 24 (0, 0)) (by (with_reducible repeat (first | refine blk_drewN ?_ _ | refine blk_drew ?_ | refine blk_alloc ?_ _)); exact BK140.out) hb); have n1_ := Aside0.mk (below_step (by repeat (first | (with_reducible first | exact HB.out | apply below_alloc | apply pw_below_drewN | apply below_drew1 | refine below_set ?_ GE140.out) | exact HB.out)) hb); clear BK140; clear HB; have BK140 := n0_; have HB := n1_; clear n0_ n1_; (try clear hb); (try clear hb2); (try clear hk); (try clear hi); have hcz22_0 : w21.cell? ⟨gb140, 0, none⟩ = some (.int .i64 a1_0) := (blk_cell BK140.out 0).trans rfl; have hcz22_1 : w21.cell? ⟨gb140, 1, none⟩ = some (.int .i64 a1_1) := (blk_cell BK140.out 1).trans rfl; have hcz22_2 : w21.cell? ⟨gb140, 2, none⟩ = some (.int .i64 a1_2) := (blk_cell BK140.out 2).trans rfl; have hcz22_3 : w21.cell? ⟨gb140, 3, none⟩ = some (.int .i64 a1_3) := (blk_cell BK140.out 3).trans rfl; have hfz22_0 := blk_frozen BK140.out 0; have hfz22_1 := blk_frozen BK140.out 1; have hfz22_2 := blk_frozen BK140.out 2; have hfz22_3 := blk_frozen BK140.out 3) | ((with_reducible refine gate_callee (f := 11) rfl ?_); refine goesL_ (some 33) rfl rfl Try.func11 (by kernel_rfl) rfl #[.slice A0 l0.length c0, .int .i64 a1_0, .int .i64 a1_1] rfl (by (try simp only [List.map_toArray, List.map_cons, List.map_nil]); first | done | rfl | (simp only [List.length_drop, List.length_take]; rfl)) ?_; (with_reducible refine (vinculumref44_Length.calls k _ _ l0 a1_0 a1_1 t144 t145 _ ?side1 ?side2 A9.out).mono ?_); (case side1 => repeat (first | exact (Kd.C_below HR0.out HB.out) | (with_reducible refine Kd.C_alloc ?_ _) | (with_reducible refine Kd.C_drewN ?_ _) | (with_reducible refine Kd.C_drew ?_))); (case side2 => exact HC0.out); rintro e w' ⟨rfl, ⟨nd, rfl⟩⟩; refine ⟨_, rfl, ?_⟩) | ((with_reducible refine gate_callee (f := 12) rfl ?_); refine goesL_ (some 44) rfl rfl Try.func12 (by kernel_rfl) rfl #[.slice A0 l0.length c0, .int .i64 a1_0, .int .i64 a1_1, .int .i64 a1_2] rfl (by (try simp only [List.map_toArray, List.map_cons, List.map_nil]); first | done | rfl | (simp only [List.length_drop, List.length_take]; rfl)) ?_; (with_reducible refine (demerit_Line.calls k _ _ l0 a1_0 a1_1 a1_2 t146 t147 _ ?side1 ?side2 A10.out).mono ?_); (case side1 => repeat (first | exact (Kd.C_below HR0.out (by repeat (first | (with_reducible first | exact HB.out | apply below_alloc | apply pw_below_drewN | apply below_drew1 | refine below_set ?_ GE140.out) | exact HB.out))) | (with_reducible refine Kd.C_alloc ?_ _) | (with_reducible refine Kd.C_drewN ?_ _) | (with_reducible refine Kd.C_drew ?_))); (case side2 => exact HC0.out); rintro e w23 ⟨rfl, hb⟩; refine ⟨_, rfl, ?_⟩; have n0_ := Aside0.mk (blk_below (g := gb140) (o := .cells #[.int .i64 a1_0, .int .i64 a1_1, .int .i64 a1_2, .int .i64 a1_3] 24 (0, 0)) (by (with_reducible repeat (first | refine blk_drewN ?_ _ | refine blk_drew ?_ | refine blk_alloc ?_ _)); exact BK140.out) hb); have n1_ := Aside0.mk (below_step (by repeat (first | (with_reducible first | exact HB.out | apply below_alloc | apply pw_below_drewN | apply below_drew1 | refine below_set ?_ GE140.out) | exact HB.out)) hb); clear BK140; clear HB; have BK140 := n0_; have HB := n1_; clear n0_ n1_; (try clear hb); (try clear hb2); (try clear hk); (try clear hi); have hcz24_0 : w23.cell? ⟨gb140, 0, none⟩ = some (.int .i64 a1_0) := (blk_cell BK140.out 0).trans rfl; have hcz24_1 : w23.cell? ⟨gb140, 1, none⟩ = some (.int .i64 a1_1) := (blk_cell BK140.out 1).trans rfl; have hcz24_2 : w23.cell? ⟨gb140, 2, none⟩ = some (.int .i64 a1_2) := (blk_cell BK140.out 2).trans rfl; have hcz24_3 : w23.cell? ⟨gb140, 3, none⟩ = some (.int .i64 a1_3) := (blk_cell BK140.out 3).trans rfl; have hfz24_0 := blk_frozen BK140.out 0; have hfz24_1 := blk_frozen BK140.out 1; have hfz24_2 := blk_frozen BK140.out 2; have hfz24_3 := blk_frozen BK140.out 3) | ((with_reducible refine gate_callee (f := 13) rfl ?_); refine goesL_ (some 55) rfl rfl Try.func13 (by kernel_rfl) rfl #[.slice A0 l0.length c0, .int .i64 a1_0, .int .i64 a1_1, .int .i64 a1_2] rfl (by (try simp only [List.map_toArray, List.map_cons, List.map_nil]); first | done | rfl | (simp only [List.length_drop, List.length_take]; rfl)) ?_; (with_reducible refine (vinculumref44_Line.calls k _ _ l0 a1_0 a1_1 a1_2 t148 t149 _ ?side1 ?side2 A11.out).mono ?_); (case side1 => repeat (first | exact (Kd.C_below HR0.out HB.out) | (with_reducible refine Kd.C_alloc ?_ _) | (with_reducible refine Kd.C_drewN ?_ _) | (with_reducible refine Kd.C_drew ?_))); (case side2 => exact HC0.out); rintro e w25 ⟨rfl, hb⟩; refine ⟨_, rfl, ?_⟩; have n0_ := Aside0.mk (blk_below (g := gb140) (o := .cells #[.int .i64 a1_0, .int .i64 a1_1, .int .i64 a1_2, .int .i64 a1_3] 24 (0, 0)) (by (with_reducible repeat (first | refine blk_drewN ?_ _ | refine blk_drew ?_ | refine blk_alloc ?_ _)); exact BK140.out) hb); have n1_ := Aside0.mk (below_step (by repeat (first | (with_reducible first | exact HB.out | apply below_alloc | apply pw_below_drewN | apply below_drew1 | refine below_set ?_ GE140.out) | exact HB.out)) hb); clear BK140; clear HB; have BK140 := n0_; have HB := n1_; clear n0_ n1_; (try clear hb); (try clear hb2); (try clear hk); (try clear hi)) | (go_at_call 14; (with_reducible refine (demerit_Valid.calls k _ _ l0 t150 _ ?side1 ?side2 A16.out).mono ?_); (case side1 => repeat (first | exact (Kd.C_below HR0.out HB.out) | (with_reducible refine Kd.C_alloc ?_ _) | (with_reducible refine Kd.C_drewN ?_ _) | (with_reducible refine Kd.C_drew ?_))); (case side2 => exact HC0.out); rintro e w26 ⟨rfl, hb⟩; have n0_ := Aside0.mk (blk_below (g := gb140) (o := .cells #[.int .i64 a1_0, .int .i64 a1_1, .int .i64 a1_2, .int .i64 a1_3] 24 (0, 0)) (by (with_reducible repeat (first | refine blk_drewN ?_ _ | refine blk_drew ?_ | refine blk_alloc ?_ _)); exact BK140.out) hb); have n1_ := Aside0.mk (below_step (by repeat (first | (with_reducible first | exact HB.out | apply below_alloc | apply pw_below_drewN | apply below_drew1 | refine below_set ?_ GE140.out) | exact HB.out)) hb); clear BK140; clear HB; have BK140 := n0_; have HB := n1_; clear n0_ n1_; (try clear hb); (try clear hb2); (try clear hk); (try clear hi)) | (go_at_call 15; (with_reducible refine (vinculumref44_Valid.calls k _ _ l0 t151 _ ?side1 ?side2 A17.out).mono ?_); (case side1 => repeat (first | exact (Kd.C_below HR0.out HB.out) | (with_reducible refine Kd.C_alloc ?_ _) | (with_reducible refine Kd.C_drewN ?_ _) | (with_reducible refine Kd.C_drew ?_))); (case side2 => exact HC0.out); rintro e w' ⟨rfl, ⟨nd, rfl⟩⟩))
              go_ret
              exact ⟨by first | rfl | (simp [errW_none, errW_some] <;> rfl) | (simp [*, errW_none, errW_some] <;> rfl), by repeat (first | (with_reducible first | exact HB.out | apply below_alloc | apply pw_below_drewN | apply below_drew1 | refine below_set ?_ GE140.out) | exact HB.out)⟩
            · rw [if_neg c15] at H
              have c15b0 : (t147 == t149) = false := beq_eq_false_iff_ne.mpr c15
              have c15b1 : (t147 != t149) = true := bne_iff_ne.mpr c15
              obtain rfl := Option.some.inj H
              go_enter Try.func3, Try.ntmps3
              go_wp2_with (first | ((with_reducible refine gate_dst (N := 3) rfl ?_); refine box_event ?hg (N := 3) ?hd (cs := #[.int .i64 a1_0, .int .i64 a1_1, .int .i64 a1_2, .int .i64 a1_3]) (t := 24) ?hr ?_; (case hd => rfl); (case hg => rfl); (case hr => first | (go_simp; done) | (go_simp; rfl)); intro gb140 hg w27 hbox hb; have n0_ := Aside0.mk (below_step (by repeat (first | (with_reducible first | exact HB.out | apply below_alloc | apply pw_below_drewN | apply below_drew1) | exact HB.out)) hb); have n1_ := Aside0.mk (hbox); have n2_ := Aside0.mk ((by rw [hg]; exact (below_size (by repeat (first | (with_reducible first | exact HB.out | apply below_alloc | apply pw_below_drewN | apply below_drew1) | exact HB.out))) : w.heap.size ≤ gb140)); have n3_ := Aside0.mk ((by rw [hg]; exact (below_size (by repeat (first | (with_reducible first | exact HB.out | apply below_alloc | apply pw_below_drewN | apply below_drew1) | exact HB.out))) : w.heap.size ≤ gb140)); clear HB; have HB := n0_; have BK140 := n1_; have GW140 := n2_; have GE140 := n3_; clear n0_ n1_ n2_ n3_; clear hb hbox hg) | ((with_reducible refine gate_callee (f := 9) rfl ?_); refine goesL_ (some 13) rfl rfl Try.func9 (by kernel_rfl) rfl #[] rfl (by (try simp only [List.map_toArray, List.map_cons, List.map_nil]); first | done | rfl | (simp only [List.length_drop, List.length_take]; rfl)) ?_; (with_reducible refine (vinculumlaw44_awake.calls k  true _ A3.out).mono ?_); rintro e w28 ⟨rfl, hb⟩; refine ⟨_, rfl, ?_⟩; have n0_ := Aside0.mk (blk_below (g := gb140) (o := .cells #[.int .i64 a1_0, .int .i64 a1_1, .int .i64 a1_2, .int .i64 a1_3] 24 (0, 0)) (by (with_reducible repeat (first | refine blk_drewN ?_ _ | refine blk_drew ?_ | refine blk_alloc ?_ _)); exact BK140.out) hb); have n1_ := Aside0.mk (below_step (by repeat (first | (with_reducible first | exact HB.out | apply below_alloc | apply pw_below_drewN | apply below_drew1 | refine below_set ?_ GE140.out) | exact HB.out)) hb); clear BK140; clear HB; have BK140 := n0_; have HB := n1_; clear n0_ n1_; (try clear hb); (try clear hb2); (try clear hk); (try clear hi); have hcz29_0 : w28.cell? ⟨gb140, 0, none⟩ = some (.int .i64 a1_0) := (blk_cell BK140.out 0).trans rfl; have hcz29_1 : w28.cell? ⟨gb140, 1, none⟩ = some (.int .i64 a1_1) := (blk_cell BK140.out 1).trans rfl; have hcz29_2 : w28.cell? ⟨gb140, 2, none⟩ = some (.int .i64 a1_2) := (blk_cell BK140.out 2).trans rfl; have hcz29_3 : w28.cell? ⟨gb140, 3, none⟩ = some (.int .i64 a1_3) := (blk_cell BK140.out 3).trans rfl; have hfz29_0 := blk_frozen BK140.out 0; have hfz29_1 := blk_frozen BK140.out 1; have hfz29_2 := blk_frozen BK140.out 2; have hfz29_3 := blk_frozen BK140.out 3) | ((with_reducible refine gate_callee (f := 10) rfl ?_); refine goesL_ (some 24) rfl rfl Try.func10 (by kernel_rfl) rfl #[.slice A0 l0.length c0, .int .i64 a1_0, .int .i64 a1_1] rfl (by (try simp only [List.map_toArray, List.map_cons, List.map_nil]); first | done | rfl | (simp only [List.length_drop, List.length_take]; rfl)) ?_; (with_reducible refine (demerit_Length.calls k _ _ l0 a1_0 a1_1 t142 t143 _ ?side1 ?side2 A8.out).mono ?_); (case side1 => repeat (first | exact (Kd.C_below HR0.out HB.out) | (with_reducible refine Kd.C_alloc ?_ _) | (with_reducible refine Kd.C_drewN ?_ _) | (with_reducible refine Kd.C_drew ?_))); (case side2 => exact HC0.out); rintro e w30 ⟨rfl, hb⟩; refine ⟨_, rfl, ?_⟩; have n0_ := Aside0.mk (blk_below (g := gb140) (o := .cells #[.int .i64 a1_0, .int .i64 a1_1, .int .i64 a1_2, .int .i64 a1_3] 24 (0, 0)) (by (with_reducible repeat (first | refine blk_drewN ?_ _ | refine blk_drew ?_ | refine blk_alloc ?_ _)); exact BK140.out) hb); have n1_ := Aside0.mk (below_step (by repeat (first | (with_reducible first | exact HB.out | apply below_alloc | apply pw_below_drewN | apply below_drew1 | refine below_set ?_ GE140.out) | exact HB.out)) hb); clear BK140; clear HB; have BK140 := n0_; have HB := n1_; clear n0_ n1_; (try clear hb); (try clear hb2); (try clear hk); (try clear hi); have hcz31_0 : w30.cell? ⟨gb140, 0, none⟩ = some (.int .i64 a1_0) := (blk_cell BK140.out 0).trans rfl; have hcz31_1 : w30.cell? ⟨gb140, 1, none⟩ = some (.int .i64 a1_1) := (blk_cell BK140.out 1).trans rfl; have hcz31_2 : w30.cell? ⟨gb140, 2, none⟩ = some (.int .i64 a1_2) := (blk_cell BK140.out 2).trans rfl; have hcz31_3 : w30.cell? ⟨gb140, 3, none⟩ = some (.int .i64 a1_3) := (blk_cell BK140.out 3).trans rfl; have hfz31_0 := blk_frozen BK140.out 0; have hfz31_1 := blk_frozen BK140.out 1; have hfz31_2 := blk_frozen BK140.out 2; have hfz31_3 := blk_frozen BK140.out 3) | ((with_reducible refine gate_callee (f := 11) rfl ?_); refine goesL_ (some 33) rfl rfl Try.func11 (by kernel_rfl) rfl #[.slice A0 l0.length c0, .int .i64 a1_0, .int .i64 a1_1] rfl (by (try simp only [List.map_toArray, List.map_cons, List.map_nil]); first | done | rfl | (simp only [List.length_drop, List.length_take]; rfl)) ?_; (with_reducible refine (vinculumref44_Length.calls k _ _ l0 a1_0 a1_1 t144 t145 _ ?side1 ?side2 A9.out).mono ?_); (case side1 => repeat (first | exact (Kd.C_below HR0.out HB.out) | (with_reducible refine Kd.C_alloc ?_ _) | (with_reducible refine Kd.C_drewN ?_ _) | (with_reducible refine Kd.C_drew ?_))); (case side2 => exact HC0.out); rintro e w' ⟨rfl, ⟨nd, rfl⟩⟩; refine ⟨_, rfl, ?_⟩) | ((with_reducible refine gate_callee (f := 12) rfl ?_); refine goesL_ (some 44) rfl rfl Try.func12 (by kernel_rfl) rfl #[.slice A0 l0.length c0, .int .i64 a1_0, .int .i64 a1_1, .int .i64 a1_2] rfl (by (try simp only [List.map_toArray, List.map_cons, List.map_nil]); first | done | rfl | (simp only [List.length_drop, List.length_take]; rfl)) ?_; (with_reducible refine (demerit_Line.calls k _ _ l0 a1_0 a1_1 a1_2 t146 t147 _ ?side1 ?side2 A10.out).mono ?_); (case side1 => repeat (first | exact (Kd.C_below HR0.out (by repeat (first | (with_reducible first | exact HB.out | apply below_alloc | apply pw_below_drewN | apply below_drew1 | refine below_set ?_ GE140.out) | exact HB.out))) | (with_reducible refine Kd.C_alloc ?_ _) | (with_reducible refine Kd.C_drewN ?_ _) | (with_reducible refine Kd.C_drew ?_))); (case side2 => exact HC0.out); rintro e w32 ⟨rfl, hb⟩; refine ⟨_, rfl, ?_⟩; have n0_ := Aside0.mk (blk_below (g := gb140) (o := .cells #[.int .i64 a1_0, .int .i64 a1_1, .int .i64 a1_2, .int .i64 a1_3] 24 (0, 0)) (by (with_reducible repeat (first | refine blk_drewN ?_ _ | refine blk_drew ?_ | refine blk_alloc ?_ _)); exact BK140.out) hb); have n1_ := Aside0.mk (below_step (by repeat (first | (with_reducible first | exact HB.out | apply below_alloc | apply pw_below_drewN | apply below_drew1 | refine below_set ?_ GE140.out) | exact HB.out)) hb); clear BK140; clear HB; have BK140 := n0_; have HB := n1_; clear n0_ n1_; (try clear hb); (try clear hb2); (try clear hk); (try clear hi); have hcz33_0 : w32.cell? ⟨gb140, 0, none⟩ = some (.int .i64 a1_0) := (blk_cell BK140.out 0).trans rfl; have hcz33_1 : w32.cell? ⟨gb140, 1, none⟩ = some (.int .i64 a1_1) := (blk_cell BK140.out 1).trans rfl; have hcz33_2 : w32.cell? ⟨gb140, 2, none⟩ = some (.int .i64 a1_2) := (blk_cell BK140.out 2).trans rfl; have hcz33_3 : w32.cell? ⟨gb140, 3, none⟩ = some (.int .i64 a1_3) := (blk_cell BK140.out 3).trans rfl; have hfz33_0 := blk_frozen BK140.out 0; have hfz33_1 := blk_frozen BK140.out 1; have hfz33_2 := blk_frozen BK140.out 2; have hfz33_3 := blk_frozen BK140.out 3) | ((with_reducible refine gate_callee (f := 13) rfl ?_); refine goesL_ (some 55) rfl rfl Try.func13 (by kernel_rfl) rfl #[.slice A0 l0.length c0, .int .i64 a1_0, .int .i64 a1_1, .int .i64 a1_2] rfl (by (try simp only [List.map_toArray, List.map_cons, List.map_nil]); first | done | rfl | (simp only [List.length_drop, List.length_take]; rfl)) ?_; (with_reducible refine (vinculumref44_Line.calls k _ _ l0 a1_0 a1_1 a1_2 t148 t149 _ ?side1 ?side2 A11.out).mono ?_); (case side1 => repeat (first | exact (Kd.C_below HR0.out HB.out) | (with_reducible refine Kd.C_alloc ?_ _) | (with_reducible refine Kd.C_drewN ?_ _) | (with_reducible refine Kd.C_drew ?_))); (case side2 => exact HC0.out); rintro e w34 ⟨rfl, hb⟩; refine ⟨_, rfl, ?_⟩; have n0_ := Aside0.mk (blk_below (g := gb140) (o := .cells #[.int .i64 a1_0, .int .i64 a1_1, .int .i64 a1_2, .int .i64 a1_3] 24 (0, 0)) (by (with_reducible repeat (first | refine blk_drewN ?_ _ | refine blk_drew ?_ | refine blk_alloc ?_ _)); exact BK140.out) hb); have n1_ := Aside0.mk (below_step (by repeat (first | (with_reducible first | exact HB.out | apply below_alloc | apply pw_below_drewN | apply below_drew1 | refine below_set ?_ GE140.out) | exact HB.out)) hb); clear BK140; clear HB; have BK140 := n0_; have HB := n1_; clear n0_ n1_; (try clear hb); (try clear hb2); (try clear hk); (try clear hi)))
              go_ret
              exact ⟨by first | rfl | (simp [errW_none, errW_some] <;> rfl) | (simp [*, errW_none, errW_some] <;> rfl), by repeat (first | (with_reducible first | exact HB.out | apply below_alloc | apply pw_below_drewN | apply below_drew1 | refine below_set ?_ GE140.out) | exact HB.out)⟩
          · rw [if_neg c14] at H
            have c14b0 : (t146 == t148) = false := beq_eq_false_iff_ne.mpr c14
            have c14b1 : (t146 != t148) = true := bne_iff_ne.mpr c14
            obtain rfl := Option.some.inj H
            go_enter Try.func3, Try.ntmps3
            go_wp2_with (first | ((with_reducible refine gate_dst (N := 3) rfl ?_); refine box_event ?hg (N := 3) ?hd (cs := #[.int .i64 a1_0, .int .i64 a1_1, .int .i64 a1_2, .int .i64 a1_3]) (t := 24) ?hr ?_; (case hd => rfl); (case hg => rfl); (case hr => first | (go_simp; done) | (go_simp; rfl)); intro gb140 hg w35 hbox hb; have n0_ := Aside0.mk (below_step (by repeat (first | (with_reducible first | exact HB.out | apply below_alloc | apply pw_below_drewN | apply below_drew1) | exact HB.out)) hb); have n1_ := Aside0.mk (hbox); have n2_ := Aside0.mk ((by rw [hg]; exact (below_size (by repeat (first | (with_reducible first | exact HB.out | apply below_alloc | apply pw_below_drewN | apply below_drew1) | exact HB.out))) : w.heap.size ≤ gb140)); have n3_ := Aside0.mk ((by rw [hg]; exact (below_size (by repeat (first | (with_reducible first | exact HB.out | apply below_alloc | apply pw_below_drewN | apply below_drew1) | exact HB.out))) : w.heap.size ≤ gb140)); clear HB; have HB := n0_; have BK140 := n1_; have GW140 := n2_; have GE140 := n3_; clear n0_ n1_ n2_ n3_; clear hb hbox hg) | ((with_reducible refine gate_callee (f := 9) rfl ?_); refine goesL_ (some 13) rfl rfl Try.func9 (by kernel_rfl) rfl #[] rfl (by (try simp only [List.map_toArray, List.map_cons, List.map_nil]); first | done | rfl | (simp only [List.length_drop, List.length_take]; rfl)) ?_; (with_reducible refine (vinculumlaw44_awake.calls k  true _ A3.out).mono ?_); rintro e w36 ⟨rfl, hb⟩; refine ⟨_, rfl, ?_⟩; have n0_ := Aside0.mk (blk_below (g := gb140) (o := .cells #[.int .i64 a1_0, .int .i64 a1_1, .int .i64 a1_2, .int .i64 a1_3] 24 (0, 0)) (by (with_reducible repeat (first | refine blk_drewN ?_ _ | refine blk_drew ?_ | refine blk_alloc ?_ _)); exact BK140.out) hb); have n1_ := Aside0.mk (below_step (by repeat (first | (with_reducible first | exact HB.out | apply below_alloc | apply pw_below_drewN | apply below_drew1 | refine below_set ?_ GE140.out) | exact HB.out)) hb); clear BK140; clear HB; have BK140 := n0_; have HB := n1_; clear n0_ n1_; (try clear hb); (try clear hb2); (try clear hk); (try clear hi); have hcz37_0 : w36.cell? ⟨gb140, 0, none⟩ = some (.int .i64 a1_0) := (blk_cell BK140.out 0).trans rfl; have hcz37_1 : w36.cell? ⟨gb140, 1, none⟩ = some (.int .i64 a1_1) := (blk_cell BK140.out 1).trans rfl; have hcz37_2 : w36.cell? ⟨gb140, 2, none⟩ = some (.int .i64 a1_2) := (blk_cell BK140.out 2).trans rfl; have hcz37_3 : w36.cell? ⟨gb140, 3, none⟩ = some (.int .i64 a1_3) := (blk_cell BK140.out 3).trans rfl; have hfz37_0 := blk_frozen BK140.out 0; have hfz37_1 := blk_frozen BK140.out 1; have hfz37_2 := blk_frozen BK140.out 2; have hfz37_3 := blk_frozen BK140.out 3) | ((with_reducible refine gate_callee (f := 10) rfl ?_); refine goesL_ (some 24) rfl rfl Try.func10 (by kernel_rfl) rfl #[.slice A0 l0.length c0, .int .i64 a1_0, .int .i64 a1_1] rfl (by (try simp only [List.map_toArray, List.map_cons, List.map_nil]); first | done | rfl | (simp only [List.length_drop, List.length_take]; rfl)) ?_; (with_reducible refine (demerit_Length.calls k _ _ l0 a1_0 a1_1 t142 t143 _ ?side1 ?side2 A8.out).mono ?_); (case side1 => repeat (first | exact (Kd.C_below HR0.out HB.out) | (with_reducible refine Kd.C_alloc ?_ _) | (with_reducible refine Kd.C_drewN ?_ _) | (with_reducible refine Kd.C_drew ?_))); (case side2 => exact HC0.out); rintro e w38 ⟨rfl, hb⟩; refine ⟨_, rfl, ?_⟩; have n0_ := Aside0.mk (blk_below (g := gb140) (o := .cells #[.int .i64 a1_0, .int .i64 a1_1, .int .i64 a1_2, .int .i64 a1_3] 24 (0, 0)) (by (with_reducible repeat (first | refine blk_drewN ?_ _ | refine blk_drew ?_ | refine blk_alloc ?_ _)); exact BK140.out) hb); have n1_ := Aside0.mk (below_step (by repeat (first | (with_reducible first | exact HB.out | apply below_alloc | apply pw_below_drewN | apply below_drew1 | refine below_set ?_ GE140.out) | exact HB.out)) hb); clear BK140; clear HB; have BK140 := n0_; have HB := n1_; clear n0_ n1_; (try clear hb); (try clear hb2); (try clear hk); (try clear hi); have hcz39_0 : w38.cell? ⟨gb140, 0, none⟩ = some (.int .i64 a1_0) := (blk_cell BK140.out 0).trans rfl; have hcz39_1 : w38.cell? ⟨gb140, 1, none⟩ = some (.int .i64 a1_1) := (blk_cell BK140.out 1).trans rfl; have hcz39_2 : w38.cell? ⟨gb140, 2, none⟩ = some (.int .i64 a1_2) := (blk_cell BK140.out 2).trans rfl; have hcz39_3 : w38.cell? ⟨gb140, 3, none⟩ = some (.int .i64 a1_3) := (blk_cell BK140.out 3).trans rfl; have hfz39_0 := blk_frozen BK140.out 0; have hfz39_1 := blk_frozen BK140.out 1; have hfz39_2 := blk_frozen BK140.out 2; have hfz39_3 := blk_frozen BK140.out 3) | ((with_reducible refine gate_callee (f := 11) rfl ?_); refine goesL_ (some 33) rfl rfl Try.func11 (by kernel_rfl) rfl #[.slice A0 l0.length c0, .int .i64 a1_0, .int .i64 a1_1] rfl (by (try simp only [List.map_toArray, List.map_cons, List.map_nil]); first | done | rfl | (simp only [List.length_drop, List.length_take]; rfl)) ?_; (with_reducible refine (vinculumref44_Length.calls k _ _ l0 a1_0 a1_1 t144 t145 _ ?side1 ?side2 A9.out).mono ?_); (case side1 => repeat (first | exact (Kd.C_below HR0.out HB.out) | (with_reducible refine Kd.C_alloc ?_ _) | (with_reducible refine Kd.C_drewN ?_ _) | (with_reducible refine Kd.C_drew ?_))); (case side2 => exact HC0.out); rintro e w' ⟨rfl, ⟨nd, rfl⟩⟩; refine ⟨_, rfl, ?_⟩) | ((with_reducible refine gate_callee (f := 12) rfl ?_); refine goesL_ (some 44) rfl rfl Try.func12 (by kernel_rfl) rfl #[.slice A0 l0.length c0, .int .i64 a1_0, .int .i64 a1_1, .int .i64 a1_2] rfl (by (try simp only [List.map_toArray, List.map_cons, List.map_nil]); first | done | rfl | (simp only [List.length_drop, List.length_take]; rfl)) ?_; (with_reducible refine (demerit_Line.calls k _ _ l0 a1_0 a1_1 a1_2 t146 t147 _ ?side1 ?side2 A10.out).mono ?_); (case side1 => repeat (first | exact (Kd.C_below HR0.out (by repeat (first | (with_reducible first | exact HB.out | apply below_alloc | apply pw_below_drewN | apply below_drew1 | refine below_set ?_ GE140.out) | exact HB.out))) | (with_reducible refine Kd.C_alloc ?_ _) | (with_reducible refine Kd.C_drewN ?_ _) | (with_reducible refine Kd.C_drew ?_))); (case side2 => exact HC0.out); rintro e w40 ⟨rfl, hb⟩; refine ⟨_, rfl, ?_⟩; have n0_ := Aside0.mk (blk_below (g := gb140) (o := .cells #[.int .i64 a1_0, .int .i64 a1_1, .int .i64 a1_2, .int .i64 a1_3] 24 (0, 0)) (by (with_reducible repeat (first | refine blk_drewN ?_ _ | refine blk_drew ?_ | refine blk_alloc ?_ _)); exact BK140.out) hb); have n1_ := Aside0.mk (below_step (by repeat (first | (with_reducible first | exact HB.out | apply below_alloc | apply pw_below_drewN | apply below_drew1 | refine below_set ?_ GE140.out) | exact HB.out)) hb); clear BK140; clear HB; have BK140 := n0_; have HB := n1_; clear n0_ n1_; (try clear hb); (try clear hb2); (try clear hk); (try clear hi); have hcz41_0 : w40.cell? ⟨gb140, 0, none⟩ = some (.int .i64 a1_0) := (blk_cell BK140.out 0).trans rfl; have hcz41_1 : w40.cell? ⟨gb140, 1, none⟩ = some (.int .i64 a1_1) := (blk_cell BK140.out 1).trans rfl; have hcz41_2 : w40.cell? ⟨gb140, 2, none⟩ = some (.int .i64 a1_2) := (blk_cell BK140.out 2).trans rfl; have hcz41_3 : w40.cell? ⟨gb140, 3, none⟩ = some (.int .i64 a1_3) := (blk_cell BK140.out 3).trans rfl; have hfz41_0 := blk_frozen BK140.out 0; have hfz41_1 := blk_frozen BK140.out 1; have hfz41_2 := blk_frozen BK140.out 2; have hfz41_3 := blk_frozen BK140.out 3) | ((with_reducible refine gate_callee (f := 13) rfl ?_); refine goesL_ (some 55) rfl rfl Try.func13 (by kernel_rfl) rfl #[.slice A0 l0.length c0, .int .i64 a1_0, .int .i64 a1_1, .int .i64 a1_2] rfl (by (try simp only [List.map_toArray, List.map_cons, List.map_nil]); first | done | rfl | (simp only [List.length_drop, List.length_take]; rfl)) ?_; (with_reducible refine (vinculumref44_Line.calls k _ _ l0 a1_0 a1_1 a1_2 t148 t149 _ ?side1 ?side2 A11.out).mono ?_); (case side1 => repeat (first | exact (Kd.C_below HR0.out HB.out) | (with_reducible refine Kd.C_alloc ?_ _) | (with_reducible refine Kd.C_drewN ?_ _) | (with_reducible refine Kd.C_drew ?_))); (case side2 => exact HC0.out); rintro e w42 ⟨rfl, hb⟩; refine ⟨_, rfl, ?_⟩; have n0_ := Aside0.mk (blk_below (g := gb140) (o := .cells #[.int .i64 a1_0, .int .i64 a1_1, .int .i64 a1_2, .int .i64 a1_3] 24 (0, 0)) (by (with_reducible repeat (first | refine blk_drewN ?_ _ | refine blk_drew ?_ | refine blk_alloc ?_ _)); exact BK140.out) hb); have n1_ := Aside0.mk (below_step (by repeat (first | (with_reducible first | exact HB.out | apply below_alloc | apply pw_below_drewN | apply below_drew1 | refine below_set ?_ GE140.out) | exact HB.out)) hb); clear BK140; clear HB; have BK140 := n0_; have HB := n1_; clear n0_ n1_; (try clear hb); (try clear hb2); (try clear hk); (try clear hi)))
            go_ret
            exact ⟨by first | rfl | (simp [errW_none, errW_some] <;> rfl) | (simp [*, errW_none, errW_some] <;> rfl), by repeat (first | (with_reducible first | exact HB.out | apply below_alloc | apply pw_below_drewN | apply below_drew1 | refine below_set ?_ GE140.out) | exact HB.out)⟩
        · rw [if_neg c13] at H
          have c13b0 : (t143 == t145) = false := beq_eq_false_iff_ne.mpr c13
          have c13b1 : (t143 != t145) = true := bne_iff_ne.mpr c13
          obtain rfl := Option.some.inj H
          go_enter Try.func3, Try.ntmps3
          go_wp2_with (first | ((with_reducible refine gate_dst (N := 3) rfl ?_); refine box_event ?hg (N := 3) ?hd (cs := #[.int .i64 a1_0, .int .i64 a1_1, .int .i64 a1_2, .int .i64 a1_3]) (t := 24) ?hr ?_; (case hd => rfl); (case hg => rfl); (case hr => first | (go_simp; done) | (go_simp; rfl)); intro gb140 hg w43 hbox hb; have n0_ := Aside0.mk (below_step (by repeat (first | (with_reducible first | exact HB.out | apply below_alloc | apply pw_below_drewN | apply below_drew1) | exact HB.out)) hb); have n1_ := Aside0.mk (hbox); have n2_ := Aside0.mk ((by rw [hg]; exact (below_size (by repeat (first | (with_reducible first | exact HB.out | apply below_alloc | apply pw_below_drewN | apply below_drew1) | exact HB.out))) : w.heap.size ≤ gb140)); have n3_ := Aside0.mk ((by rw [hg]; exact (below_size (by repeat (first | (with_reducible first | exact HB.out | apply below_alloc | apply pw_below_drewN | apply below_drew1) | exact HB.out))) : w.heap.size ≤ gb140)); clear HB; have HB := n0_; have BK140 := n1_; have GW140 := n2_; have GE140 := n3_; clear n0_ n1_ n2_ n3_; clear hb hbox hg) | ((with_reducible refine gate_callee (f := 9) rfl ?_); refine goesL_ (some 13) rfl rfl Try.func9 (by kernel_rfl) rfl #[] rfl (by (try simp only [List.map_toArray, List.map_cons, List.map_nil]); first | done | rfl | (simp only [List.length_drop, List.length_take]; rfl)) ?_; (with_reducible refine (vinculumlaw44_awake.calls k  true _ A3.out).mono ?_); rintro e w44 ⟨rfl, hb⟩; refine ⟨_, rfl, ?_⟩; have n0_ := Aside0.mk (blk_below (g := gb140) (o := .cells #[.int .i64 a1_0, .int .i64 a1_1, .int .i64 a1_2, .int .i64 a1_3] 24 (0, 0)) (by (with_reducible repeat (first | refine blk_drewN ?_ _ | refine blk_drew ?_ | refine blk_alloc ?_ _)); exact BK140.out) hb); have n1_ := Aside0.mk (below_step (by repeat (first | (with_reducible first | exact HB.out | apply below_alloc | apply pw_below_drewN | apply below_drew1 | refine below_set ?_ GE140.out) | exact HB.out)) hb); clear BK140; clear HB; have BK140 := n0_; have HB := n1_; clear n0_ n1_; (try clear hb); (try clear hb2); (try clear hk); (try clear hi); have hcz45_0 : w44.cell? ⟨gb140, 0, none⟩ = some (.int .i64 a1_0) := (blk_cell BK140.out 0).trans rfl; have hcz45_1 : w44.cell? ⟨gb140, 1, none⟩ = some (.int .i64 a1_1) := (blk_cell BK140.out 1).trans rfl; have hcz45_2 : w44.cell? ⟨gb140, 2, none⟩ = some (.int .i64 a1_2) := (blk_cell BK140.out 2).trans rfl; have hcz45_3 : w44.cell? ⟨gb140, 3, none⟩ = some (.int .i64 a1_3) := (blk_cell BK140.out 3).trans rfl; have hfz45_0 := blk_frozen BK140.out 0; have hfz45_1 := blk_frozen BK140.out 1; have hfz45_2 := blk_frozen BK140.out 2; have hfz45_3 := blk_frozen BK140.out 3) | ((with_reducible refine gate_callee (f := 10) rfl ?_); refine goesL_ (some 24) rfl rfl Try.func10 (by kernel_rfl) rfl #[.slice A0 l0.length c0, .int .i64 a1_0, .int .i64 a1_1] rfl (by (try simp only [List.map_toArray, List.map_cons, List.map_nil]); first | done | rfl | (simp only [List.length_drop, List.length_take]; rfl)) ?_; (with_reducible refine (demerit_Length.calls k _ _ l0 a1_0 a1_1 t142 t143 _ ?side1 ?side2 A8.out).mono ?_); (case side1 => repeat (first | exact (Kd.C_below HR0.out HB.out) | (with_reducible refine Kd.C_alloc ?_ _) | (with_reducible refine Kd.C_drewN ?_ _) | (with_reducible refine Kd.C_drew ?_))); (case side2 => exact HC0.out); rintro e w46 ⟨rfl, hb⟩; refine ⟨_, rfl, ?_⟩; have n0_ := Aside0.mk (blk_below (g := gb140) (o := .cells #[.int .i64 a1_0, .int .i64 a1_1, .int .i64 a1_2, .int .i64 a1_3] 24 (0, 0)) (by (with_reducible repeat (first | refine blk_drewN ?_ _ | refine blk_drew ?_ | refine blk_alloc ?_ _)); exact BK140.out) hb); have n1_ := Aside0.mk (below_step (by repeat (first | (with_reducible first | exact HB.out | apply below_alloc | apply pw_below_drewN | apply below_drew1 | refine below_set ?_ GE140.out) | exact HB.out)) hb); clear BK140; clear HB; have BK140 := n0_; have HB := n1_; clear n0_ n1_; (try clear hb); (try clear hb2); (try clear hk); (try clear hi); have hcz47_0 : w46.cell? ⟨gb140, 0, none⟩ = some (.int .i64 a1_0) := (blk_cell BK140.out 0).trans rfl; have hcz47_1 : w46.cell? ⟨gb140, 1, none⟩ = some (.int .i64 a1_1) := (blk_cell BK140.out 1).trans rfl; have hcz47_2 : w46.cell? ⟨gb140, 2, none⟩ = some (.int .i64 a1_2) := (blk_cell BK140.out 2).trans rfl; have hcz47_3 : w46.cell? ⟨gb140, 3, none⟩ = some (.int .i64 a1_3) := (blk_cell BK140.out 3).trans rfl; have hfz47_0 := blk_frozen BK140.out 0; have hfz47_1 := blk_frozen BK140.out 1; have hfz47_2 := blk_frozen BK140.out 2; have hfz47_3 := blk_frozen BK140.out 3) | ((with_reducible refine gate_callee (f := 11) rfl ?_); refine goesL_ (some 33) rfl rfl Try.func11 (by kernel_rfl) rfl #[.slice A0 l0.length c0, .int .i64 a1_0, .int .i64 a1_1] rfl (by (try simp only [List.map_toArray, List.map_cons, List.map_nil]); first | done | rfl | (simp only [List.length_drop, List.length_take]; rfl)) ?_; (with_reducible refine (vinculumref44_Length.calls k _ _ l0 a1_0 a1_1 t144 t145 _ ?side1 ?side2 A9.out).mono ?_); (case side1 => repeat (first | exact (Kd.C_below HR0.out HB.out) | (with_reducible refine Kd.C_alloc ?_ _) | (with_reducible refine Kd.C_drewN ?_ _) | (with_reducible refine Kd.C_drew ?_))); (case side2 => exact HC0.out); rintro e w' ⟨rfl, ⟨nd, rfl⟩⟩; refine ⟨_, rfl, ?_⟩) | ((with_reducible refine gate_callee (f := 12) rfl ?_); refine goesL_ (some 44) rfl rfl Try.func12 (by kernel_rfl) rfl #[.slice A0 l0.length c0, .int .i64 a1_0, .int .i64 a1_1, .int .i64 a1_2] rfl (by (try simp only [List.map_toArray, List.map_cons, List.map_nil]); first | done | rfl | (simp only [List.length_drop, List.length_take]; rfl)) ?_; (with_reducible refine (demerit_Line.calls k _ _ l0 a1_0 a1_1 a1_2 t146 t147 _ ?side1 ?side2 A10.out).mono ?_); (case side1 => repeat (first | exact (Kd.C_below HR0.out (by repeat (first | (with_reducible first | exact HB.out | apply below_alloc | apply pw_below_drewN | apply below_drew1 | refine below_set ?_ GE140.out) | exact HB.out))) | (with_reducible refine Kd.C_alloc ?_ _) | (with_reducible refine Kd.C_drewN ?_ _) | (with_reducible refine Kd.C_drew ?_))); (case side2 => exact HC0.out); rintro e w48 ⟨rfl, hb⟩; refine ⟨_, rfl, ?_⟩; have n0_ := Aside0.mk (blk_below (g := gb140) (o := .cells #[.int .i64 a1_0, .int .i64 a1_1, .int .i64 a1_2, .int .i64 a1_3] 24 (0, 0)) (by (with_reducible repeat (first | refine blk_drewN ?_ _ | refine blk_drew ?_ | refine blk_alloc ?_ _)); exact BK140.out) hb); have n1_ := Aside0.mk (below_step (by repeat (first | (with_reducible first | exact HB.out | apply below_alloc | apply pw_below_drewN | apply below_drew1 | refine below_set ?_ GE140.out) | exact HB.out)) hb); clear BK140; clear HB; have BK140 := n0_; have HB := n1_; clear n0_ n1_; (try clear hb); (try clear hb2); (try clear hk); (try clear hi); have hcz49_0 : w48.cell? ⟨gb140, 0, none⟩ = some (.int .i64 a1_0) := (blk_cell BK140.out 0).trans rfl; have hcz49_1 : w48.cell? ⟨gb140, 1, none⟩ = some (.int .i64 a1_1) := (blk_cell BK140.out 1).trans rfl; have hcz49_2 : w48.cell? ⟨gb140, 2, none⟩ = some (.int .i64 a1_2) := (blk_cell BK140.out 2).trans rfl; have hcz49_3 : w48.cell? ⟨gb140, 3, none⟩ = some (.int .i64 a1_3) := (blk_cell BK140.out 3).trans rfl; have hfz49_0 := blk_frozen BK140.out 0; have hfz49_1 := blk_frozen BK140.out 1; have hfz49_2 := blk_frozen BK140.out 2; have hfz49_3 := blk_frozen BK140.out 3) | ((with_reducible refine gate_callee (f := 13) rfl ?_); refine goesL_ (some 55) rfl rfl Try.func13 (by kernel_rfl) rfl #[.slice A0 l0.length c0, .int .i64 a1_0, .int .i64 a1_1, .int .i64 a1_2] rfl (by (try simp only [List.map_toArray, List.map_cons, List.map_nil]); first | done | rfl | (simp only [List.length_drop, List.length_take]; rfl)) ?_; (with_reducible refine (vinculumref44_Line.calls k _ _ l0 a1_0 a1_1 a1_2 t148 t149 _ ?side1 ?side2 A11.out).mono ?_); (case side1 => repeat (first | exact (Kd.C_below HR0.out HB.out) | (with_reducible refine Kd.C_alloc ?_ _) | (with_reducible refine Kd.C_drewN ?_ _) | (with_reducible refine Kd.C_drew ?_))); (case side2 => exact HC0.out); rintro e w50 ⟨rfl, hb⟩; refine ⟨_, rfl, ?_⟩; have n0_ := Aside0.mk (blk_below (g := gb140) (o := .cells #[.int .i64 a1_0, .int .i64 a1_1, .int .i64 a1_2, .int .i64 a1_3] 24 (0, 0)) (by (with_reducible repeat (first | refine blk_drewN ?_ _ | refine blk_drew ?_ | refine blk_alloc ?_ _)); exact BK140.out) hb); have n1_ := Aside0.mk (below_step (by repeat (first | (with_reducible first | exact HB.out | apply below_alloc | apply pw_below_drewN | apply below_drew1 | refine below_set ?_ GE140.out) | exact HB.out)) hb); clear BK140; clear HB; have BK140 := n0_; have HB := n1_; clear n0_ n1_; (try clear hb); (try clear hb2); (try clear hk); (try clear hi)))
          go_ret
          exact ⟨by first | rfl | (simp [errW_none, errW_some] <;> rfl) | (simp [*, errW_none, errW_some] <;> rfl), by repeat (first | (with_reducible first | exact HB.out | apply below_alloc | apply pw_below_drewN | apply below_drew1 | refine below_set ?_ GE140.out) | exact HB.out)⟩
      · rw [if_neg c12] at H
        have c12b0 : (t142 == t144) = false := beq_eq_false_iff_ne.mpr c12
        have c12b1 : (t142 != t144) = true := bne_iff_ne.mpr c12
        obtain rfl := Option.some.inj H
        go_enter Try.func3, Try.ntmps3
        go_wp2_with (first | ((with_reducible refine gate_dst (N := 3) rfl ?_); refine box_event ?hg (N := 3) ?hd (cs := #[.int .i64 a1_0, .int .i64 a1_1, .int .i64 a1_2, .int .i64 a1_3]) (t := 24) ?hr ?_; (case hd => rfl); (case hg => rfl); (case hr => first | (go_simp; done) | (go_simp; rfl)); intro gb140 hg w51 hbox hb; have n0_ := Aside0.mk (below_step (by repeat (first | (with_reducible first | exact HB.out | apply below_alloc | apply pw_below_drewN | apply below_drew1) | exact HB.out)) hb); have n1_ := Aside0.mk (hbox); have n2_ := Aside0.mk ((by rw [hg]; exact (below_size (by repeat (first | (with_reducible first | exact HB.out | apply below_alloc | apply pw_below_drewN | apply below_drew1) | exact HB.out))) : w.heap.size ≤ gb140)); have n3_ := Aside0.mk ((by rw [hg]; exact (below_size (by repeat (first | (with_reducible first | exact HB.out | apply below_alloc | apply pw_below_drewN | apply below_drew1) | exact HB.out))) : w.heap.size ≤ gb140)); clear HB; have HB := n0_; have BK140 := n1_; have GW140 := n2_; have GE140 := n3_; clear n0_ n1_ n2_ n3_; clear hb hbox hg) | ((with_reducible refine gate_callee (f := 9) rfl ?_); refine goesL_ (some 13) rfl rfl Try.func9 (by kernel_rfl) rfl #[] rfl (by (try simp only [List.map_toArray, List.map_cons, List.map_nil]); first | done | rfl | (simp only [List.length_drop, List.length_take]; rfl)) ?_; (with_reducible refine (vinculumlaw44_awake.calls k  true _ A3.out).mono ?_); rintro e w52 ⟨rfl, hb⟩; refine ⟨_, rfl, ?_⟩; have n0_ := Aside0.mk (blk_below (g := gb140) (o := .cells #[.int .i64 a1_0, .int .i64 a1_1, .int .i64 a1_2, .int .i64 a1_3] 24 (0, 0)) (by (with_reducible repeat (first | refine blk_drewN ?_ _ | refine blk_drew ?_ | refine blk_alloc ?_ _)); exact BK140.out) hb); have n1_ := Aside0.mk (below_step (by repeat (first | (with_reducible first | exact HB.out | apply below_alloc | apply pw_below_drewN | apply below_drew1 | refine below_set ?_ GE140.out) | exact HB.out)) hb); clear BK140; clear HB; have BK140 := n0_; have HB := n1_; clear n0_ n1_; (try clear hb); (try clear hb2); (try clear hk); (try clear hi); have hcz53_0 : w52.cell? ⟨gb140, 0, none⟩ = some (.int .i64 a1_0) := (blk_cell BK140.out 0).trans rfl; have hcz53_1 : w52.cell? ⟨gb140, 1, none⟩ = some (.int .i64 a1_1) := (blk_cell BK140.out 1).trans rfl; have hcz53_2 : w52.cell? ⟨gb140, 2, none⟩ = some (.int .i64 a1_2) := (blk_cell BK140.out 2).trans rfl; have hcz53_3 : w52.cell? ⟨gb140, 3, none⟩ = some (.int .i64 a1_3) := (blk_cell BK140.out 3).trans rfl; have hfz53_0 := blk_frozen BK140.out 0; have hfz53_1 := blk_frozen BK140.out 1; have hfz53_2 := blk_frozen BK140.out 2; have hfz53_3 := blk_frozen BK140.out 3) | ((with_reducible refine gate_callee (f := 10) rfl ?_); refine goesL_ (some 24) rfl rfl Try.func10 (by kernel_rfl) rfl #[.slice A0 l0.length c0, .int .i64 a1_0, .int .i64 a1_1] rfl (by (try simp only [List.map_toArray, List.map_cons, List.map_nil]); first | done | rfl | (simp only [List.length_drop, List.length_take]; rfl)) ?_; (with_reducible refine (demerit_Length.calls k _ _ l0 a1_0 a1_1 t142 t143 _ ?side1 ?side2 A8.out).mono ?_); (case side1 => repeat (first | exact (Kd.C_below HR0.out HB.out) | (with_reducible refine Kd.C_alloc ?_ _) | (with_reducible refine Kd.C_drewN ?_ _) | (with_reducible refine Kd.C_drew ?_))); (case side2 => exact HC0.out); rintro e w54 ⟨rfl, hb⟩; refine ⟨_, rfl, ?_⟩; have n0_ := Aside0.mk (blk_below (g := gb140) (o := .cells #[.int .i64 a1_0, .int .i64 a1_1, .int .i64 a1_2, .int .i64 a1_3] 24 (0, 0)) (by (with_reducible repeat (first | refine blk_drewN ?_ _ | refine blk_drew ?_ | refine blk_alloc ?_ _)); exact BK140.out) hb); have n1_ := Aside0.mk (below_step (by repeat (first | (with_reducible first | exact HB.out | apply below_alloc | apply pw_below_drewN | apply below_drew1 | refine below_set ?_ GE140.out) | exact HB.out)) hb); clear BK140; clear HB; have BK140 := n0_; have HB := n1_; clear n0_ n1_; (try clear hb); (try clear hb2); (try clear hk); (try clear hi); have hcz55_0 : w54.cell? ⟨gb140, 0, none⟩ = some (.int .i64 a1_0) := (blk_cell BK140.out 0).trans rfl; have hcz55_1 : w54.cell? ⟨gb140, 1, none⟩ = some (.int .i64 a1_1) := (blk_cell BK140.out 1).trans rfl; have hcz55_2 : w54.cell? ⟨gb140, 2, none⟩ = some (.int .i64 a1_2) := (blk_cell BK140.out 2).trans rfl; have hcz55_3 : w54.cell? ⟨gb140, 3, none⟩ = some (.int .i64 a1_3) := (blk_cell BK140.out 3).trans rfl; have hfz55_0 := blk_frozen BK140.out 0; have hfz55_1 := blk_frozen BK140.out 1; have hfz55_2 := blk_frozen BK140.out 2; have hfz55_3 := blk_frozen BK140.out 3) | ((with_reducible refine gate_callee (f := 11) rfl ?_); refine goesL_ (some 33) rfl rfl Try.func11 (by kernel_rfl) rfl #[.slice A0 l0.length c0, .int .i64 a1_0, .int .i64 a1_1] rfl (by (try simp only [List.map_toArray, List.map_cons, List.map_nil]); first | done | rfl | (simp only [List.length_drop, List.length_take]; rfl)) ?_; (with_reducible refine (vinculumref44_Length.calls k _ _ l0 a1_0 a1_1 t144 t145 _ ?side1 ?side2 A9.out).mono ?_); (case side1 => repeat (first | exact (Kd.C_below HR0.out HB.out) | (with_reducible refine Kd.C_alloc ?_ _) | (with_reducible refine Kd.C_drewN ?_ _) | (with_reducible refine Kd.C_drew ?_))); (case side2 => exact HC0.out); rintro e w' ⟨rfl, ⟨nd, rfl⟩⟩; refine ⟨_, rfl, ?_⟩) | ((with_reducible refine gate_callee (f := 12) rfl ?_); refine goesL_ (some 44) rfl rfl Try.func12 (by kernel_rfl) rfl #[.slice A0 l0.length c0, .int .i64 a1_0, .int .i64 a1_1, .int .i64 a1_2] rfl (by (try simp only [List.map_toArray, List.map_cons, List.map_nil]); first | done | rfl | (simp only [List.length_drop, List.length_take]; rfl)) ?_; (with_reducible refine (demerit_Line.calls k _ _ l0 a1_0 a1_1 a1_2 t146 t147 _ ?side1 ?side2 A10.out).mono ?_); (case side1 => repeat (first | exact (Kd.C_below HR0.out (by repeat (first | (with_reducible first | exact HB.out | apply below_alloc | apply pw_below_drewN | apply below_drew1 | refine below_set ?_ GE140.out) | exact HB.out))) | (with_reducible refine Kd.C_alloc ?_ _) | (with_reducible refine Kd.C_drewN ?_ _) | (with_reducible refine Kd.C_drew ?_))); (case side2 => exact HC0.out); rintro e w56 ⟨rfl, hb⟩; refine ⟨_, rfl, ?_⟩; have n0_ := Aside0.mk (blk_below (g := gb140) (o := .cells #[.int .i64 a1_0, .int .i64 a1_1, .int .i64 a1_2, .int .i64 a1_3] 24 (0, 0)) (by (with_reducible repeat (first | refine blk_drewN ?_ _ | refine blk_drew ?_ | refine blk_alloc ?_ _)); exact BK140.out) hb); have n1_ := Aside0.mk (below_step (by repeat (first | (with_reducible first | exact HB.out | apply below_alloc | apply pw_below_drewN | apply below_drew1 | refine below_set ?_ GE140.out) | exact HB.out)) hb); clear BK140; clear HB; have BK140 := n0_; have HB := n1_; clear n0_ n1_; (try clear hb); (try clear hb2); (try clear hk); (try clear hi); have hcz57_0 : w56.cell? ⟨gb140, 0, none⟩ = some (.int .i64 a1_0) := (blk_cell BK140.out 0).trans rfl; have hcz57_1 : w56.cell? ⟨gb140, 1, none⟩ = some (.int .i64 a1_1) := (blk_cell BK140.out 1).trans rfl; have hcz57_2 : w56.cell? ⟨gb140, 2, none⟩ = some (.int .i64 a1_2) := (blk_cell BK140.out 2).trans rfl; have hcz57_3 : w56.cell? ⟨gb140, 3, none⟩ = some (.int .i64 a1_3) := (blk_cell BK140.out 3).trans rfl; have hfz57_0 := blk_frozen BK140.out 0; have hfz57_1 := blk_frozen BK140.out 1; have hfz57_2 := blk_frozen BK140.out 2; have hfz57_3 := blk_frozen BK140.out 3) | ((with_reducible refine gate_callee (f := 13) rfl ?_); refine goesL_ (some 55) rfl rfl Try.func13 (by kernel_rfl) rfl #[.slice A0 l0.length c0, .int .i64 a1_0, .int .i64 a1_1, .int .i64 a1_2] rfl (by (try simp only [List.map_toArray, List.map_cons, List.map_nil]); first | done | rfl | (simp only [List.length_drop, List.length_take]; rfl)) ?_; (with_reducible refine (vinculumref44_Line.calls k _ _ l0 a1_0 a1_1 a1_2 t148 t149 _ ?side1 ?side2 A11.out).mono ?_); (case side1 => repeat (first | exact (Kd.C_below HR0.out HB.out) | (with_reducible refine Kd.C_alloc ?_ _) | (with_reducible refine Kd.C_drewN ?_ _) | (with_reducible refine Kd.C_drew ?_))); (case side2 => exact HC0.out); rintro e w58 ⟨rfl, hb⟩; refine ⟨_, rfl, ?_⟩; have n0_ := Aside0.mk (blk_below (g := gb140) (o := .cells #[.int .i64 a1_0, .int .i64 a1_1, .int .i64 a1_2, .int .i64 a1_3] 24 (0, 0)) (by (with_reducible repeat (first | refine blk_drewN ?_ _ | refine blk_drew ?_ | refine blk_alloc ?_ _)); exact BK140.out) hb); have n1_ := Aside0.mk (below_step (by repeat (first | (with_reducible first | exact HB.out | apply below_alloc | apply pw_below_drewN | apply below_drew1 | refine below_set ?_ GE140.out) | exact HB.out)) hb); clear BK140; clear HB; have BK140 := n0_; have HB := n1_; clear n0_ n1_; (try clear hb); (try clear hb2); (try clear hk); (try clear hi)))
        go_ret
        exact ⟨by first | rfl | (simp [errW_none, errW_some] <;> rfl) | (simp [*, errW_none, errW_some] <;> rfl), by repeat (first | (with_reducible first | exact HB.out | apply below_alloc | apply pw_below_drewN | apply below_drew1 | refine below_set ?_ GE140.out) | exact HB.out)⟩
  · replace c4 := Bool.eq_false_iff.mpr c4
    subst c4
    have H1 : (some false) = some r := by rw [if_neg (show ¬ (false = true) by decide)] at H; exact H
    clear H
    have H := H1
    clear H1
    obtain rfl := Option.some.inj H
    go_enter Try.func3, Try.ntmps3
    go_wp2_with (first | ((with_reducible refine gate_dst (N := 3) rfl ?_); refine box_event ?hg (N := 3) ?hd (cs := #[.int .i64 a1_0, .int .i64 a1_1, .int .i64 a1_2, .int .i64 a1_3]) (t := 24) ?hr ?_; (case hd => rfl); (case hg => rfl); (case hr => first | (go_simp; done) | (go_simp; rfl)); intro gb140 hg w59 hbox hb; have n0_ := Aside0.mk (below_step (by repeat (first | (with_reducible first | exact HB.out | apply below_alloc | apply pw_below_drewN | apply below_drew1) | exact HB.out)) hb); have n1_ := Aside0.mk (hbox); have n2_ := Aside0.mk ((by rw [hg]; exact (below_size (by repeat (first | (with_reducible first | exact HB.out | apply below_alloc | apply pw_below_drewN | apply below_drew1) | exact HB.out))) : w.heap.size ≤ gb140)); have n3_ := Aside0.mk ((by rw [hg]; exact (below_size (by repeat (first | (with_reducible first | exact HB.out | apply below_alloc | apply pw_below_drewN | apply below_drew1) | exact HB.out))) : w.heap.size ≤ gb140)); clear HB; have HB := n0_; have BK140 := n1_; have GW140 := n2_; have GE140 := n3_; clear n0_ n1_ n2_ n3_; clear hb hbox hg) | ((with_reducible refine gate_callee (f := 9) rfl ?_); refine goesL_ (some 13) rfl rfl Try.func9 (by kernel_rfl) rfl #[] rfl (by (try simp only [List.map_toArray, List.map_cons, List.map_nil]); first | done | rfl | (simp only [List.length_drop, List.length_take]; rfl)) ?_; (with_reducible refine (vinculumlaw44_awake.calls k  false _ A3.out).mono ?_); rintro e w60 ⟨rfl, hb⟩; refine ⟨_, rfl, ?_⟩; have n0_ := Aside0.mk (blk_below (g := gb140) (o := .cells #[.int .i64 a1_0, .int .i64 a1_1, .int .i64 a1_2, .int .i64 a1_3] 24 (0, 0)) (by (with_reducible repeat (first | refine blk_drewN ?_ _ | refine blk_drew ?_ | refine blk_alloc ?_ _)); exact BK140.out) hb); have n1_ := Aside0.mk (below_step (by repeat (first | (with_reducible first | exact HB.out | apply below_alloc | apply pw_below_drewN | apply below_drew1 | refine below_set ?_ GE140.out) | exact HB.out)) hb); clear BK140; clear HB; have BK140 := n0_; have HB := n1_; clear n0_ n1_; (try clear hb); (try clear hb2); (try clear hk); (try clear hi)))
    go_ret
    exact ⟨by first | rfl | (simp [errW_none, errW_some] <;> rfl) | (simp [*, errW_none, errW_some] <;> rfl), by repeat (first | (with_reducible first | exact HB.out | apply below_alloc | apply pw_below_drewN | apply below_drew1 | refine below_set ?_ GE140.out) | exact HB.out)⟩

/-! ### vinculumref44_Fits: function 16 -/
def vinculumref44_Fits.f (a0 : Int) (a1 : Int) : Option (Bool) := (vinculumref44_within.f a0 1 10000000).bind fun t152 => (if t152 = true then ((vinculumref44_within.f a1 0 (wrap64 (a0 - 1))).bind fun t153 => (some t153)) else (some false))
set_option maxHeartbeats 8000000 in
set_option maxRecDepth 100000 in
theorem vinculumref44_Fits.calls (a0 : Int) (a1 : Int) (r : Bool) (w : World) (h : vinculumref44_Fits.f a0 a1 = some r) :
    Calls Try.prog 16 #[.int .i64 a0, .int .i64 a1] w fun e w' => e = .returned (.bool r) ∧ Drawn0 w w' := by
  have H : ((vinculumref44_within.f a0 1 10000000).bind fun t152 => (if t152 = true then ((vinculumref44_within.f a1 0 (wrap64 (a0 - 1))).bind fun t153 => (some t153)) else (some false))) = some r := h
  clear h
  replace H := Option.bind_eq_some_iff.mp H
  obtain ⟨t152, A30, H⟩ := H
  replace H : (if t152 = true then ((vinculumref44_within.f a1 0 (wrap64 (a0 - 1))).bind fun t153 => (some t153)) else (some false)) = some r := H
  have A3 := Aside0.mk A30
  clear A30
  by_cases c4 : t152 = true
  · subst c4
    have H1 : ((vinculumref44_within.f a1 0 (wrap64 (a0 - 1))).bind fun t153 => (some t153)) = some r := by rw [if_pos rfl] at H; exact H
    clear H
    have H := H1
    clear H1
    replace H := Option.bind_eq_some_iff.mp H
    obtain ⟨t153, A50, H⟩ := H
    replace H : (some t153) = some r := H
    have A5 := Aside0.mk A50
    clear A50
    obtain rfl := Option.some.inj H
    go_enter Try.func16, Try.ntmps16
    go_wp2_with (first | ((with_reducible refine gate_callee (f := 23) rfl ?_); refine goesL_ (some 6) rfl rfl Try.func23 (by kernel_rfl) rfl #[.int .i64 a0, .int .i64 1, .int .i64 10000000] rfl (by (try simp only [List.map_toArray, List.map_cons, List.map_nil]); first | done | rfl | (simp only [List.length_drop, List.length_take]; rfl)) ?_; (with_reducible refine (vinculumref44_within.calls a0 1 10000000 true _ A3.out).mono ?_); rintro e w' ⟨rfl, ⟨nd, rfl⟩⟩; refine ⟨_, rfl, ?_⟩) | (go_at_call 23; (with_reducible refine (vinculumref44_within.calls a1 0 (wrap64 (a0 - 1)) t153 _ A5.out).mono ?_); rintro e w' ⟨rfl, ⟨nd, rfl⟩⟩))
    go_ret
    exact ⟨by first | rfl | (simp; done) | (simp [*]; done), by repeat (first | exact Drawn0.refl _ | apply Drawn0.step)⟩
  · replace c4 := Bool.eq_false_iff.mpr c4
    subst c4
    have H1 : (some false) = some r := by rw [if_neg (show ¬ (false = true) by decide)] at H; exact H
    clear H
    have H := H1
    clear H1
    obtain rfl := Option.some.inj H
    go_enter Try.func16, Try.ntmps16
    go_wp2_with (first | ((with_reducible refine gate_callee (f := 23) rfl ?_); refine goesL_ (some 6) rfl rfl Try.func23 (by kernel_rfl) rfl #[.int .i64 a0, .int .i64 1, .int .i64 10000000] rfl (by (try simp only [List.map_toArray, List.map_cons, List.map_nil]); first | done | rfl | (simp only [List.length_drop, List.length_take]; rfl)) ?_; (with_reducible refine (vinculumref44_within.calls a0 1 10000000 false _ A3.out).mono ?_); rintro e w' ⟨rfl, ⟨nd, rfl⟩⟩; refine ⟨_, rfl, ?_⟩))
    go_ret
    exact ⟨by first | rfl | (simp; done) | (simp [*]; done), by repeat (first | exact Drawn0.refl _ | apply Drawn0.step)⟩

/-! ### vinculumlaw44_DemeritBounds: function 5 -/
def vinculumlaw44_DemeritBounds.j0 : Nat → List (S34) → Bool → Int → Int → Int → Int → Option (Bool)
  | 0, _, _, _, _, _, _ => none
  | k + 1, x0, x19, x155000, x155001, x155002, x155003 => if x19 = true then (some true) else ((demerit_Length.f k x0 x155000 x155001).bind fun bt158 => ((demerit_Line.f k x0 x155000 x155001 x155002).bind fun bt160 => (if bt158.2 = 0 then (if bt158.1 > x155002 then (if (wrap64 (x155001 - x155000)) > 1 then (some (bt160.2 == 6)) else (if bt160.2 = 0 then (if bt160.1 ≤ 1000000000 then (some (decide (bt160.1 ≥ (-1000000000)))) else (some false)) else (some false))) else (if bt160.2 = 0 then (if bt160.1 ≤ 1000000000 then (some (decide (bt160.1 ≥ (-1000000000)))) else (some false)) else (some false))) else (if bt158.2 = 2 then (some (bt160.2 == 2)) else (some false)))))
def vinculumlaw44_DemeritBounds.f (k : Nat) (l0 : List (S34)) (a1_0 : Int) (a1_1 : Int) (a1_2 : Int) (a1_3 : Int) : Option (Bool) := (vinculumlaw44_awake.f k).bind fun t155 => (if t155 = true then ((vinculumref44_Valid.f k l0).bind fun t156 => (if t156 = true then ((vinculumref44_Fits.f a1_2 0).bind fun t157 => (vinculumlaw44_DemeritBounds.j0 k l0 (!t157) a1_0 a1_1 a1_2 a1_3)) else (vinculumlaw44_DemeritBounds.j0 k l0 true a1_0 a1_1 a1_2 a1_3))) else (some false))
theorem vinculumlaw44_DemeritBounds.mono_l : ∀ k, (∀ y0 y1 y2 y3 y4 y5, LeO (vinculumlaw44_DemeritBounds.j0 k y0 y1 y2 y3 y4 y5) (vinculumlaw44_DemeritBounds.j0 (k + 1) y0 y1 y2 y3 y4 y5))
  | 0 => fun _ _ _ _ _ _ r h => by simp [vinculumlaw44_DemeritBounds.j0] at h
  | k + 1 => by
    have ih0 := vinculumlaw44_DemeritBounds.mono_l k
    · intro y0 y1 y2 y3 y4 y5
      unfold vinculumlaw44_DemeritBounds.j0
      repeat' first
      | (with_reducible exact ih0 _ _ _ _ _ _)
      | (with_reducible exact demerit_Length.mono _ _ _ _)
      | (with_reducible exact demerit_Line.mono _ _ _ _ _)
      | (with_reducible exact vinculumlaw44_awake.mono _)
      | (with_reducible exact vinculumref44_Valid.mono _ _)
      | (with_reducible exact LeO.refl _)
      | (with_reducible exact LeO.none _)
      | (with_reducible refine LeO.ite ?_ ?_)
      | (with_reducible refine LeO.bind ?_ (fun _ => ?_))
      | exact ih0 _ _ _ _ _ _
      | exact demerit_Length.mono _ _ _ _
      | exact demerit_Line.mono _ _ _ _ _
      | exact vinculumlaw44_awake.mono _
      | exact vinculumref44_Valid.mono _ _
      | exact LeO.none _
      | refine LeO.ite ?_ ?_
      | refine LeO.bind ?_ (fun _ => ?_)
theorem vinculumlaw44_DemeritBounds.mono : ∀ a0 a1 a2 a3 a4 k, LeO (vinculumlaw44_DemeritBounds.f k a0 a1 a2 a3 a4) (vinculumlaw44_DemeritBounds.f (k + 1) a0 a1 a2 a3 a4) := by
  intro a0 a1 a2 a3 a4 k
  have ih0 := vinculumlaw44_DemeritBounds.mono_l k
  unfold vinculumlaw44_DemeritBounds.f
  repeat' first
      | (with_reducible exact ih0 _ _ _ _ _ _)
      | (with_reducible exact demerit_Length.mono _ _ _ _)
      | (with_reducible exact demerit_Line.mono _ _ _ _ _)
      | (with_reducible exact vinculumlaw44_awake.mono _)
      | (with_reducible exact vinculumref44_Valid.mono _ _)
      | (with_reducible exact LeO.refl _)
      | (with_reducible exact LeO.none _)
      | (with_reducible refine LeO.ite ?_ ?_)
      | (with_reducible refine LeO.bind ?_ (fun _ => ?_))
      | exact ih0 _ _ _ _ _ _
      | exact demerit_Length.mono _ _ _ _
      | exact demerit_Line.mono _ _ _ _ _
      | exact vinculumlaw44_awake.mono _
      | exact vinculumref44_Valid.mono _ _
      | exact LeO.none _
      | refine LeO.ite ?_ ?_
      | refine LeO.bind ?_ (fun _ => ?_)
set_option maxHeartbeats 8000000 in
set_option maxRecDepth 100000 in
theorem vinculumlaw44_DemeritBounds.calls (k : Nat) (A0 : Option Addr) (c0 : Nat) (l0 : List (S34)) (a1_0 : Int) (a1_1 : Int) (a1_2 : Int) (a1_3 : Int) (r : Bool) (w : World) (hr0 : Kd.C k34 w A0 l0.length l0) (hc0 : l0.length ≤ c0) (h : vinculumlaw44_DemeritBounds.f k l0 a1_0 a1_1 a1_2 a1_3 = some r) :
    Calls Try.prog 5 #[.slice A0 l0.length c0, .agg #[.int .i64 a1_0, .int .i64 a1_1, .int .i64 a1_2, .int .i64 a1_3]] w fun e w' => e = .returned (.bool r) ∧ Below w.heap.size w w' := by
  have hu24 := Try.underlying24
  have HR0 := Aside0.mk hr0
  have HC0 := Aside0.mk hc0
  clear hr0 hc0
  have HB := Aside0.mk (Below.refl w.heap.size w)
  have H : ((vinculumlaw44_awake.f k).bind fun t155 => (if t155 = true then ((vinculumref44_Valid.f k l0).bind fun t156 => (if t156 = true then ((vinculumref44_Fits.f a1_2 0).bind fun t157 => (vinculumlaw44_DemeritBounds.j0 k l0 (!t157) a1_0 a1_1 a1_2 a1_3)) else (vinculumlaw44_DemeritBounds.j0 k l0 true a1_0 a1_1 a1_2 a1_3))) else (some false))) = some r := h
  clear h
  replace H := Option.bind_eq_some_iff.mp H
  obtain ⟨t155, A30, H⟩ := H
  replace H : (if t155 = true then ((vinculumref44_Valid.f k l0).bind fun t156 => (if t156 = true then ((vinculumref44_Fits.f a1_2 0).bind fun t157 => (vinculumlaw44_DemeritBounds.j0 k l0 (!t157) a1_0 a1_1 a1_2 a1_3)) else (vinculumlaw44_DemeritBounds.j0 k l0 true a1_0 a1_1 a1_2 a1_3))) else (some false)) = some r := H
  have A3 := Aside0.mk A30
  clear A30
  by_cases c4 : t155 = true
  · subst c4
    have H1 : ((vinculumref44_Valid.f k l0).bind fun t156 => (if t156 = true then ((vinculumref44_Fits.f a1_2 0).bind fun t157 => (vinculumlaw44_DemeritBounds.j0 k l0 (!t157) a1_0 a1_1 a1_2 a1_3)) else (vinculumlaw44_DemeritBounds.j0 k l0 true a1_0 a1_1 a1_2 a1_3))) = some r := by rw [if_pos rfl] at H; exact H
    clear H
    have H := H1
    clear H1
    have HC5 := Aside0.mk H
    clear H
    go_enter Try.func5, Try.ntmps5
    go_upto_region 3 with (first | ((with_reducible refine gate_dst (N := 3) rfl ?_); refine box_event ?hg (N := 3) ?hd (cs := #[.int .i64 a1_0, .int .i64 a1_1, .int .i64 a1_2, .int .i64 a1_3]) (t := 24) ?hr ?_; (case hd => rfl); (case hg => rfl); (case hr => first | (go_simp; done) | (go_simp; rfl)); intro gb154 hg w6 hbox hb; have n0_ := Aside0.mk (below_step (by repeat (first | (with_reducible first | exact HB.out | apply below_alloc | apply pw_below_drewN | apply below_drew1) | exact HB.out)) hb); have n1_ := Aside0.mk (hbox); have n2_ := Aside0.mk ((by rw [hg]; exact (below_size (by repeat (first | (with_reducible first | exact HB.out | apply below_alloc | apply pw_below_drewN | apply below_drew1) | exact HB.out))) : w.heap.size ≤ gb154)); have n3_ := Aside0.mk ((by rw [hg]; exact (below_size (by repeat (first | (with_reducible first | exact HB.out | apply below_alloc | apply pw_below_drewN | apply below_drew1) | exact HB.out))) : w.heap.size ≤ gb154)); clear HB; have HB := n0_; have BK154 := n1_; have GW154 := n2_; have GE154 := n3_; clear n0_ n1_ n2_ n3_; clear hb hbox hg) | ((with_reducible refine gate_callee (f := 9) rfl ?_); refine goesL_ (some 9) rfl rfl Try.func9 (by kernel_rfl) rfl #[] rfl (by (try simp only [List.map_toArray, List.map_cons, List.map_nil]); first | done | rfl | (simp only [List.length_drop, List.length_take]; rfl)) ?_; (with_reducible refine (vinculumlaw44_awake.calls k  true _ A3.out).mono ?_); rintro e w7 ⟨rfl, hb⟩; refine ⟨_, rfl, ?_⟩; have n0_ := Aside0.mk (blk_below (g := gb154) (o := .cells #[.int .i64 a1_0, .int .i64 a1_1, .int .i64 a1_2, .int .i64 a1_3] 24 (0, 0)) (by (with_reducible repeat (first | refine blk_drewN ?_ _ | refine blk_drew ?_ | refine blk_alloc ?_ _)); exact BK154.out) hb); have n1_ := Aside0.mk (below_step (by repeat (first | (with_reducible first | exact HB.out | apply below_alloc | apply pw_below_drewN | apply below_drew1 | refine below_set ?_ GE154.out) | exact HB.out)) hb); clear BK154; clear HB; have BK154 := n0_; have HB := n1_; clear n0_ n1_; (try clear hb); (try clear hb2); (try clear hk); (try clear hi)))
    (try simp only [Act.put, List.setIfInBounds_toArray, List.set_cons_zero, List.set_cons_succ])
    go_cut [19] (fun v19 wc => ∃ (kq : Nat) (x19_4 : Bool), v19 = .bool x19_4 ∧ Aside0 (vinculumlaw44_DemeritBounds.j0 kq l0 x19_4 a1_0 a1_1 a1_2 a1_3 = some r) ∧ Aside0 (kq ≤ k) ∧ Aside0 (wc.heap[gb154]? = some (.cells #[.int .i64 a1_0, .int .i64 a1_1, .int .i64 a1_2, .int .i64 a1_3] 24 (0, 0))) ∧ Aside0 (Below w.heap.size w wc))
    case first =>
      have H := HC5.out
      clear HC5
      replace H := Option.bind_eq_some_iff.mp H
      obtain ⟨t156, A80, H⟩ := H
      replace H : (if t156 = true then ((vinculumref44_Fits.f a1_2 0).bind fun t157 => (vinculumlaw44_DemeritBounds.j0 k l0 (!t157) a1_0 a1_1 a1_2 a1_3)) else (vinculumlaw44_DemeritBounds.j0 k l0 true a1_0 a1_1 a1_2 a1_3)) = some r := H
      have A8 := Aside0.mk A80
      clear A80
      by_cases c9 : t156 = true
      · subst c9
        have H1 : ((vinculumref44_Fits.f a1_2 0).bind fun t157 => (vinculumlaw44_DemeritBounds.j0 k l0 (!t157) a1_0 a1_1 a1_2 a1_3)) = some r := by rw [if_pos rfl] at H; exact H
        clear H
        have H := H1
        clear H1
        replace H := Option.bind_eq_some_iff.mp H
        obtain ⟨t157, A100, H⟩ := H
        replace H : (vinculumlaw44_DemeritBounds.j0 k l0 (!t157) a1_0 a1_1 a1_2 a1_3) = some r := H
        have A10 := Aside0.mk A100
        clear A100
        have H' := Aside0.mk H
        clear H
        go_wp2_with (first | ((with_reducible refine gate_callee (f := 15) rfl ?_); refine goesL_ (some 12) rfl rfl Try.func15 (by kernel_rfl) rfl #[.slice A0 l0.length c0] rfl (by (try simp only [List.map_toArray, List.map_cons, List.map_nil]); first | done | rfl | (simp only [List.length_drop, List.length_take]; rfl)) ?_; (with_reducible refine (vinculumref44_Valid.calls k _ _ l0 true _ ?side1 ?side2 A8.out).mono ?_); (case side1 => repeat (first | exact (Kd.C_below HR0.out HB.out) | (with_reducible refine Kd.C_alloc ?_ _) | (with_reducible refine Kd.C_drewN ?_ _) | (with_reducible refine Kd.C_drew ?_))); (case side2 => exact HC0.out); rintro e w' ⟨rfl, ⟨nd, rfl⟩⟩; refine ⟨_, rfl, ?_⟩; have hcz11_0 : w7.cell? ⟨gb154, 0, none⟩ = some (.int .i64 a1_0) := (blk_cell BK154.out 0).trans rfl; have hcz11_1 : w7.cell? ⟨gb154, 1, none⟩ = some (.int .i64 a1_1) := (blk_cell BK154.out 1).trans rfl; have hcz11_2 : w7.cell? ⟨gb154, 2, none⟩ = some (.int .i64 a1_2) := (blk_cell BK154.out 2).trans rfl; have hcz11_3 : w7.cell? ⟨gb154, 3, none⟩ = some (.int .i64 a1_3) := (blk_cell BK154.out 3).trans rfl; have hfz11_0 := blk_frozen BK154.out 0; have hfz11_1 := blk_frozen BK154.out 1; have hfz11_2 := blk_frozen BK154.out 2; have hfz11_3 := blk_frozen BK154.out 3) | (go_at_call 16; (with_reducible refine (vinculumref44_Fits.calls a1_2 0 t157 _ A10.out).mono ?_); rintro e w' ⟨rfl, ⟨nd, rfl⟩⟩))
        go_meet
        case rel => exact ⟨_, (!t157), (by first | rfl | (simp; done) | (simp [*]; done)), H', ⟨by first | omega | exact Nat.le_refl _⟩, ⟨by (with_reducible repeat (first | refine blk_drewN ?_ _ | refine blk_drew ?_ | refine blk_alloc ?_ _)); exact BK154.out⟩, ⟨by repeat (first | (with_reducible first | exact HB.out | apply below_alloc | apply pw_below_drewN | apply below_drew1 | refine below_set ?_ GE154.out) | exact HB.out)⟩⟩
      · replace c9 := Bool.eq_false_iff.mpr c9
        subst c9
        have H1 : (vinculumlaw44_DemeritBounds.j0 k l0 true a1_0 a1_1 a1_2 a1_3) = some r := by rw [if_neg (show ¬ (false = true) by decide)] at H; exact H
        clear H
        have H := H1
        clear H1
        have H' := Aside0.mk H
        clear H
        go_wp2_with (first | ((with_reducible refine gate_callee (f := 15) rfl ?_); refine goesL_ (some 12) rfl rfl Try.func15 (by kernel_rfl) rfl #[.slice A0 l0.length c0] rfl (by (try simp only [List.map_toArray, List.map_cons, List.map_nil]); first | done | rfl | (simp only [List.length_drop, List.length_take]; rfl)) ?_; (with_reducible refine (vinculumref44_Valid.calls k _ _ l0 false _ ?side1 ?side2 A8.out).mono ?_); (case side1 => repeat (first | exact (Kd.C_below HR0.out HB.out) | (with_reducible refine Kd.C_alloc ?_ _) | (with_reducible refine Kd.C_drewN ?_ _) | (with_reducible refine Kd.C_drew ?_))); (case side2 => exact HC0.out); rintro e w' ⟨rfl, ⟨nd, rfl⟩⟩; refine ⟨_, rfl, ?_⟩))
        go_meet
        case rel => exact ⟨_, (true), (by first | rfl | (simp; done) | (simp [*]; done)), H', ⟨by first | omega | exact Nat.le_refl _⟩, ⟨by (with_reducible repeat (first | refine blk_drewN ?_ _ | refine blk_drew ?_ | refine blk_alloc ?_ _)); exact BK154.out⟩, ⟨by repeat (first | (with_reducible first | exact HB.out | apply below_alloc | apply pw_below_drewN | apply below_drew1 | refine below_set ?_ GE154.out) | exact HB.out)⟩⟩
    case rest =>
      clear HC5
      try clear c1
      try clear p2
      try clear c4
      try clear c5
      try clear c9
      try clear hcz11_0
      try clear hcz11_1
      try clear hcz11_2
      try clear hcz11_3
      try clear hfz11_0
      try clear hfz11_1
      try clear hfz11_2
      try clear hfz11_3
      obtain ⟨kq, x19_4, rfl, HA, HJ4, BK154, HB⟩ := hcut
      cases kq with
      | zero => exact absurd HA.out (by simp [vinculumlaw44_DemeritBounds.j0])
      | succ kj4 =>
        have H := HA.out
        clear HA
        simp only [vinculumlaw44_DemeritBounds.j0] at H
        by_cases c12 : x19_4 = true
        · subst c12
          have H1 : (some true) = some r := by rw [if_pos rfl] at H; exact H
          clear H
          have H := H1
          clear H1
          obtain rfl := Option.some.inj H
          go_wp2
          go_ret
          exact ⟨by first | rfl | (simp [errW_none, errW_some] <;> rfl) | (simp [*, errW_none, errW_some] <;> rfl), by repeat (first | (with_reducible first | exact HB.out | apply below_alloc | apply pw_below_drewN | apply below_drew1 | refine below_set ?_ GE154.out) | exact HB.out)⟩
        · replace c12 := Bool.eq_false_iff.mpr c12
          subst c12
          have H1 : ((demerit_Length.f kj4 l0 a1_0 a1_1).bind fun bt158 => ((demerit_Line.f kj4 l0 a1_0 a1_1 a1_2).bind fun bt160 => (if bt158.2 = 0 then (if bt158.1 > a1_2 then (if (wrap64 (a1_1 - a1_0)) > 1 then (some (bt160.2 == 6)) else (if bt160.2 = 0 then (if bt160.1 ≤ 1000000000 then (some (decide (bt160.1 ≥ (-1000000000)))) else (some false)) else (some false))) else (if bt160.2 = 0 then (if bt160.1 ≤ 1000000000 then (some (decide (bt160.1 ≥ (-1000000000)))) else (some false)) else (some false))) else (if bt158.2 = 2 then (some (bt160.2 == 2)) else (some false))))) = some r := by rw [if_neg (show ¬ (false = true) by decide)] at H; exact H
          clear H
          have H := H1
          clear H1
          replace H := Option.bind_eq_some_iff.mp H
          obtain ⟨⟨t158, t159⟩, A130, H⟩ := H
          replace H : ((demerit_Line.f kj4 l0 a1_0 a1_1 a1_2).bind fun bt160 => (if t159 = 0 then (if t158 > a1_2 then (if (wrap64 (a1_1 - a1_0)) > 1 then (some (bt160.2 == 6)) else (if bt160.2 = 0 then (if bt160.1 ≤ 1000000000 then (some (decide (bt160.1 ≥ (-1000000000)))) else (some false)) else (some false))) else (if bt160.2 = 0 then (if bt160.1 ≤ 1000000000 then (some (decide (bt160.1 ≥ (-1000000000)))) else (some false)) else (some false))) else (if t159 = 2 then (some (bt160.2 == 2)) else (some false)))) = some r := H
          have A13 := Aside0.mk A130
          clear A130
          replace H := Option.bind_eq_some_iff.mp H
          obtain ⟨⟨t160, t161⟩, A140, H⟩ := H
          replace H : (if t159 = 0 then (if t158 > a1_2 then (if (wrap64 (a1_1 - a1_0)) > 1 then (some (t161 == 6)) else (if t161 = 0 then (if t160 ≤ 1000000000 then (some (decide (t160 ≥ (-1000000000)))) else (some false)) else (some false))) else (if t161 = 0 then (if t160 ≤ 1000000000 then (some (decide (t160 ≥ (-1000000000)))) else (some false)) else (some false))) else (if t159 = 2 then (some (t161 == 2)) else (some false))) = some r := H
          have A14 := Aside0.mk A140
          clear A140
          by_cases c15 : t159 = 0
          · rw [if_pos c15] at H
            have c15b0 : (t159 == 0) = true := beq_iff_eq.mpr c15
            have c15b1 : (t159 != 0) = false := bne_eq_false_iff_eq.mpr c15
            clear c15
            by_cases c16 : t158 > a1_2
            · rw [if_pos c16] at H
              have c16b0 : decide (a1_2 < t158) = true := decide_eq_true c16
              clear c16
              by_cases c17 : (wrap64 (a1_1 - a1_0)) > 1
              · rw [if_pos c17] at H
                have c17b0 : decide (1 < (wrap64 (a1_1 - a1_0))) = true := decide_eq_true c17
                clear c17
                obtain rfl := Option.some.inj H
                have hcz18_0 : wc.cell? ⟨gb154, 0, none⟩ = some (.int .i64 a1_0) := (blk_cell BK154.out 0).trans rfl
                have hcz18_1 : wc.cell? ⟨gb154, 1, none⟩ = some (.int .i64 a1_1) := (blk_cell BK154.out 1).trans rfl
                have hcz18_2 : wc.cell? ⟨gb154, 2, none⟩ = some (.int .i64 a1_2) := (blk_cell BK154.out 2).trans rfl
                have hcz18_3 : wc.cell? ⟨gb154, 3, none⟩ = some (.int .i64 a1_3) := (blk_cell BK154.out 3).trans rfl
                have hfz18_0 := blk_frozen BK154.out 0
                have hfz18_1 := blk_frozen BK154.out 1
                have hfz18_2 := blk_frozen BK154.out 2
                have hfz18_3 := blk_frozen BK154.out 3
                go_wp2_with (first | ((with_reducible refine gate_callee (f := 10) rfl ?_); refine goesL_ (some 26) rfl rfl Try.func10 (by kernel_rfl) rfl #[.slice A0 l0.length c0, .int .i64 a1_0, .int .i64 a1_1] rfl (by (try simp only [List.map_toArray, List.map_cons, List.map_nil]); first | done | rfl | (simp only [List.length_drop, List.length_take]; rfl)) ?_; (with_reducible refine (demerit_Length.calls kj4 _ _ l0 a1_0 a1_1 t158 t159 _ ?side1 ?side2 A13.out).mono ?_); (case side1 => repeat (first | exact (Kd.C_below HR0.out HB.out) | (with_reducible refine Kd.C_alloc ?_ _) | (with_reducible refine Kd.C_drewN ?_ _) | (with_reducible refine Kd.C_drew ?_))); (case side2 => exact HC0.out); rintro e w19 ⟨rfl, hb⟩; refine ⟨_, rfl, ?_⟩; have n0_ := Aside0.mk (blk_below (g := gb154) (o := .cells #[.int .i64 a1_0, .int .i64 a1_1, .int .i64 a1_2, .int .i64 a1_3] 24 (0, 0)) (by (with_reducible repeat (first | refine blk_drewN ?_ _ | refine blk_drew ?_ | refine blk_alloc ?_ _)); exact BK154.out) hb); have n1_ := Aside0.mk (below_step (by repeat (first | (with_reducible first | exact HB.out | apply below_alloc | apply pw_below_drewN | apply below_drew1 | refine below_set ?_ GE154.out) | exact HB.out)) hb); clear BK154; clear HB; have BK154 := n0_; have HB := n1_; clear n0_ n1_; (try clear hb); (try clear hb2); (try clear hk); (try clear hi); have hcz20_0 : w19.cell? ⟨gb154, 0, none⟩ = some (.int .i64 a1_0) := (blk_cell BK154.out 0).trans rfl; have hcz20_1 : w19.cell? ⟨gb154, 1, none⟩ = some (.int .i64 a1_1) := (blk_cell BK154.out 1).trans rfl; have hcz20_2 : w19.cell? ⟨gb154, 2, none⟩ = some (.int .i64 a1_2) := (blk_cell BK154.out 2).trans rfl; have hcz20_3 : w19.cell? ⟨gb154, 3, none⟩ = some (.int .i64 a1_3) := (blk_cell BK154.out 3).trans rfl; have hfz20_0 := blk_frozen BK154.out 0; have hfz20_1 := blk_frozen BK154.out 1; have hfz20_2 := blk_frozen BK154.out 2; have hfz20_3 := blk_frozen BK154.out 3) | ((with_reducible refine gate_callee (f := 12) rfl ?_); refine goesL_ (some 37) rfl rfl Try.func12 (by kernel_rfl) rfl #[.slice A0 l0.length c0, .int .i64 a1_0, .int .i64 a1_1, .int .i64 a1_2] rfl (by (try simp only [List.map_toArray, List.map_cons, List.map_nil]); first | done | rfl | (simp only [List.length_drop, List.length_take]; rfl)) ?_; (with_reducible refine (demerit_Line.calls kj4 _ _ l0 a1_0 a1_1 a1_2 t160 t161 _ ?side1 ?side2 A14.out).mono ?_); (case side1 => repeat (first | exact (Kd.C_below HR0.out HB.out) | (with_reducible refine Kd.C_alloc ?_ _) | (with_reducible refine Kd.C_drewN ?_ _) | (with_reducible refine Kd.C_drew ?_))); (case side2 => exact HC0.out); rintro e w21 ⟨rfl, hb⟩; refine ⟨_, rfl, ?_⟩; have n0_ := Aside0.mk (blk_below (g := gb154) (o := .cells #[.int .i64 a1_0, .int .i64 a1_1, .int .i64 a1_2, .int .i64 a1_3] 24 (0, 0)) (by (with_reducible repeat (first | refine blk_drewN ?_ _ | refine blk_drew ?_ | refine blk_alloc ?_ _)); exact BK154.out) hb); have n1_ := Aside0.mk (below_step (by repeat (first | (with_reducible first | exact HB.out | apply below_alloc | apply pw_below_drewN | apply below_drew1 | refine below_set ?_ GE154.out) | exact HB.out)) hb); clear BK154; clear HB; have BK154 := n0_; have HB := n1_; clear n0_ n1_; (try clear hb); (try clear hb2); (try clear hk); (try clear hi); have hcz22_0 : w21.cell? ⟨gb154, 0, none⟩ = some (.int .i64 a1_0) := (blk_cell BK154.out 0).trans rfl; have hcz22_1 : w21.cell? ⟨gb154, 1, none⟩ = some (.int .i64 a1_1) := (blk_cell BK154.out 1).trans rfl; have hcz22_2 : w21.cell? ⟨gb154, 2, none⟩ = some (.int .i64 a1_2) := (blk_cell BK154.out 2).trans rfl; have hcz22_3 : w21.cell? ⟨gb154, 3, none⟩ = some (.int .i64 a1_3) := (blk_cell BK154.out 3).trans rfl; have hfz22_0 := blk_frozen BK154.out 0; have hfz22_1 := blk_frozen BK154.out 1; have hfz22_2 := blk_frozen BK154.out 2; have hfz22_3 := blk_frozen BK154.out 3))
                go_ret
                exact ⟨by first | rfl | (simp [errW_none, errW_some] <;> rfl) | (simp [*, errW_none, errW_some] <;> rfl), by repeat (first | (with_reducible first | exact HB.out | apply below_alloc | apply pw_below_drewN | apply below_drew1 | refine below_set ?_ GE154.out) | exact HB.out)⟩
              · rw [if_neg c17] at H
                have c17b0 : decide (1 < (wrap64 (a1_1 - a1_0))) = false := decide_eq_false c17
                clear c17
                by_cases c23 : t161 = 0
                · rw [if_pos c23] at H
                  have c23b0 : (t161 == 0) = true := beq_iff_eq.mpr c23
                  have c23b1 : (t161 != 0) = false := bne_eq_false_iff_eq.mpr c23
                  clear c23
                  by_cases c24 : t160 ≤ 1000000000
                  · rw [if_pos c24] at H
                    have c24b0 : decide (t160 ≤ 1000000000) = true := decide_eq_true c24
                    clear c24
                    obtain rfl := Option.some.inj H
                    have hcz25_0 : wc.cell? ⟨gb154, 0, none⟩ = some (.int .i64 a1_0) := (blk_cell BK154.out 0).trans rfl
                    have hcz25_1 : wc.cell? ⟨gb154, 1, none⟩ = some (.int .i64 a1_1) := (blk_cell BK154.out 1).trans rfl
                    have hcz25_2 : wc.cell? ⟨gb154, 2, none⟩ = some (.int .i64 a1_2) := (blk_cell BK154.out 2).trans rfl
                    have hcz25_3 : wc.cell? ⟨gb154, 3, none⟩ = some (.int .i64 a1_3) := (blk_cell BK154.out 3).trans rfl
                    have hfz25_0 := blk_frozen BK154.out 0
                    have hfz25_1 := blk_frozen BK154.out 1
                    have hfz25_2 := blk_frozen BK154.out 2
                    have hfz25_3 := blk_frozen BK154.out 3
                    go_wp2_with (first | ((with_reducible refine gate_callee (f := 10) rfl ?_); refine goesL_ (some 26) rfl rfl Try.func10 (by kernel_rfl) rfl #[.slice A0 l0.length c0, .int .i64 a1_0, .int .i64 a1_1] rfl (by (try simp only [List.map_toArray, List.map_cons, List.map_nil]); first | done | rfl | (simp only [List.length_drop, List.length_take]; rfl)) ?_; (with_reducible refine (demerit_Length.calls kj4 _ _ l0 a1_0 a1_1 t158 t159 _ ?side1 ?side2 A13.out).mono ?_); (case side1 => repeat (first | exact (Kd.C_below HR0.out HB.out) | (with_reducible refine Kd.C_alloc ?_ _) | (with_reducible refine Kd.C_drewN ?_ _) | (with_reducible refine Kd.C_drew ?_))); (case side2 => exact HC0.out); rintro e w26 ⟨rfl, hb⟩; refine ⟨_, rfl, ?_⟩; have n0_ := Aside0.mk (blk_below (g := gb154) (o := .cells #[.int .i64 a1_0, .int .i64 a1_1, .int .i64 a1_2, .int .i64 a1_3] 24 (0, 0)) (by (with_reducible repeat (first | refine blk_drewN ?_ _ | refine blk_drew ?_ | refine blk_alloc ?_ _)); exact BK154.out) hb); have n1_ := Aside0.mk (below_step (by repeat (first | (with_reducible first | exact HB.out | apply below_alloc | apply pw_below_drewN | apply below_drew1 | refine below_set ?_ GE154.out) | exact HB.out)) hb); clear BK154; clear HB; have BK154 := n0_; have HB := n1_; clear n0_ n1_; (try clear hb); (try clear hb2); (try clear hk); (try clear hi); have hcz27_0 : w26.cell? ⟨gb154, 0, none⟩ = some (.int .i64 a1_0) := (blk_cell BK154.out 0).trans rfl; have hcz27_1 : w26.cell? ⟨gb154, 1, none⟩ = some (.int .i64 a1_1) := (blk_cell BK154.out 1).trans rfl; have hcz27_2 : w26.cell? ⟨gb154, 2, none⟩ = some (.int .i64 a1_2) := (blk_cell BK154.out 2).trans rfl; have hcz27_3 : w26.cell? ⟨gb154, 3, none⟩ = some (.int .i64 a1_3) := (blk_cell BK154.out 3).trans rfl; have hfz27_0 := blk_frozen BK154.out 0; have hfz27_1 := blk_frozen BK154.out 1; have hfz27_2 := blk_frozen BK154.out 2; have hfz27_3 := blk_frozen BK154.out 3) | ((with_reducible refine gate_callee (f := 12) rfl ?_); refine goesL_ (some 37) rfl rfl Try.func12 (by kernel_rfl) rfl #[.slice A0 l0.length c0, .int .i64 a1_0, .int .i64 a1_1, .int .i64 a1_2] rfl (by (try simp only [List.map_toArray, List.map_cons, List.map_nil]); first | done | rfl | (simp only [List.length_drop, List.length_take]; rfl)) ?_; (with_reducible refine (demerit_Line.calls kj4 _ _ l0 a1_0 a1_1 a1_2 t160 t161 _ ?side1 ?side2 A14.out).mono ?_); (case side1 => repeat (first | exact (Kd.C_below HR0.out HB.out) | (with_reducible refine Kd.C_alloc ?_ _) | (with_reducible refine Kd.C_drewN ?_ _) | (with_reducible refine Kd.C_drew ?_))); (case side2 => exact HC0.out); rintro e w28 ⟨rfl, hb⟩; refine ⟨_, rfl, ?_⟩; have n0_ := Aside0.mk (blk_below (g := gb154) (o := .cells #[.int .i64 a1_0, .int .i64 a1_1, .int .i64 a1_2, .int .i64 a1_3] 24 (0, 0)) (by (with_reducible repeat (first | refine blk_drewN ?_ _ | refine blk_drew ?_ | refine blk_alloc ?_ _)); exact BK154.out) hb); have n1_ := Aside0.mk (below_step (by repeat (first | (with_reducible first | exact HB.out | apply below_alloc | apply pw_below_drewN | apply below_drew1 | refine below_set ?_ GE154.out) | exact HB.out)) hb); clear BK154; clear HB; have BK154 := n0_; have HB := n1_; clear n0_ n1_; (try clear hb); (try clear hb2); (try clear hk); (try clear hi); have hcz29_0 : w28.cell? ⟨gb154, 0, none⟩ = some (.int .i64 a1_0) := (blk_cell BK154.out 0).trans rfl; have hcz29_1 : w28.cell? ⟨gb154, 1, none⟩ = some (.int .i64 a1_1) := (blk_cell BK154.out 1).trans rfl; have hcz29_2 : w28.cell? ⟨gb154, 2, none⟩ = some (.int .i64 a1_2) := (blk_cell BK154.out 2).trans rfl; have hcz29_3 : w28.cell? ⟨gb154, 3, none⟩ = some (.int .i64 a1_3) := (blk_cell BK154.out 3).trans rfl; have hfz29_0 := blk_frozen BK154.out 0; have hfz29_1 := blk_frozen BK154.out 1; have hfz29_2 := blk_frozen BK154.out 2; have hfz29_3 := blk_frozen BK154.out 3))
                    go_ret
                    exact ⟨by first | rfl | (simp [errW_none, errW_some] <;> rfl) | (simp [*, errW_none, errW_some] <;> rfl), by repeat (first | (with_reducible first | exact HB.out | apply below_alloc | apply pw_below_drewN | apply below_drew1 | refine below_set ?_ GE154.out) | exact HB.out)⟩
                  · rw [if_neg c24] at H
                    have c24b0 : decide (t160 ≤ 1000000000) = false := decide_eq_false c24
                    clear c24
                    obtain rfl := Option.some.inj H
                    have hcz30_0 : wc.cell? ⟨gb154, 0, none⟩ = some (.int .i64 a1_0) := (blk_cell BK154.out 0).trans rfl
                    have hcz30_1 : wc.cell? ⟨gb154, 1, none⟩ = some (.int .i64 a1_1) := (blk_cell BK154.out 1).trans rfl
                    have hcz30_2 : wc.cell? ⟨gb154, 2, none⟩ = some (.int .i64 a1_2) := (blk_cell BK154.out 2).trans rfl
                    have hcz30_3 : wc.cell? ⟨gb154, 3, none⟩ = some (.int .i64 a1_3) := (blk_cell BK154.out 3).trans rfl
                    have hfz30_0 := blk_frozen BK154.out 0
                    have hfz30_1 := blk_frozen BK154.out 1
                    have hfz30_2 := blk_frozen BK154.out 2
                    have hfz30_3 := blk_frozen BK154.out 3
                    go_wp2_with (first | ((with_reducible refine gate_callee (f := 10) rfl ?_); refine goesL_ (some 26) rfl rfl Try.func10 (by kernel_rfl) rfl #[.slice A0 l0.length c0, .int .i64 a1_0, .int .i64 a1_1] rfl (by (try simp only [List.map_toArray, List.map_cons, List.map_nil]); first | done | rfl | (simp only [List.length_drop, List.length_take]; rfl)) ?_; (with_reducible refine (demerit_Length.calls kj4 _ _ l0 a1_0 a1_1 t158 t159 _ ?side1 ?side2 A13.out).mono ?_); (case side1 => repeat (first | exact (Kd.C_below HR0.out HB.out) | (with_reducible refine Kd.C_alloc ?_ _) | (with_reducible refine Kd.C_drewN ?_ _) | (with_reducible refine Kd.C_drew ?_))); (case side2 => exact HC0.out); rintro e w31 ⟨rfl, hb⟩; refine ⟨_, rfl, ?_⟩; have n0_ := Aside0.mk (blk_below (g := gb154) (o := .cells #[.int .i64 a1_0, .int .i64 a1_1, .int .i64 a1_2, .int .i64 a1_3] 24 (0, 0)) (by (with_reducible repeat (first | refine blk_drewN ?_ _ | refine blk_drew ?_ | refine blk_alloc ?_ _)); exact BK154.out) hb); have n1_ := Aside0.mk (below_step (by repeat (first | (with_reducible first | exact HB.out | apply below_alloc | apply pw_below_drewN | apply below_drew1 | refine below_set ?_ GE154.out) | exact HB.out)) hb); clear BK154; clear HB; have BK154 := n0_; have HB := n1_; clear n0_ n1_; (try clear hb); (try clear hb2); (try clear hk); (try clear hi); have hcz32_0 : w31.cell? ⟨gb154, 0, none⟩ = some (.int .i64 a1_0) := (blk_cell BK154.out 0).trans rfl; have hcz32_1 : w31.cell? ⟨gb154, 1, none⟩ = some (.int .i64 a1_1) := (blk_cell BK154.out 1).trans rfl; have hcz32_2 : w31.cell? ⟨gb154, 2, none⟩ = some (.int .i64 a1_2) := (blk_cell BK154.out 2).trans rfl; have hcz32_3 : w31.cell? ⟨gb154, 3, none⟩ = some (.int .i64 a1_3) := (blk_cell BK154.out 3).trans rfl; have hfz32_0 := blk_frozen BK154.out 0; have hfz32_1 := blk_frozen BK154.out 1; have hfz32_2 := blk_frozen BK154.out 2; have hfz32_3 := blk_frozen BK154.out 3) | ((with_reducible refine gate_callee (f := 12) rfl ?_); refine goesL_ (some 37) rfl rfl Try.func12 (by kernel_rfl) rfl #[.slice A0 l0.length c0, .int .i64 a1_0, .int .i64 a1_1, .int .i64 a1_2] rfl (by (try simp only [List.map_toArray, List.map_cons, List.map_nil]); first | done | rfl | (simp only [List.length_drop, List.length_take]; rfl)) ?_; (with_reducible refine (demerit_Line.calls kj4 _ _ l0 a1_0 a1_1 a1_2 t160 t161 _ ?side1 ?side2 A14.out).mono ?_); (case side1 => repeat (first | exact (Kd.C_below HR0.out HB.out) | (with_reducible refine Kd.C_alloc ?_ _) | (with_reducible refine Kd.C_drewN ?_ _) | (with_reducible refine Kd.C_drew ?_))); (case side2 => exact HC0.out); rintro e w33 ⟨rfl, hb⟩; refine ⟨_, rfl, ?_⟩; have n0_ := Aside0.mk (blk_below (g := gb154) (o := .cells #[.int .i64 a1_0, .int .i64 a1_1, .int .i64 a1_2, .int .i64 a1_3] 24 (0, 0)) (by (with_reducible repeat (first | refine blk_drewN ?_ _ | refine blk_drew ?_ | refine blk_alloc ?_ _)); exact BK154.out) hb); have n1_ := Aside0.mk (below_step (by repeat (first | (with_reducible first | exact HB.out | apply below_alloc | apply pw_below_drewN | apply below_drew1 | refine below_set ?_ GE154.out) | exact HB.out)) hb); clear BK154; clear HB; have BK154 := n0_; have HB := n1_; clear n0_ n1_; (try clear hb); (try clear hb2); (try clear hk); (try clear hi); have hcz34_0 : w33.cell? ⟨gb154, 0, none⟩ = some (.int .i64 a1_0) := (blk_cell BK154.out 0).trans rfl; have hcz34_1 : w33.cell? ⟨gb154, 1, none⟩ = some (.int .i64 a1_1) := (blk_cell BK154.out 1).trans rfl; have hcz34_2 : w33.cell? ⟨gb154, 2, none⟩ = some (.int .i64 a1_2) := (blk_cell BK154.out 2).trans rfl; have hcz34_3 : w33.cell? ⟨gb154, 3, none⟩ = some (.int .i64 a1_3) := (blk_cell BK154.out 3).trans rfl; have hfz34_0 := blk_frozen BK154.out 0; have hfz34_1 := blk_frozen BK154.out 1; have hfz34_2 := blk_frozen BK154.out 2; have hfz34_3 := blk_frozen BK154.out 3))
                    go_ret
                    exact ⟨by first | rfl | (simp [errW_none, errW_some] <;> rfl) | (simp [*, errW_none, errW_some] <;> rfl), by repeat (first | (with_reducible first | exact HB.out | apply below_alloc | apply pw_below_drewN | apply below_drew1 | refine below_set ?_ GE154.out) | exact HB.out)⟩
                · rw [if_neg c23] at H
                  have c23b0 : (t161 == 0) = false := beq_eq_false_iff_ne.mpr c23
                  have c23b1 : (t161 != 0) = true := bne_iff_ne.mpr c23
                  obtain rfl := Option.some.inj H
                  have hcz35_0 : wc.cell? ⟨gb154, 0, none⟩ = some (.int .i64 a1_0) := (blk_cell BK154.out 0).trans rfl
                  have hcz35_1 : wc.cell? ⟨gb154, 1, none⟩ = some (.int .i64 a1_1) := (blk_cell BK154.out 1).trans rfl
                  have hcz35_2 : wc.cell? ⟨gb154, 2, none⟩ = some (.int .i64 a1_2) := (blk_cell BK154.out 2).trans rfl
                  have hcz35_3 : wc.cell? ⟨gb154, 3, none⟩ = some (.int .i64 a1_3) := (blk_cell BK154.out 3).trans rfl
                  have hfz35_0 := blk_frozen BK154.out 0
                  have hfz35_1 := blk_frozen BK154.out 1
                  have hfz35_2 := blk_frozen BK154.out 2
                  have hfz35_3 := blk_frozen BK154.out 3
                  go_wp2_with (first | ((with_reducible refine gate_callee (f := 10) rfl ?_); refine goesL_ (some 26) rfl rfl Try.func10 (by kernel_rfl) rfl #[.slice A0 l0.length c0, .int .i64 a1_0, .int .i64 a1_1] rfl (by (try simp only [List.map_toArray, List.map_cons, List.map_nil]); first | done | rfl | (simp only [List.length_drop, List.length_take]; rfl)) ?_; (with_reducible refine (demerit_Length.calls kj4 _ _ l0 a1_0 a1_1 t158 t159 _ ?side1 ?side2 A13.out).mono ?_); (case side1 => repeat (first | exact (Kd.C_below HR0.out HB.out) | (with_reducible refine Kd.C_alloc ?_ _) | (with_reducible refine Kd.C_drewN ?_ _) | (with_reducible refine Kd.C_drew ?_))); (case side2 => exact HC0.out); rintro e w36 ⟨rfl, hb⟩; refine ⟨_, rfl, ?_⟩; have n0_ := Aside0.mk (blk_below (g := gb154) (o := .cells #[.int .i64 a1_0, .int .i64 a1_1, .int .i64 a1_2, .int .i64 a1_3] 24 (0, 0)) (by (with_reducible repeat (first | refine blk_drewN ?_ _ | refine blk_drew ?_ | refine blk_alloc ?_ _)); exact BK154.out) hb); have n1_ := Aside0.mk (below_step (by repeat (first | (with_reducible first | exact HB.out | apply below_alloc | apply pw_below_drewN | apply below_drew1 | refine below_set ?_ GE154.out) | exact HB.out)) hb); clear BK154; clear HB; have BK154 := n0_; have HB := n1_; clear n0_ n1_; (try clear hb); (try clear hb2); (try clear hk); (try clear hi); have hcz37_0 : w36.cell? ⟨gb154, 0, none⟩ = some (.int .i64 a1_0) := (blk_cell BK154.out 0).trans rfl; have hcz37_1 : w36.cell? ⟨gb154, 1, none⟩ = some (.int .i64 a1_1) := (blk_cell BK154.out 1).trans rfl; have hcz37_2 : w36.cell? ⟨gb154, 2, none⟩ = some (.int .i64 a1_2) := (blk_cell BK154.out 2).trans rfl; have hcz37_3 : w36.cell? ⟨gb154, 3, none⟩ = some (.int .i64 a1_3) := (blk_cell BK154.out 3).trans rfl; have hfz37_0 := blk_frozen BK154.out 0; have hfz37_1 := blk_frozen BK154.out 1; have hfz37_2 := blk_frozen BK154.out 2; have hfz37_3 := blk_frozen BK154.out 3) | ((with_reducible refine gate_callee (f := 12) rfl ?_); refine goesL_ (some 37) rfl rfl Try.func12 (by kernel_rfl) rfl #[.slice A0 l0.length c0, .int .i64 a1_0, .int .i64 a1_1, .int .i64 a1_2] rfl (by (try simp only [List.map_toArray, List.map_cons, List.map_nil]); first | done | rfl | (simp only [List.length_drop, List.length_take]; rfl)) ?_; (with_reducible refine (demerit_Line.calls kj4 _ _ l0 a1_0 a1_1 a1_2 t160 t161 _ ?side1 ?side2 A14.out).mono ?_); (case side1 => repeat (first | exact (Kd.C_below HR0.out HB.out) | (with_reducible refine Kd.C_alloc ?_ _) | (with_reducible refine Kd.C_drewN ?_ _) | (with_reducible refine Kd.C_drew ?_))); (case side2 => exact HC0.out); rintro e w38 ⟨rfl, hb⟩; refine ⟨_, rfl, ?_⟩; have n0_ := Aside0.mk (blk_below (g := gb154) (o := .cells #[.int .i64 a1_0, .int .i64 a1_1, .int .i64 a1_2, .int .i64 a1_3] 24 (0, 0)) (by (with_reducible repeat (first | refine blk_drewN ?_ _ | refine blk_drew ?_ | refine blk_alloc ?_ _)); exact BK154.out) hb); have n1_ := Aside0.mk (below_step (by repeat (first | (with_reducible first | exact HB.out | apply below_alloc | apply pw_below_drewN | apply below_drew1 | refine below_set ?_ GE154.out) | exact HB.out)) hb); clear BK154; clear HB; have BK154 := n0_; have HB := n1_; clear n0_ n1_; (try clear hb); (try clear hb2); (try clear hk); (try clear hi); have hcz39_0 : w38.cell? ⟨gb154, 0, none⟩ = some (.int .i64 a1_0) := (blk_cell BK154.out 0).trans rfl; have hcz39_1 : w38.cell? ⟨gb154, 1, none⟩ = some (.int .i64 a1_1) := (blk_cell BK154.out 1).trans rfl; have hcz39_2 : w38.cell? ⟨gb154, 2, none⟩ = some (.int .i64 a1_2) := (blk_cell BK154.out 2).trans rfl; have hcz39_3 : w38.cell? ⟨gb154, 3, none⟩ = some (.int .i64 a1_3) := (blk_cell BK154.out 3).trans rfl; have hfz39_0 := blk_frozen BK154.out 0; have hfz39_1 := blk_frozen BK154.out 1; have hfz39_2 := blk_frozen BK154.out 2; have hfz39_3 := blk_frozen BK154.out 3))
                  go_ret
                  exact ⟨by first | rfl | (simp [errW_none, errW_some] <;> rfl) | (simp [*, errW_none, errW_some] <;> rfl), by repeat (first | (with_reducible first | exact HB.out | apply below_alloc | apply pw_below_drewN | apply below_drew1 | refine below_set ?_ GE154.out) | exact HB.out)⟩
            · rw [if_neg c16] at H
              have c16b0 : decide (a1_2 < t158) = false := decide_eq_false c16
              clear c16
              by_cases c40 : t161 = 0
              · rw [if_pos c40] at H
                have c40b0 : (t161 == 0) = true := beq_iff_eq.mpr c40
                have c40b1 : (t161 != 0) = false := bne_eq_false_iff_eq.mpr c40
                clear c40
                by_cases c41 : t160 ≤ 1000000000
                · rw [if_pos c41] at H
                  have c41b0 : decide (t160 ≤ 1000000000) = true := decide_eq_true c41
                  clear c41
                  obtain rfl := Option.some.inj H
                  have hcz42_0 : wc.cell? ⟨gb154, 0, none⟩ = some (.int .i64 a1_0) := (blk_cell BK154.out 0).trans rfl
                  have hcz42_1 : wc.cell? ⟨gb154, 1, none⟩ = some (.int .i64 a1_1) := (blk_cell BK154.out 1).trans rfl
                  have hcz42_2 : wc.cell? ⟨gb154, 2, none⟩ = some (.int .i64 a1_2) := (blk_cell BK154.out 2).trans rfl
                  have hcz42_3 : wc.cell? ⟨gb154, 3, none⟩ = some (.int .i64 a1_3) := (blk_cell BK154.out 3).trans rfl
                  have hfz42_0 := blk_frozen BK154.out 0
                  have hfz42_1 := blk_frozen BK154.out 1
                  have hfz42_2 := blk_frozen BK154.out 2
                  have hfz42_3 := blk_frozen BK154.out 3
                  go_wp2_with (first | ((with_reducible refine gate_callee (f := 10) rfl ?_); refine goesL_ (some 26) rfl rfl Try.func10 (by kernel_rfl) rfl #[.slice A0 l0.length c0, .int .i64 a1_0, .int .i64 a1_1] rfl (by (try simp only [List.map_toArray, List.map_cons, List.map_nil]); first | done | rfl | (simp only [List.length_drop, List.length_take]; rfl)) ?_; (with_reducible refine (demerit_Length.calls kj4 _ _ l0 a1_0 a1_1 t158 t159 _ ?side1 ?side2 A13.out).mono ?_); (case side1 => repeat (first | exact (Kd.C_below HR0.out HB.out) | (with_reducible refine Kd.C_alloc ?_ _) | (with_reducible refine Kd.C_drewN ?_ _) | (with_reducible refine Kd.C_drew ?_))); (case side2 => exact HC0.out); rintro e w43 ⟨rfl, hb⟩; refine ⟨_, rfl, ?_⟩; have n0_ := Aside0.mk (blk_below (g := gb154) (o := .cells #[.int .i64 a1_0, .int .i64 a1_1, .int .i64 a1_2, .int .i64 a1_3] 24 (0, 0)) (by (with_reducible repeat (first | refine blk_drewN ?_ _ | refine blk_drew ?_ | refine blk_alloc ?_ _)); exact BK154.out) hb); have n1_ := Aside0.mk (below_step (by repeat (first | (with_reducible first | exact HB.out | apply below_alloc | apply pw_below_drewN | apply below_drew1 | refine below_set ?_ GE154.out) | exact HB.out)) hb); clear BK154; clear HB; have BK154 := n0_; have HB := n1_; clear n0_ n1_; (try clear hb); (try clear hb2); (try clear hk); (try clear hi); have hcz44_0 : w43.cell? ⟨gb154, 0, none⟩ = some (.int .i64 a1_0) := (blk_cell BK154.out 0).trans rfl; have hcz44_1 : w43.cell? ⟨gb154, 1, none⟩ = some (.int .i64 a1_1) := (blk_cell BK154.out 1).trans rfl; have hcz44_2 : w43.cell? ⟨gb154, 2, none⟩ = some (.int .i64 a1_2) := (blk_cell BK154.out 2).trans rfl; have hcz44_3 : w43.cell? ⟨gb154, 3, none⟩ = some (.int .i64 a1_3) := (blk_cell BK154.out 3).trans rfl; have hfz44_0 := blk_frozen BK154.out 0; have hfz44_1 := blk_frozen BK154.out 1; have hfz44_2 := blk_frozen BK154.out 2; have hfz44_3 := blk_frozen BK154.out 3) | ((with_reducible refine gate_callee (f := 12) rfl ?_); refine goesL_ (some 37) rfl rfl Try.func12 (by kernel_rfl) rfl #[.slice A0 l0.length c0, .int .i64 a1_0, .int .i64 a1_1, .int .i64 a1_2] rfl (by (try simp only [List.map_toArray, List.map_cons, List.map_nil]); first | done | rfl | (simp only [List.length_drop, List.length_take]; rfl)) ?_; (with_reducible refine (demerit_Line.calls kj4 _ _ l0 a1_0 a1_1 a1_2 t160 t161 _ ?side1 ?side2 A14.out).mono ?_); (case side1 => repeat (first | exact (Kd.C_below HR0.out HB.out) | (with_reducible refine Kd.C_alloc ?_ _) | (with_reducible refine Kd.C_drewN ?_ _) | (with_reducible refine Kd.C_drew ?_))); (case side2 => exact HC0.out); rintro e w45 ⟨rfl, hb⟩; refine ⟨_, rfl, ?_⟩; have n0_ := Aside0.mk (blk_below (g := gb154) (o := .cells #[.int .i64 a1_0, .int .i64 a1_1, .int .i64 a1_2, .int .i64 a1_3] 24 (0, 0)) (by (with_reducible repeat (first | refine blk_drewN ?_ _ | refine blk_drew ?_ | refine blk_alloc ?_ _)); exact BK154.out) hb); have n1_ := Aside0.mk (below_step (by repeat (first | (with_reducible first | exact HB.out | apply below_alloc | apply pw_below_drewN | apply below_drew1 | refine below_set ?_ GE154.out) | exact HB.out)) hb); clear BK154; clear HB; have BK154 := n0_; have HB := n1_; clear n0_ n1_; (try clear hb); (try clear hb2); (try clear hk); (try clear hi); have hcz46_0 : w45.cell? ⟨gb154, 0, none⟩ = some (.int .i64 a1_0) := (blk_cell BK154.out 0).trans rfl; have hcz46_1 : w45.cell? ⟨gb154, 1, none⟩ = some (.int .i64 a1_1) := (blk_cell BK154.out 1).trans rfl; have hcz46_2 : w45.cell? ⟨gb154, 2, none⟩ = some (.int .i64 a1_2) := (blk_cell BK154.out 2).trans rfl; have hcz46_3 : w45.cell? ⟨gb154, 3, none⟩ = some (.int .i64 a1_3) := (blk_cell BK154.out 3).trans rfl; have hfz46_0 := blk_frozen BK154.out 0; have hfz46_1 := blk_frozen BK154.out 1; have hfz46_2 := blk_frozen BK154.out 2; have hfz46_3 := blk_frozen BK154.out 3))
                  go_ret
                  exact ⟨by first | rfl | (simp [errW_none, errW_some] <;> rfl) | (simp [*, errW_none, errW_some] <;> rfl), by repeat (first | (with_reducible first | exact HB.out | apply below_alloc | apply pw_below_drewN | apply below_drew1 | refine below_set ?_ GE154.out) | exact HB.out)⟩
                · rw [if_neg c41] at H
                  have c41b0 : decide (t160 ≤ 1000000000) = false := decide_eq_false c41
                  clear c41
                  obtain rfl := Option.some.inj H
                  have hcz47_0 : wc.cell? ⟨gb154, 0, none⟩ = some (.int .i64 a1_0) := (blk_cell BK154.out 0).trans rfl
                  have hcz47_1 : wc.cell? ⟨gb154, 1, none⟩ = some (.int .i64 a1_1) := (blk_cell BK154.out 1).trans rfl
                  have hcz47_2 : wc.cell? ⟨gb154, 2, none⟩ = some (.int .i64 a1_2) := (blk_cell BK154.out 2).trans rfl
                  have hcz47_3 : wc.cell? ⟨gb154, 3, none⟩ = some (.int .i64 a1_3) := (blk_cell BK154.out 3).trans rfl
                  have hfz47_0 := blk_frozen BK154.out 0
                  have hfz47_1 := blk_frozen BK154.out 1
                  have hfz47_2 := blk_frozen BK154.out 2
                  have hfz47_3 := blk_frozen BK154.out 3
                  go_wp2_with (first | ((with_reducible refine gate_callee (f := 10) rfl ?_); refine goesL_ (some 26) rfl rfl Try.func10 (by kernel_rfl) rfl #[.slice A0 l0.length c0, .int .i64 a1_0, .int .i64 a1_1] rfl (by (try simp only [List.map_toArray, List.map_cons, List.map_nil]); first | done | rfl | (simp only [List.length_drop, List.length_take]; rfl)) ?_; (with_reducible refine (demerit_Length.calls kj4 _ _ l0 a1_0 a1_1 t158 t159 _ ?side1 ?side2 A13.out).mono ?_); (case side1 => repeat (first | exact (Kd.C_below HR0.out HB.out) | (with_reducible refine Kd.C_alloc ?_ _) | (with_reducible refine Kd.C_drewN ?_ _) | (with_reducible refine Kd.C_drew ?_))); (case side2 => exact HC0.out); rintro e w48 ⟨rfl, hb⟩; refine ⟨_, rfl, ?_⟩; have n0_ := Aside0.mk (blk_below (g := gb154) (o := .cells #[.int .i64 a1_0, .int .i64 a1_1, .int .i64 a1_2, .int .i64 a1_3] 24 (0, 0)) (by (with_reducible repeat (first | refine blk_drewN ?_ _ | refine blk_drew ?_ | refine blk_alloc ?_ _)); exact BK154.out) hb); have n1_ := Aside0.mk (below_step (by repeat (first | (with_reducible first | exact HB.out | apply below_alloc | apply pw_below_drewN | apply below_drew1 | refine below_set ?_ GE154.out) | exact HB.out)) hb); clear BK154; clear HB; have BK154 := n0_; have HB := n1_; clear n0_ n1_; (try clear hb); (try clear hb2); (try clear hk); (try clear hi); have hcz49_0 : w48.cell? ⟨gb154, 0, none⟩ = some (.int .i64 a1_0) := (blk_cell BK154.out 0).trans rfl; have hcz49_1 : w48.cell? ⟨gb154, 1, none⟩ = some (.int .i64 a1_1) := (blk_cell BK154.out 1).trans rfl; have hcz49_2 : w48.cell? ⟨gb154, 2, none⟩ = some (.int .i64 a1_2) := (blk_cell BK154.out 2).trans rfl; have hcz49_3 : w48.cell? ⟨gb154, 3, none⟩ = some (.int .i64 a1_3) := (blk_cell BK154.out 3).trans rfl; have hfz49_0 := blk_frozen BK154.out 0; have hfz49_1 := blk_frozen BK154.out 1; have hfz49_2 := blk_frozen BK154.out 2; have hfz49_3 := blk_frozen BK154.out 3) | ((with_reducible refine gate_callee (f := 12) rfl ?_); refine goesL_ (some 37) rfl rfl Try.func12 (by kernel_rfl) rfl #[.slice A0 l0.length c0, .int .i64 a1_0, .int .i64 a1_1, .int .i64 a1_2] rfl (by (try simp only [List.map_toArray, List.map_cons, List.map_nil]); first | done | rfl | (simp only [List.length_drop, List.length_take]; rfl)) ?_; (with_reducible refine (demerit_Line.calls kj4 _ _ l0 a1_0 a1_1 a1_2 t160 t161 _ ?side1 ?side2 A14.out).mono ?_); (case side1 => repeat (first | exact (Kd.C_below HR0.out HB.out) | (with_reducible refine Kd.C_alloc ?_ _) | (with_reducible refine Kd.C_drewN ?_ _) | (with_reducible refine Kd.C_drew ?_))); (case side2 => exact HC0.out); rintro e w50 ⟨rfl, hb⟩; refine ⟨_, rfl, ?_⟩; have n0_ := Aside0.mk (blk_below (g := gb154) (o := .cells #[.int .i64 a1_0, .int .i64 a1_1, .int .i64 a1_2, .int .i64 a1_3] 24 (0, 0)) (by (with_reducible repeat (first | refine blk_drewN ?_ _ | refine blk_drew ?_ | refine blk_alloc ?_ _)); exact BK154.out) hb); have n1_ := Aside0.mk (below_step (by repeat (first | (with_reducible first | exact HB.out | apply below_alloc | apply pw_below_drewN | apply below_drew1 | refine below_set ?_ GE154.out) | exact HB.out)) hb); clear BK154; clear HB; have BK154 := n0_; have HB := n1_; clear n0_ n1_; (try clear hb); (try clear hb2); (try clear hk); (try clear hi); have hcz51_0 : w50.cell? ⟨gb154, 0, none⟩ = some (.int .i64 a1_0) := (blk_cell BK154.out 0).trans rfl; have hcz51_1 : w50.cell? ⟨gb154, 1, none⟩ = some (.int .i64 a1_1) := (blk_cell BK154.out 1).trans rfl; have hcz51_2 : w50.cell? ⟨gb154, 2, none⟩ = some (.int .i64 a1_2) := (blk_cell BK154.out 2).trans rfl; have hcz51_3 : w50.cell? ⟨gb154, 3, none⟩ = some (.int .i64 a1_3) := (blk_cell BK154.out 3).trans rfl; have hfz51_0 := blk_frozen BK154.out 0; have hfz51_1 := blk_frozen BK154.out 1; have hfz51_2 := blk_frozen BK154.out 2; have hfz51_3 := blk_frozen BK154.out 3))
                  go_ret
                  exact ⟨by first | rfl | (simp [errW_none, errW_some] <;> rfl) | (simp [*, errW_none, errW_some] <;> rfl), by repeat (first | (with_reducible first | exact HB.out | apply below_alloc | apply pw_below_drewN | apply below_drew1 | refine below_set ?_ GE154.out) | exact HB.out)⟩
              · rw [if_neg c40] at H
                have c40b0 : (t161 == 0) = false := beq_eq_false_iff_ne.mpr c40
                have c40b1 : (t161 != 0) = true := bne_iff_ne.mpr c40
                obtain rfl := Option.some.inj H
                have hcz52_0 : wc.cell? ⟨gb154, 0, none⟩ = some (.int .i64 a1_0) := (blk_cell BK154.out 0).trans rfl
                have hcz52_1 : wc.cell? ⟨gb154, 1, none⟩ = some (.int .i64 a1_1) := (blk_cell BK154.out 1).trans rfl
                have hcz52_2 : wc.cell? ⟨gb154, 2, none⟩ = some (.int .i64 a1_2) := (blk_cell BK154.out 2).trans rfl
                have hcz52_3 : wc.cell? ⟨gb154, 3, none⟩ = some (.int .i64 a1_3) := (blk_cell BK154.out 3).trans rfl
                have hfz52_0 := blk_frozen BK154.out 0
                have hfz52_1 := blk_frozen BK154.out 1
                have hfz52_2 := blk_frozen BK154.out 2
                have hfz52_3 := blk_frozen BK154.out 3
                go_wp2_with (first | ((with_reducible refine gate_callee (f := 10) rfl ?_); refine goesL_ (some 26) rfl rfl Try.func10 (by kernel_rfl) rfl #[.slice A0 l0.length c0, .int .i64 a1_0, .int .i64 a1_1] rfl (by (try simp only [List.map_toArray, List.map_cons, List.map_nil]); first | done | rfl | (simp only [List.length_drop, List.length_take]; rfl)) ?_; (with_reducible refine (demerit_Length.calls kj4 _ _ l0 a1_0 a1_1 t158 t159 _ ?side1 ?side2 A13.out).mono ?_); (case side1 => repeat (first | exact (Kd.C_below HR0.out HB.out) | (with_reducible refine Kd.C_alloc ?_ _) | (with_reducible refine Kd.C_drewN ?_ _) | (with_reducible refine Kd.C_drew ?_))); (case side2 => exact HC0.out); rintro e w53 ⟨rfl, hb⟩; refine ⟨_, rfl, ?_⟩; have n0_ := Aside0.mk (blk_below (g := gb154) (o := .cells #[.int .i64 a1_0, .int .i64 a1_1, .int .i64 a1_2, .int .i64 a1_3] 24 (0, 0)) (by (with_reducible repeat (first | refine blk_drewN ?_ _ | refine blk_drew ?_ | refine blk_alloc ?_ _)); exact BK154.out) hb); have n1_ := Aside0.mk (below_step (by repeat (first | (with_reducible first | exact HB.out | apply below_alloc | apply pw_below_drewN | apply below_drew1 | refine below_set ?_ GE154.out) | exact HB.out)) hb); clear BK154; clear HB; have BK154 := n0_; have HB := n1_; clear n0_ n1_; (try clear hb); (try clear hb2); (try clear hk); (try clear hi); have hcz54_0 : w53.cell? ⟨gb154, 0, none⟩ = some (.int .i64 a1_0) := (blk_cell BK154.out 0).trans rfl; have hcz54_1 : w53.cell? ⟨gb154, 1, none⟩ = some (.int .i64 a1_1) := (blk_cell BK154.out 1).trans rfl; have hcz54_2 : w53.cell? ⟨gb154, 2, none⟩ = some (.int .i64 a1_2) := (blk_cell BK154.out 2).trans rfl; have hcz54_3 : w53.cell? ⟨gb154, 3, none⟩ = some (.int .i64 a1_3) := (blk_cell BK154.out 3).trans rfl; have hfz54_0 := blk_frozen BK154.out 0; have hfz54_1 := blk_frozen BK154.out 1; have hfz54_2 := blk_frozen BK154.out 2; have hfz54_3 := blk_frozen BK154.out 3) | ((with_reducible refine gate_callee (f := 12) rfl ?_); refine goesL_ (some 37) rfl rfl Try.func12 (by kernel_rfl) rfl #[.slice A0 l0.length c0, .int .i64 a1_0, .int .i64 a1_1, .int .i64 a1_2] rfl (by (try simp only [List.map_toArray, List.map_cons, List.map_nil]); first | done | rfl | (simp only [List.length_drop, List.length_take]; rfl)) ?_; (with_reducible refine (demerit_Line.calls kj4 _ _ l0 a1_0 a1_1 a1_2 t160 t161 _ ?side1 ?side2 A14.out).mono ?_); (case side1 => repeat (first | exact (Kd.C_below HR0.out HB.out) | (with_reducible refine Kd.C_alloc ?_ _) | (with_reducible refine Kd.C_drewN ?_ _) | (with_reducible refine Kd.C_drew ?_))); (case side2 => exact HC0.out); rintro e w55 ⟨rfl, hb⟩; refine ⟨_, rfl, ?_⟩; have n0_ := Aside0.mk (blk_below (g := gb154) (o := .cells #[.int .i64 a1_0, .int .i64 a1_1, .int .i64 a1_2, .int .i64 a1_3] 24 (0, 0)) (by (with_reducible repeat (first | refine blk_drewN ?_ _ | refine blk_drew ?_ | refine blk_alloc ?_ _)); exact BK154.out) hb); have n1_ := Aside0.mk (below_step (by repeat (first | (with_reducible first | exact HB.out | apply below_alloc | apply pw_below_drewN | apply below_drew1 | refine below_set ?_ GE154.out) | exact HB.out)) hb); clear BK154; clear HB; have BK154 := n0_; have HB := n1_; clear n0_ n1_; (try clear hb); (try clear hb2); (try clear hk); (try clear hi); have hcz56_0 : w55.cell? ⟨gb154, 0, none⟩ = some (.int .i64 a1_0) := (blk_cell BK154.out 0).trans rfl; have hcz56_1 : w55.cell? ⟨gb154, 1, none⟩ = some (.int .i64 a1_1) := (blk_cell BK154.out 1).trans rfl; have hcz56_2 : w55.cell? ⟨gb154, 2, none⟩ = some (.int .i64 a1_2) := (blk_cell BK154.out 2).trans rfl; have hcz56_3 : w55.cell? ⟨gb154, 3, none⟩ = some (.int .i64 a1_3) := (blk_cell BK154.out 3).trans rfl; have hfz56_0 := blk_frozen BK154.out 0; have hfz56_1 := blk_frozen BK154.out 1; have hfz56_2 := blk_frozen BK154.out 2; have hfz56_3 := blk_frozen BK154.out 3))
                go_ret
                exact ⟨by first | rfl | (simp [errW_none, errW_some] <;> rfl) | (simp [*, errW_none, errW_some] <;> rfl), by repeat (first | (with_reducible first | exact HB.out | apply below_alloc | apply pw_below_drewN | apply below_drew1 | refine below_set ?_ GE154.out) | exact HB.out)⟩
          · rw [if_neg c15] at H
            have c15b0 : (t159 == 0) = false := beq_eq_false_iff_ne.mpr c15
            have c15b1 : (t159 != 0) = true := bne_iff_ne.mpr c15
            by_cases c57 : t159 = 2
            · rw [if_pos c57] at H
              have c57b0 : (t159 == 2) = true := beq_iff_eq.mpr c57
              have c57b1 : (t159 != 2) = false := bne_eq_false_iff_eq.mpr c57
              clear c57
              obtain rfl := Option.some.inj H
              have hcz58_0 : wc.cell? ⟨gb154, 0, none⟩ = some (.int .i64 a1_0) := (blk_cell BK154.out 0).trans rfl
              have hcz58_1 : wc.cell? ⟨gb154, 1, none⟩ = some (.int .i64 a1_1) := (blk_cell BK154.out 1).trans rfl
              have hcz58_2 : wc.cell? ⟨gb154, 2, none⟩ = some (.int .i64 a1_2) := (blk_cell BK154.out 2).trans rfl
              have hcz58_3 : wc.cell? ⟨gb154, 3, none⟩ = some (.int .i64 a1_3) := (blk_cell BK154.out 3).trans rfl
              have hfz58_0 := blk_frozen BK154.out 0
              have hfz58_1 := blk_frozen BK154.out 1
              have hfz58_2 := blk_frozen BK154.out 2
              have hfz58_3 := blk_frozen BK154.out 3
              go_wp2_with (first | ((with_reducible refine gate_callee (f := 10) rfl ?_); refine goesL_ (some 26) rfl rfl Try.func10 (by kernel_rfl) rfl #[.slice A0 l0.length c0, .int .i64 a1_0, .int .i64 a1_1] rfl (by (try simp only [List.map_toArray, List.map_cons, List.map_nil]); first | done | rfl | (simp only [List.length_drop, List.length_take]; rfl)) ?_; (with_reducible refine (demerit_Length.calls kj4 _ _ l0 a1_0 a1_1 t158 t159 _ ?side1 ?side2 A13.out).mono ?_); (case side1 => repeat (first | exact (Kd.C_below HR0.out HB.out) | (with_reducible refine Kd.C_alloc ?_ _) | (with_reducible refine Kd.C_drewN ?_ _) | (with_reducible refine Kd.C_drew ?_))); (case side2 => exact HC0.out); rintro e w59 ⟨rfl, hb⟩; refine ⟨_, rfl, ?_⟩; have n0_ := Aside0.mk (blk_below (g := gb154) (o := .cells #[.int .i64 a1_0, .int .i64 a1_1, .int .i64 a1_2, .int .i64 a1_3] 24 (0, 0)) (by (with_reducible repeat (first | refine blk_drewN ?_ _ | refine blk_drew ?_ | refine blk_alloc ?_ _)); exact BK154.out) hb); have n1_ := Aside0.mk (below_step (by repeat (first | (with_reducible first | exact HB.out | apply below_alloc | apply pw_below_drewN | apply below_drew1 | refine below_set ?_ GE154.out) | exact HB.out)) hb); clear BK154; clear HB; have BK154 := n0_; have HB := n1_; clear n0_ n1_; (try clear hb); (try clear hb2); (try clear hk); (try clear hi); have hcz60_0 : w59.cell? ⟨gb154, 0, none⟩ = some (.int .i64 a1_0) := (blk_cell BK154.out 0).trans rfl; have hcz60_1 : w59.cell? ⟨gb154, 1, none⟩ = some (.int .i64 a1_1) := (blk_cell BK154.out 1).trans rfl; have hcz60_2 : w59.cell? ⟨gb154, 2, none⟩ = some (.int .i64 a1_2) := (blk_cell BK154.out 2).trans rfl; have hcz60_3 : w59.cell? ⟨gb154, 3, none⟩ = some (.int .i64 a1_3) := (blk_cell BK154.out 3).trans rfl; have hfz60_0 := blk_frozen BK154.out 0; have hfz60_1 := blk_frozen BK154.out 1; have hfz60_2 := blk_frozen BK154.out 2; have hfz60_3 := blk_frozen BK154.out 3) | ((with_reducible refine gate_callee (f := 12) rfl ?_); refine goesL_ (some 37) rfl rfl Try.func12 (by kernel_rfl) rfl #[.slice A0 l0.length c0, .int .i64 a1_0, .int .i64 a1_1, .int .i64 a1_2] rfl (by (try simp only [List.map_toArray, List.map_cons, List.map_nil]); first | done | rfl | (simp only [List.length_drop, List.length_take]; rfl)) ?_; (with_reducible refine (demerit_Line.calls kj4 _ _ l0 a1_0 a1_1 a1_2 t160 t161 _ ?side1 ?side2 A14.out).mono ?_); (case side1 => repeat (first | exact (Kd.C_below HR0.out HB.out) | (with_reducible refine Kd.C_alloc ?_ _) | (with_reducible refine Kd.C_drewN ?_ _) | (with_reducible refine Kd.C_drew ?_))); (case side2 => exact HC0.out); rintro e w61 ⟨rfl, hb⟩; refine ⟨_, rfl, ?_⟩; have n0_ := Aside0.mk (blk_below (g := gb154) (o := .cells #[.int .i64 a1_0, .int .i64 a1_1, .int .i64 a1_2, .int .i64 a1_3] 24 (0, 0)) (by (with_reducible repeat (first | refine blk_drewN ?_ _ | refine blk_drew ?_ | refine blk_alloc ?_ _)); exact BK154.out) hb); have n1_ := Aside0.mk (below_step (by repeat (first | (with_reducible first | exact HB.out | apply below_alloc | apply pw_below_drewN | apply below_drew1 | refine below_set ?_ GE154.out) | exact HB.out)) hb); clear BK154; clear HB; have BK154 := n0_; have HB := n1_; clear n0_ n1_; (try clear hb); (try clear hb2); (try clear hk); (try clear hi)))
              go_ret
              exact ⟨by first | rfl | (simp [errW_none, errW_some] <;> rfl) | (simp [*, errW_none, errW_some] <;> rfl), by repeat (first | (with_reducible first | exact HB.out | apply below_alloc | apply pw_below_drewN | apply below_drew1 | refine below_set ?_ GE154.out) | exact HB.out)⟩
            · rw [if_neg c57] at H
              have c57b0 : (t159 == 2) = false := beq_eq_false_iff_ne.mpr c57
              have c57b1 : (t159 != 2) = true := bne_iff_ne.mpr c57
              obtain rfl := Option.some.inj H
              have hcz62_0 : wc.cell? ⟨gb154, 0, none⟩ = some (.int .i64 a1_0) := (blk_cell BK154.out 0).trans rfl
              have hcz62_1 : wc.cell? ⟨gb154, 1, none⟩ = some (.int .i64 a1_1) := (blk_cell BK154.out 1).trans rfl
              have hcz62_2 : wc.cell? ⟨gb154, 2, none⟩ = some (.int .i64 a1_2) := (blk_cell BK154.out 2).trans rfl
              have hcz62_3 : wc.cell? ⟨gb154, 3, none⟩ = some (.int .i64 a1_3) := (blk_cell BK154.out 3).trans rfl
              have hfz62_0 := blk_frozen BK154.out 0
              have hfz62_1 := blk_frozen BK154.out 1
              have hfz62_2 := blk_frozen BK154.out 2
              have hfz62_3 := blk_frozen BK154.out 3
              go_wp2_with (first | ((with_reducible refine gate_callee (f := 10) rfl ?_); refine goesL_ (some 26) rfl rfl Try.func10 (by kernel_rfl) rfl #[.slice A0 l0.length c0, .int .i64 a1_0, .int .i64 a1_1] rfl (by (try simp only [List.map_toArray, List.map_cons, List.map_nil]); first | done | rfl | (simp only [List.length_drop, List.length_take]; rfl)) ?_; (with_reducible refine (demerit_Length.calls kj4 _ _ l0 a1_0 a1_1 t158 t159 _ ?side1 ?side2 A13.out).mono ?_); (case side1 => repeat (first | exact (Kd.C_below HR0.out HB.out) | (with_reducible refine Kd.C_alloc ?_ _) | (with_reducible refine Kd.C_drewN ?_ _) | (with_reducible refine Kd.C_drew ?_))); (case side2 => exact HC0.out); rintro e w63 ⟨rfl, hb⟩; refine ⟨_, rfl, ?_⟩; have n0_ := Aside0.mk (blk_below (g := gb154) (o := .cells #[.int .i64 a1_0, .int .i64 a1_1, .int .i64 a1_2, .int .i64 a1_3] 24 (0, 0)) (by (with_reducible repeat (first | refine blk_drewN ?_ _ | refine blk_drew ?_ | refine blk_alloc ?_ _)); exact BK154.out) hb); have n1_ := Aside0.mk (below_step (by repeat (first | (with_reducible first | exact HB.out | apply below_alloc | apply pw_below_drewN | apply below_drew1 | refine below_set ?_ GE154.out) | exact HB.out)) hb); clear BK154; clear HB; have BK154 := n0_; have HB := n1_; clear n0_ n1_; (try clear hb); (try clear hb2); (try clear hk); (try clear hi); have hcz64_0 : w63.cell? ⟨gb154, 0, none⟩ = some (.int .i64 a1_0) := (blk_cell BK154.out 0).trans rfl; have hcz64_1 : w63.cell? ⟨gb154, 1, none⟩ = some (.int .i64 a1_1) := (blk_cell BK154.out 1).trans rfl; have hcz64_2 : w63.cell? ⟨gb154, 2, none⟩ = some (.int .i64 a1_2) := (blk_cell BK154.out 2).trans rfl; have hcz64_3 : w63.cell? ⟨gb154, 3, none⟩ = some (.int .i64 a1_3) := (blk_cell BK154.out 3).trans rfl; have hfz64_0 := blk_frozen BK154.out 0; have hfz64_1 := blk_frozen BK154.out 1; have hfz64_2 := blk_frozen BK154.out 2; have hfz64_3 := blk_frozen BK154.out 3) | ((with_reducible refine gate_callee (f := 12) rfl ?_); refine goesL_ (some 37) rfl rfl Try.func12 (by kernel_rfl) rfl #[.slice A0 l0.length c0, .int .i64 a1_0, .int .i64 a1_1, .int .i64 a1_2] rfl (by (try simp only [List.map_toArray, List.map_cons, List.map_nil]); first | done | rfl | (simp only [List.length_drop, List.length_take]; rfl)) ?_; (with_reducible refine (demerit_Line.calls kj4 _ _ l0 a1_0 a1_1 a1_2 t160 t161 _ ?side1 ?side2 A14.out).mono ?_); (case side1 => repeat (first | exact (Kd.C_below HR0.out HB.out) | (with_reducible refine Kd.C_alloc ?_ _) | (with_reducible refine Kd.C_drewN ?_ _) | (with_reducible refine Kd.C_drew ?_))); (case side2 => exact HC0.out); rintro e w65 ⟨rfl, hb⟩; refine ⟨_, rfl, ?_⟩; have n0_ := Aside0.mk (blk_below (g := gb154) (o := .cells #[.int .i64 a1_0, .int .i64 a1_1, .int .i64 a1_2, .int .i64 a1_3] 24 (0, 0)) (by (with_reducible repeat (first | refine blk_drewN ?_ _ | refine blk_drew ?_ | refine blk_alloc ?_ _)); exact BK154.out) hb); have n1_ := Aside0.mk (below_step (by repeat (first | (with_reducible first | exact HB.out | apply below_alloc | apply pw_below_drewN | apply below_drew1 | refine below_set ?_ GE154.out) | exact HB.out)) hb); clear BK154; clear HB; have BK154 := n0_; have HB := n1_; clear n0_ n1_; (try clear hb); (try clear hb2); (try clear hk); (try clear hi)))
              go_ret
              exact ⟨by first | rfl | (simp [errW_none, errW_some] <;> rfl) | (simp [*, errW_none, errW_some] <;> rfl), by repeat (first | (with_reducible first | exact HB.out | apply below_alloc | apply pw_below_drewN | apply below_drew1 | refine below_set ?_ GE154.out) | exact HB.out)⟩
  · replace c4 := Bool.eq_false_iff.mpr c4
    subst c4
    have H1 : (some false) = some r := by rw [if_neg (show ¬ (false = true) by decide)] at H; exact H
    clear H
    have H := H1
    clear H1
    obtain rfl := Option.some.inj H
    go_enter Try.func5, Try.ntmps5
    go_wp2_with (first | ((with_reducible refine gate_dst (N := 3) rfl ?_); refine box_event ?hg (N := 3) ?hd (cs := #[.int .i64 a1_0, .int .i64 a1_1, .int .i64 a1_2, .int .i64 a1_3]) (t := 24) ?hr ?_; (case hd => rfl); (case hg => rfl); (case hr => first | (go_simp; done) | (go_simp; rfl)); intro gb154 hg w66 hbox hb; have n0_ := Aside0.mk (below_step (by repeat (first | (with_reducible first | exact HB.out | apply below_alloc | apply pw_below_drewN | apply below_drew1) | exact HB.out)) hb); have n1_ := Aside0.mk (hbox); have n2_ := Aside0.mk ((by rw [hg]; exact (below_size (by repeat (first | (with_reducible first | exact HB.out | apply below_alloc | apply pw_below_drewN | apply below_drew1) | exact HB.out))) : w.heap.size ≤ gb154)); have n3_ := Aside0.mk ((by rw [hg]; exact (below_size (by repeat (first | (with_reducible first | exact HB.out | apply below_alloc | apply pw_below_drewN | apply below_drew1) | exact HB.out))) : w.heap.size ≤ gb154)); clear HB; have HB := n0_; have BK154 := n1_; have GW154 := n2_; have GE154 := n3_; clear n0_ n1_ n2_ n3_; clear hb hbox hg) | ((with_reducible refine gate_callee (f := 9) rfl ?_); refine goesL_ (some 9) rfl rfl Try.func9 (by kernel_rfl) rfl #[] rfl (by (try simp only [List.map_toArray, List.map_cons, List.map_nil]); first | done | rfl | (simp only [List.length_drop, List.length_take]; rfl)) ?_; (with_reducible refine (vinculumlaw44_awake.calls k  false _ A3.out).mono ?_); rintro e w67 ⟨rfl, hb⟩; refine ⟨_, rfl, ?_⟩; have n0_ := Aside0.mk (blk_below (g := gb154) (o := .cells #[.int .i64 a1_0, .int .i64 a1_1, .int .i64 a1_2, .int .i64 a1_3] 24 (0, 0)) (by (with_reducible repeat (first | refine blk_drewN ?_ _ | refine blk_drew ?_ | refine blk_alloc ?_ _)); exact BK154.out) hb); have n1_ := Aside0.mk (below_step (by repeat (first | (with_reducible first | exact HB.out | apply below_alloc | apply pw_below_drewN | apply below_drew1 | refine below_set ?_ GE154.out) | exact HB.out)) hb); clear BK154; clear HB; have BK154 := n0_; have HB := n1_; clear n0_ n1_; (try clear hb); (try clear hb2); (try clear hk); (try clear hi)))
    go_ret
    exact ⟨by first | rfl | (simp [errW_none, errW_some] <;> rfl) | (simp [*, errW_none, errW_some] <;> rfl), by repeat (first | (with_reducible first | exact HB.out | apply below_alloc | apply pw_below_drewN | apply below_drew1 | refine below_set ?_ GE154.out) | exact HB.out)⟩

/-! ### demerit_proper: function 25 -/
def demerit_proper.l0 : Nat → Int → List Int → Int → List Int → Int → Int → Option (Bool)
  | 0, _, _, _, _, _, _ => none
  | k + 1, x0, x1, x5, x8, x9, x10 => if x10 < x9 then (if 0 ≤ x10 then (if x10 < (x8.length : Int) then (if (rd x8 x10) ≤ x5 then (some false) else (if (rd x8 x10) ≥ x0 then (some false) else (demerit_proper.l0 k x0 x1 (rd x8 x10) x8 x9 (wrap64 (x10 + 1))))) else (none)) else (none)) else (if (x1.length : Int) > 0 then (if 0 < (x1.length : Int) then (some ((rd x1 0) == 0)) else (none)) else (some false))
def demerit_proper.f (k : Nat) (a0 : Int) (l1 : List Int) : Option (Bool) := demerit_proper.l0 k a0 l1 (-1) l1 (l1.length : Int) 0
theorem demerit_proper.mono_l : ∀ k, (∀ y0 y1 y2 y3 y4 y5, LeO (demerit_proper.l0 k y0 y1 y2 y3 y4 y5) (demerit_proper.l0 (k + 1) y0 y1 y2 y3 y4 y5))
  | 0 => fun _ _ _ _ _ _ r h => by simp [demerit_proper.l0] at h
  | k + 1 => by
    have ih0 := demerit_proper.mono_l k
    · intro y0 y1 y2 y3 y4 y5
      unfold demerit_proper.l0
      repeat' first
      | (with_reducible exact ih0 _ _ _ _ _ _)
      | (with_reducible exact LeO.refl _)
      | (with_reducible exact LeO.none _)
      | (with_reducible refine LeO.ite ?_ ?_)
      | (with_reducible refine LeO.bind ?_ (fun _ => ?_))
      | exact ih0 _ _ _ _ _ _
      | exact LeO.none _
      | refine LeO.ite ?_ ?_
      | refine LeO.bind ?_ (fun _ => ?_)
theorem demerit_proper.mono : ∀ a0 a1 k, LeO (demerit_proper.f k a0 a1) (demerit_proper.f (k + 1) a0 a1) := by
  intro a0 a1 k
  have ih0 := demerit_proper.mono_l k
  unfold demerit_proper.f
  repeat' first
      | (with_reducible exact ih0 _ _ _ _ _ _)
      | (with_reducible exact LeO.refl _)
      | (with_reducible exact LeO.none _)
      | (with_reducible refine LeO.ite ?_ ?_)
      | (with_reducible refine LeO.bind ?_ (fun _ => ?_))
      | exact ih0 _ _ _ _ _ _
      | exact LeO.none _
      | refine LeO.ite ?_ ?_
      | refine LeO.bind ?_ (fun _ => ?_)
set_option maxHeartbeats 8000000 in
set_option maxRecDepth 100000 in
theorem demerit_proper.calls (k : Nat) (a0 : Int) (A1 : Option Addr) (c1 : Nat) (l1 : List Int) (r : Bool) (w : World) (hr1 : Kd.C (Kd.int .i64) w A1 l1.length l1) (hc1 : l1.length ≤ c1) (h : demerit_proper.f k a0 l1 = some r) :
    Calls Try.prog 25 #[.int .i64 a0, .slice A1 l1.length c1] w fun e w' => e = .returned (.bool r) ∧ Drawn0 w w' := by
  have HR1 := Aside0.mk hr1
  have HC1 := Aside0.mk hc1
  clear hr1 hc1
  have H : (demerit_proper.l0 k a0 l1 (-1) l1 (l1.length : Int) 0) = some r := h
  clear h
  have H' := Aside0.mk H
  clear H
  go_enter Try.func25, Try.ntmps25
  go_wp2
  go_loopg [5, 10] k (fun kq v5 v10 w' => ∃ (x5_1 : Int) (x10_1 : Int), v5 = .int .i64 x5_1 ∧ v10 = .int .i64 x10_1 ∧ Aside0 (demerit_proper.l0 kq a0 l1 x5_1 l1 (l1.length : Int) x10_1 = some r) ∧ Aside0 (kq ≤ k) ∧ Drawn0 w w')
  case atStart => exact ⟨((-1)), (0), (by first | rfl | (simp; done) | (simp [*]; done)), (by first | rfl | (simp; done) | (simp [*]; done)), H', ⟨Nat.le_refl _⟩, by repeat (first | exact Drawn0.refl _ | apply Drawn0.step)⟩
  case round =>
    clear H'
    try clear c1
    try clear c2
    try clear p2
    obtain ⟨x5_1, x10_1, rfl, rfl, HA, HK1, ⟨m1, rfl⟩⟩ := hrel
    cases gk with
    | zero => exact absurd HA.out (by simp [demerit_proper.l0])
    | succ k1 =>
      have H := HA.out
      clear HA
      simp only [demerit_proper.l0] at H
      by_cases c3 : x10_1 < (l1.length : Int)
      · rw [if_pos c3] at H
        have c3b0 : decide (x10_1 < (l1.length : Int)) = true := decide_eq_true c3
        clear c3
        by_cases c4 : 0 ≤ x10_1
        · rw [if_pos c4] at H
          have c4b0 : decide (0 ≤ x10_1) = true := decide_eq_true c4
          clear c4
          by_cases c5 : x10_1 < (l1.length : Int)
          · rw [if_pos c5] at H
            have c5b0 : decide (x10_1 < (l1.length : Int)) = true := decide_eq_true c5
            clear c5
            by_cases c6 : (rd l1 x10_1) ≤ x5_1
            · rw [if_pos c6] at H
              have c6b0 : decide ((rd l1 x10_1) ≤ x5_1) = true := decide_eq_true c6
              clear c6
              obtain rfl := Option.some.inj H
              have p162 : 0 ≤ (x10_1 : Int) := of_decide_eq_true (by first | (with_reducible assumption) | assumption)
              have q162 : x10_1 < (l1.length : Int) := of_decide_eq_true (by first | (with_reducible assumption) | assumption)
              obtain ⟨ad162, e162, hx162_0⟩ := Kd.at_int HR1.out x10_1 p162 q162
              cases e162
              replace p162 := eq_true p162
              replace q162 := eq_true q162
              go_wp2
              go_ret
              exact ⟨by first | rfl | (simp; done) | (simp [*]; done), by repeat (first | exact Drawn0.refl _ | apply Drawn0.step)⟩
            · rw [if_neg c6] at H
              have c6b0 : decide ((rd l1 x10_1) ≤ x5_1) = false := decide_eq_false c6
              clear c6
              by_cases c7 : (rd l1 x10_1) ≥ a0
              · rw [if_pos c7] at H
                have c7b0 : decide (a0 ≤ (rd l1 x10_1)) = true := decide_eq_true c7
                clear c7
                obtain rfl := Option.some.inj H
                have p162 : 0 ≤ (x10_1 : Int) := of_decide_eq_true (by first | (with_reducible assumption) | assumption)
                have q162 : x10_1 < (l1.length : Int) := of_decide_eq_true (by first | (with_reducible assumption) | assumption)
                obtain ⟨ad162, e162, hx162_0⟩ := Kd.at_int HR1.out x10_1 p162 q162
                cases e162
                replace p162 := eq_true p162
                replace q162 := eq_true q162
                go_wp2
                go_ret
                exact ⟨by first | rfl | (simp; done) | (simp [*]; done), by repeat (first | exact Drawn0.refl _ | apply Drawn0.step)⟩
              · rw [if_neg c7] at H
                have c7b0 : decide (a0 ≤ (rd l1 x10_1)) = false := decide_eq_false c7
                clear c7
                have H' := Aside0.mk H
                clear H
                have p162 : 0 ≤ (x10_1 : Int) := of_decide_eq_true (by first | (with_reducible assumption) | assumption)
                have q162 : x10_1 < (l1.length : Int) := of_decide_eq_true (by first | (with_reducible assumption) | assumption)
                obtain ⟨ad162, e162, hx162_0⟩ := Kd.at_int HR1.out x10_1 p162 q162
                cases e162
                replace p162 := eq_true p162
                replace q162 := eq_true q162
                go_wp2
                go_roundg k1
                case measure => have := HK1.out; omega
                case rel => exact ⟨(rd l1 x10_1), (wrap64 (x10_1 + 1)), (by first | rfl | (simp; done) | (simp [*]; done)), (by first | rfl | (simp; done) | (simp [*]; done)), H', ⟨by have := HK1.out; omega⟩, by repeat (first | exact Drawn0.refl _ | apply Drawn0.step)⟩
          · rw [if_neg c5] at H
            exact absurd H (by simp)
        · rw [if_neg c4] at H
          exact absurd H (by simp)
      · rw [if_neg c3] at H
        have c3b0 : decide (x10_1 < (l1.length : Int)) = false := decide_eq_false c3
        clear c3
        by_cases c8 : (l1.length : Int) > 0
        · rw [if_pos c8] at H
          have c8b0 : decide (0 < (l1.length : Int)) = true := decide_eq_true c8
          have c8b1 : decide (0 < l1.length) = true := decide_eq_true (by omega)
          clear c8
          by_cases c9 : 0 < (l1.length : Int)
          · rw [if_pos c9] at H
            have c9b0 : decide (0 < (l1.length : Int)) = true := decide_eq_true c9
            have c9b1 : decide (0 < l1.length) = true := decide_eq_true (by omega)
            clear c9
            obtain rfl := Option.some.inj H
            have p163 : 0 ≤ (0 : Int) := (by omega)
            have q163 : 0 < (l1.length : Int) := of_decide_eq_true (by first | (with_reducible assumption) | assumption)
            obtain ⟨ad163, e163, hx163_0⟩ := Kd.at_int HR1.out 0 p163 q163
            cases e163
            have qi163 : (0 < l1.length) = True := eq_true (by omega)
            (try rw [show ((0 : Int)).toNat = 0 from rfl] at hx163_0)
            (try rw [Addr.add_zero'] at hx163_0)
            replace p163 := eq_true p163
            replace q163 := eq_true q163
            go_wp2
            go_ret
            exact ⟨by first | rfl | (simp; done) | (simp [*]; done), by repeat (first | exact Drawn0.refl _ | apply Drawn0.step)⟩
          · rw [if_neg c9] at H
            exact absurd H (by simp)
        · rw [if_neg c8] at H
          have c8b0 : decide (0 < (l1.length : Int)) = false := decide_eq_false c8
          have c8b1 : decide (0 < l1.length) = false := decide_eq_false (by omega)
          clear c8
          obtain rfl := Option.some.inj H
          go_wp2
          go_ret
          exact ⟨by first | rfl | (simp; done) | (simp [*]; done), by repeat (first | exact Drawn0.refl _ | apply Drawn0.step)⟩

end Go.Proofs.Ytbcilhnldnpehaa.PD
