-- Written by a program of this place (wip/gen.py) with the kit's print; not trusted: Lean checks it.
import Derived.Test.YtliegocbkgdhcaaPBx0
import Derived.Test.YtliegocbkgdhcaaPBx2
import Derived.Test.YtliegocbkgdhcaaPBx4
import Derived.Test.YtliegocbkgdhcaaPBx5
import Derived.Test.YtliegocbkgdhcaaPBx6
namespace Go.Proofs.Ytliegocbkgdhcaa.PB
open Go.RowKit Go.Proofs.YtliegocbkgdhcaaW.PrintWords Go.Proofs.YtliegocbkgdhcaaW.PrintLast Go.Proofs.YtliegocbkgdhcaaW.PrintMore
attribute [local go_sem] max2_int min2_int max_two min_two max_three min_three max_four min_four   -- for this text's walks alone
set_option linter.unusedVariables false
set_option linter.unusedSimpArgs false

/-! ### vinculumlaw46_CertificateBest: function 8 -/
def vinculumlaw46_CertificateBest.j0 : Nat → List (S50) → Bool → Int → Int → Option (Bool)
  | 0, _, _, _, _ => none
  | k + 1, x0, x23, x168000, x168001 => if x23 = true then (some true) else ((certificate_Make.f k x0 x168000 x168001).bind fun bt170 => ((breaker_Best.f k x0 x168000 x168001).bind fun bt174 => (if bt170.2 = 0 then (if bt174.2.2 = 0 then (if (bt170.1.length : Int) = (wrap64 ((x0.length : Int) + 1)) then (if 0 < (bt170.1.length : Int) then (if (rd bt170.1 0) = bt174.2.1 then ((certificate_Check.f k x0 x168000 x168001 bt174.1 bt170.1).bind fun t180 => (some t180)) else (none)) else (none)) else (none)) else (none)) else (none))))
def vinculumlaw46_CertificateBest.f (k : Nat) (l0 : List (S50)) (a1_0 : Int) (a1_1 : Int) : Option (Bool) := (vinculumlaw46_awake.f k).bind fun t168 => (if t168 = true then (if (l0.length : Int) > 70 then (vinculumlaw46_CertificateBest.j0 k l0 true a1_0 a1_1) else ((vinculumref46_Fits.f k l0 a1_0 a1_1).bind fun t169 => (vinculumlaw46_CertificateBest.j0 k l0 (!t169) a1_0 a1_1))) else (none))
theorem vinculumlaw46_CertificateBest.mono_l : ∀ k, (∀ y0 y1 y2 y3, LeO (vinculumlaw46_CertificateBest.j0 k y0 y1 y2 y3) (vinculumlaw46_CertificateBest.j0 (k + 1) y0 y1 y2 y3))
  | 0 => fun _ _ _ _ r h => by simp [vinculumlaw46_CertificateBest.j0] at h
  | k + 1 => by
    have ih0 := vinculumlaw46_CertificateBest.mono_l k
    · intro y0 y1 y2 y3
      unfold vinculumlaw46_CertificateBest.j0
      repeat' first
      | (with_reducible exact ih0 _ _ _ _)
      | (with_reducible exact breaker_Best.mono _ _ _ _)
      | (with_reducible exact certificate_Check.mono _ _ _ _ _ _)
      | (with_reducible exact certificate_Make.mono _ _ _ _)
      | (with_reducible exact vinculumlaw46_awake.mono _)
      | (with_reducible exact vinculumref46_Fits.mono _ _ _ _)
      | (with_reducible exact LeO.refl _)
      | (with_reducible exact LeO.none _)
      | (with_reducible refine LeO.ite ?_ ?_)
      | (with_reducible refine LeO.bind ?_ (fun _ => ?_))
      | exact ih0 _ _ _ _
      | exact breaker_Best.mono _ _ _ _
      | exact certificate_Check.mono _ _ _ _ _ _
      | exact certificate_Make.mono _ _ _ _
      | exact vinculumlaw46_awake.mono _
      | exact vinculumref46_Fits.mono _ _ _ _
      | exact LeO.none _
      | refine LeO.ite ?_ ?_
      | refine LeO.bind ?_ (fun _ => ?_)
theorem vinculumlaw46_CertificateBest.mono : ∀ a0 a1 a2 k, LeO (vinculumlaw46_CertificateBest.f k a0 a1 a2) (vinculumlaw46_CertificateBest.f (k + 1) a0 a1 a2) := by
  intro a0 a1 a2 k
  have ih0 := vinculumlaw46_CertificateBest.mono_l k
  unfold vinculumlaw46_CertificateBest.f
  repeat' first
      | (with_reducible exact ih0 _ _ _ _)
      | (with_reducible exact breaker_Best.mono _ _ _ _)
      | (with_reducible exact certificate_Check.mono _ _ _ _ _ _)
      | (with_reducible exact certificate_Make.mono _ _ _ _)
      | (with_reducible exact vinculumlaw46_awake.mono _)
      | (with_reducible exact vinculumref46_Fits.mono _ _ _ _)
      | (with_reducible exact LeO.refl _)
      | (with_reducible exact LeO.none _)
      | (with_reducible refine LeO.ite ?_ ?_)
      | (with_reducible refine LeO.bind ?_ (fun _ => ?_))
      | exact ih0 _ _ _ _
      | exact breaker_Best.mono _ _ _ _
      | exact certificate_Check.mono _ _ _ _ _ _
      | exact certificate_Make.mono _ _ _ _
      | exact vinculumlaw46_awake.mono _
      | exact vinculumref46_Fits.mono _ _ _ _
      | exact LeO.none _
      | refine LeO.ite ?_ ?_
      | refine LeO.bind ?_ (fun _ => ?_)
set_option maxHeartbeats 8000000 in
set_option maxRecDepth 100000 in
theorem vinculumlaw46_CertificateBest.calls (k : Nat) (A0 : Option Addr) (c0 : Nat) (l0 : List (S50)) (a1_0 : Int) (a1_1 : Int) (r : Bool) (w : World) (hr0 : Kd.C k50 w A0 l0.length l0) (hc0 : l0.length ≤ c0) (h : vinculumlaw46_CertificateBest.f k l0 a1_0 a1_1 = some r) :
    Calls Try.prog 8 #[.slice A0 l0.length c0, .agg #[.int .i64 a1_0, .int .i64 a1_1]] w fun e w' => e = .returned (.bool r) ∧ Below w.heap.size w w' := by
  have hu24 := Try.underlying24
  have HR0 := Aside0.mk hr0
  have HC0 := Aside0.mk hc0
  clear hr0 hc0
  have HB := Aside0.mk (Below.refl w.heap.size w)
  have H : ((vinculumlaw46_awake.f k).bind fun t168 => (if t168 = true then (if (l0.length : Int) > 70 then (vinculumlaw46_CertificateBest.j0 k l0 true a1_0 a1_1) else ((vinculumref46_Fits.f k l0 a1_0 a1_1).bind fun t169 => (vinculumlaw46_CertificateBest.j0 k l0 (!t169) a1_0 a1_1))) else (none))) = some r := h
  clear h
  replace H := Option.bind_eq_some_iff.mp H
  obtain ⟨t168, A30, H⟩ := H
  replace H : (if t168 = true then (if (l0.length : Int) > 70 then (vinculumlaw46_CertificateBest.j0 k l0 true a1_0 a1_1) else ((vinculumref46_Fits.f k l0 a1_0 a1_1).bind fun t169 => (vinculumlaw46_CertificateBest.j0 k l0 (!t169) a1_0 a1_1))) else (none)) = some r := H
  have A3 := Aside0.mk A30
  clear A30
  by_cases c4 : t168 = true
  · subst c4
    have H1 : (if (l0.length : Int) > 70 then (vinculumlaw46_CertificateBest.j0 k l0 true a1_0 a1_1) else ((vinculumref46_Fits.f k l0 a1_0 a1_1).bind fun t169 => (vinculumlaw46_CertificateBest.j0 k l0 (!t169) a1_0 a1_1))) = some r := by rw [if_pos rfl] at H; exact H
    clear H
    have H := H1
    clear H1
    have HC5 := Aside0.mk H
    clear H
    go_enter Try.func8, Try.ntmps8
    go_upto_region 3 with (first | ((with_reducible refine gate_dst (N := 3) rfl ?_); (try (refine gate_guard (by rfl) ?_; dsimp only)); refine box_event ?hg (N := 3) ?hd (cs := #[.int .i64 a1_0, .int .i64 a1_1]) (t := 24) ?hr ?_; (case hd => rfl); (case hg => rfl); (case hr => first | (go_simp; done) | (go_simp; rfl)); intro gb167 hg w6 hbox hb; have n0_ := Aside0.mk (below_step (by repeat (first | (with_reducible first | exact HB.out | apply below_alloc | apply pw_below_drewN | apply below_drew1) | exact HB.out)) hb); have n1_ := Aside0.mk (hbox); have n2_ := Aside0.mk ((by rw [hg]; exact (below_size (by repeat (first | (with_reducible first | exact HB.out | apply below_alloc | apply pw_below_drewN | apply below_drew1) | exact HB.out))) : w.heap.size ≤ gb167)); have n3_ := Aside0.mk ((by rw [hg]; exact (below_size (by repeat (first | (with_reducible first | exact HB.out | apply below_alloc | apply pw_below_drewN | apply below_drew1) | exact HB.out))) : w.heap.size ≤ gb167)); clear HB; have HB := n0_; have BK167 := n1_; have GW167 := n2_; have GE167 := n3_; clear n0_ n1_ n2_ n3_; clear hb hbox hg) | ((with_reducible refine gate_callee (f := 10) rfl ?_); refine goesL_ (some 10) rfl rfl Try.func10 (by kernel_rfl) rfl #[] rfl (by (try simp only [List.map_toArray, List.map_cons, List.map_nil]); first | done | rfl | (simp only [List.length_drop, List.length_take]; rfl)) ?_; (with_reducible refine (vinculumlaw46_awake.calls k  true _ A3.out).mono ?_); rintro e w7 ⟨rfl, hb⟩; refine ⟨_, rfl, ?_⟩; have n0_ := Aside0.mk (blk_below (g := gb167) (o := .cells #[.int .i64 a1_0, .int .i64 a1_1] 24 (0, 0)) (by (with_reducible repeat (first | refine blk_drewN ?_ _ | refine blk_drew ?_ | refine blk_alloc ?_ _)); exact BK167.out) hb); have n1_ := Aside0.mk (below_step (by repeat (first | (with_reducible first | exact HB.out | apply below_alloc | apply pw_below_drewN | apply below_drew1 | refine below_set ?_ GE167.out) | exact HB.out)) hb); clear BK167; clear HB; have BK167 := n0_; have HB := n1_; clear n0_ n1_; (try clear hb); (try clear hb2); (try clear hk); (try clear hi)))
    (try simp only [Act.put, List.setIfInBounds_toArray, List.set_cons_zero, List.set_cons_succ])
    go_cut [23] (fun v23 wc => ∃ (kq : Nat) (x23_4 : Bool), v23 = .bool x23_4 ∧ Aside0 (vinculumlaw46_CertificateBest.j0 kq l0 x23_4 a1_0 a1_1 = some r) ∧ Aside0 (kq ≤ k) ∧ Aside0 (wc.heap[gb167]? = some (.cells #[.int .i64 a1_0, .int .i64 a1_1] 24 (0, 0))) ∧ Aside0 (Below w.heap.size w wc))
    case first =>
      have H := HC5.out
      clear HC5
      by_cases c8 : (l0.length : Int) > 70
      · rw [if_pos c8] at H
        have c8b0 : decide (70 < (l0.length : Int)) = true := decide_eq_true c8
        have c8b1 : decide (70 < l0.length) = true := decide_eq_true (by omega)
        clear c8
        (first | rw [c8b0] | (simp only [i64_w, i32_w]; rw [c8b0]) | skip)
        have H' := Aside0.mk H
        clear H
        go_wp2
        go_meet
        case rel => exact ⟨_, (true), (by first | rfl | (simp; done) | (simp [*]; done) | (simp [ne_nil_bool]; done)), H', ⟨by first | omega | exact Nat.le_refl _⟩, ⟨by (with_reducible repeat (first | refine blk_drewN ?_ _ | refine blk_drew ?_ | refine blk_alloc ?_ _)); exact BK167.out⟩, ⟨by repeat (first | (with_reducible first | exact HB.out | apply below_alloc | apply pw_below_drewN | apply below_drew1 | refine below_set ?_ GE167.out) | exact HB.out)⟩⟩
      · rw [if_neg c8] at H
        have c8b0 : decide (70 < (l0.length : Int)) = false := decide_eq_false c8
        have c8b1 : decide (70 < l0.length) = false := decide_eq_false (by omega)
        clear c8
        (first | rw [c8b0] | (simp only [i64_w, i32_w]; rw [c8b0]) | skip)
        replace H := Option.bind_eq_some_iff.mp H
        obtain ⟨t169, A90, H⟩ := H
        replace H : (vinculumlaw46_CertificateBest.j0 k l0 (!t169) a1_0 a1_1) = some r := H
        have A9 := Aside0.mk A90
        clear A90
        have H' := Aside0.mk H
        clear H
        have hcz10_0 : w7.cell? ⟨gb167, 0, none⟩ = some (.int .i64 a1_0) := (blk_cell BK167.out 0).trans rfl
        have hcz10_1 : w7.cell? ⟨gb167, 1, none⟩ = some (.int .i64 a1_1) := (blk_cell BK167.out 1).trans rfl
        have hfz10_0 := blk_frozen BK167.out 0
        have hfz10_1 := blk_frozen BK167.out 1
        go_wp2_with (first | (go_at_call 19; (with_reducible refine (vinculumref46_Fits.calls k _ _ l0 a1_0 a1_1 t169 _ ?side1 ?side2 A9.out).mono ?_); (case side1 => repeat (first | exact (Kd.C_below HR0.out HB.out) | (with_reducible refine Kd.C_alloc ?_ _) | (with_reducible refine Kd.C_drewN ?_ _) | (with_reducible refine Kd.C_drew ?_))); (case side2 => exact HC0.out); rintro e w' ⟨rfl, ⟨nd, rfl⟩⟩))
        go_meet
        case rel => exact ⟨_, (!t169), (by first | rfl | (simp; done) | (simp [*]; done) | (simp [ne_nil_bool]; done)), H', ⟨by first | omega | exact Nat.le_refl _⟩, ⟨by (with_reducible repeat (first | refine blk_drewN ?_ _ | refine blk_drew ?_ | refine blk_alloc ?_ _)); exact BK167.out⟩, ⟨by repeat (first | (with_reducible first | exact HB.out | apply below_alloc | apply pw_below_drewN | apply below_drew1 | refine below_set ?_ GE167.out) | exact HB.out)⟩⟩
    case rest =>
      clear HC5
      try clear c1
      try clear p2
      try clear c4
      try clear c8
      try clear c8b0
      try clear c8b1
      try clear c10
      try clear hcz10_0
      try clear hcz10_1
      try clear hfz10_0
      try clear hfz10_1
      obtain ⟨kq, x23_4, rfl, HA, HJ4, BK167, HB⟩ := hcut
      cases kq with
      | zero => exact absurd HA.out (by simp [vinculumlaw46_CertificateBest.j0])
      | succ kj4 =>
        have H := HA.out
        clear HA
        simp only [vinculumlaw46_CertificateBest.j0] at H
        by_cases c11 : x23_4 = true
        · subst c11
          have H1 : (some true) = some r := by rw [if_pos rfl] at H; exact H
          clear H
          have H := H1
          clear H1
          obtain rfl := Option.some.inj H
          go_wp2
          go_ret
          exact ⟨by first | rfl | (simp [errW_none, errW_some] <;> rfl) | (simp [*, errW_none, errW_some] <;> rfl), by repeat (first | (with_reducible first | exact HB.out | apply below_alloc | apply pw_below_drewN | apply below_drew1 | refine below_set ?_ GE167.out) | exact HB.out)⟩
        · replace c11 := Bool.eq_false_iff.mpr c11
          subst c11
          have H1 : ((certificate_Make.f kj4 l0 a1_0 a1_1).bind fun bt170 => ((breaker_Best.f kj4 l0 a1_0 a1_1).bind fun bt174 => (if bt170.2 = 0 then (if bt174.2.2 = 0 then (if (bt170.1.length : Int) = (wrap64 ((l0.length : Int) + 1)) then (if 0 < (bt170.1.length : Int) then (if (rd bt170.1 0) = bt174.2.1 then ((certificate_Check.f kj4 l0 a1_0 a1_1 bt174.1 bt170.1).bind fun t180 => (some t180)) else (none)) else (none)) else (none)) else (none)) else (none)))) = some r := by rw [if_neg (show ¬ (false = true) by decide)] at H; exact H
          clear H
          have H := H1
          clear H1
          replace H := Option.bind_eq_some_iff.mp H
          obtain ⟨⟨t170, t171⟩, A120, H⟩ := H
          replace H : ((breaker_Best.f kj4 l0 a1_0 a1_1).bind fun bt174 => (if t171 = 0 then (if bt174.2.2 = 0 then (if (t170.length : Int) = (wrap64 ((l0.length : Int) + 1)) then (if 0 < (t170.length : Int) then (if (rd t170 0) = bt174.2.1 then ((certificate_Check.f kj4 l0 a1_0 a1_1 bt174.1 t170).bind fun t180 => (some t180)) else (none)) else (none)) else (none)) else (none)) else (none))) = some r := H
          have A12 := Aside0.mk A120
          clear A120
          replace H := Option.bind_eq_some_iff.mp H
          obtain ⟨⟨t174, t175, t176⟩, A130, H⟩ := H
          replace H : (if t171 = 0 then (if t176 = 0 then (if (t170.length : Int) = (wrap64 ((l0.length : Int) + 1)) then (if 0 < (t170.length : Int) then (if (rd t170 0) = t175 then ((certificate_Check.f kj4 l0 a1_0 a1_1 t174 t170).bind fun t180 => (some t180)) else (none)) else (none)) else (none)) else (none)) else (none)) = some r := H
          have A13 := Aside0.mk A130
          clear A130
          by_cases c14 : t171 = 0
          · rw [if_pos c14] at H
            have c14b0 : (t171 == 0) = true := beq_iff_eq.mpr c14
            have c14b1 : (t171 != 0) = false := bne_eq_false_iff_eq.mpr c14
            clear c14
            by_cases c15 : t176 = 0
            · rw [if_pos c15] at H
              have c15b0 : (t176 == 0) = true := beq_iff_eq.mpr c15
              have c15b1 : (t176 != 0) = false := bne_eq_false_iff_eq.mpr c15
              clear c15
              by_cases c16 : (t170.length : Int) = (wrap64 ((l0.length : Int) + 1))
              · rw [if_pos c16] at H
                have c16b0 : ((t170.length : Int) == (wrap64 ((l0.length : Int) + 1))) = true := beq_iff_eq.mpr c16
                have c16b1 : ((t170.length : Int) != (wrap64 ((l0.length : Int) + 1))) = false := bne_eq_false_iff_eq.mpr c16
                clear c16
                by_cases c17 : 0 < (t170.length : Int)
                · rw [if_pos c17] at H
                  have c17b0 : decide (0 < (t170.length : Int)) = true := decide_eq_true c17
                  have c17b1 : decide (0 < t170.length) = true := decide_eq_true (by omega)
                  clear c17
                  by_cases c18 : (rd t170 0) = t175
                  · rw [if_pos c18] at H
                    have c18b0 : ((rd t170 0) == t175) = true := beq_iff_eq.mpr c18
                    have c18b1 : ((rd t170 0) != t175) = false := bne_eq_false_iff_eq.mpr c18
                    clear c18
                    replace H := Option.bind_eq_some_iff.mp H
                    obtain ⟨t180, A190, H⟩ := H
                    replace H : (some t180) = some r := H
                    have A19 := Aside0.mk A190
                    clear A190
                    obtain rfl := Option.some.inj H
                    have hcz20_0 : wc.cell? ⟨gb167, 0, none⟩ = some (.int .i64 a1_0) := (blk_cell BK167.out 0).trans rfl
                    have hcz20_1 : wc.cell? ⟨gb167, 1, none⟩ = some (.int .i64 a1_1) := (blk_cell BK167.out 1).trans rfl
                    have hfz20_0 := blk_frozen BK167.out 0
                    have hfz20_1 := blk_frozen BK167.out 1
                    go_wp2_with (first | ((with_reducible refine gate_callee (f := 11) rfl ?_); refine goesL_ (some 30) rfl rfl Try.func11 (by kernel_rfl) rfl #[.slice A0 l0.length c0, .int .i64 a1_0, .int .i64 a1_1] rfl (by (try simp only [List.map_toArray, List.map_cons, List.map_nil]); first | done | rfl | (simp only [List.length_drop, List.length_take]; rfl)) ?_; (with_reducible refine (certificate_Make.calls kj4 _ _ l0 a1_0 a1_1 t170 t171 _ ?side1 ?side2 A12.out).mono ?_); (case side1 => repeat (first | exact (Kd.C_below HR0.out HB.out) | (with_reducible refine Kd.C_alloc ?_ _) | (with_reducible refine Kd.C_drewN ?_ _) | (with_reducible refine Kd.C_drew ?_))); (case side2 => exact HC0.out); rintro e w21 ⟨v172, rfl, ho0, hb⟩; refine ⟨_, rfl, ?_⟩; have n0_ := Aside0.mk (Kd.R_lower ho0 (below_size (by repeat (first | (with_reducible first | exact HB.out | apply below_alloc | apply pw_below_drewN | apply below_drew1 | refine below_set ?_ GE167.out) | exact HB.out)))); have n1_ := Aside0.mk (blk_below (g := gb167) (o := .cells #[.int .i64 a1_0, .int .i64 a1_1] 24 (0, 0)) (by (with_reducible repeat (first | refine blk_drewN ?_ _ | refine blk_drew ?_ | refine blk_alloc ?_ _)); exact BK167.out) hb); have n2_ := Aside0.mk (below_step (by repeat (first | (with_reducible first | exact HB.out | apply below_alloc | apply pw_below_drewN | apply below_drew1 | refine below_set ?_ GE167.out) | exact HB.out)) hb); clear BK167; clear HB; have HO173 := n0_; have BK167 := n1_; have HB := n2_; clear n0_ n1_ n2_; (try clear hb); (try clear hb2); (try clear hk); (try clear hi); (try clear ho0); have hcz22_0 : w21.cell? ⟨gb167, 0, none⟩ = some (.int .i64 a1_0) := (blk_cell BK167.out 0).trans rfl; have hcz22_1 : w21.cell? ⟨gb167, 1, none⟩ = some (.int .i64 a1_1) := (blk_cell BK167.out 1).trans rfl; have hfz22_0 := blk_frozen BK167.out 0; have hfz22_1 := blk_frozen BK167.out 1) | ((with_reducible refine gate_callee (f := 22) rfl ?_); refine goesL_ (some 39) rfl rfl Try.func22 (by kernel_rfl) rfl #[.slice A0 l0.length c0, .int .i64 a1_0, .int .i64 a1_1] rfl (by (try simp only [List.map_toArray, List.map_cons, List.map_nil]); first | done | rfl | (simp only [List.length_drop, List.length_take]; rfl)) ?_; (with_reducible refine (breaker_Best.calls kj4 _ _ l0 a1_0 a1_1 t174 t175 t176 _ ?side1 ?side2 A13.out).mono ?_); (case side1 => repeat (first | exact (Kd.C_below HR0.out HB.out) | (with_reducible refine Kd.C_alloc ?_ _) | (with_reducible refine Kd.C_drewN ?_ _) | (with_reducible refine Kd.C_drew ?_))); (case side2 => exact HC0.out); rintro e w23 ⟨v177, rfl, ho0, hb⟩; refine ⟨_, rfl, ?_⟩; have n0_ := Aside0.mk (Kd.R_elder' (by (with_reducible repeat (first | apply Kd.R_alloc | apply Kd.R_drewN | apply Kd.R_drew)); exact HO173.out) (Kd.R_base ho0) hb); have n1_ := Aside0.mk (Kd.R_lower (Kd.R_new' ho0 (Kd.R_lt (by (with_reducible repeat (first | apply Kd.R_alloc | apply Kd.R_drewN | apply Kd.R_drew)); exact HO173.out))) (below_size (by repeat (first | (with_reducible first | exact HB.out | apply below_alloc | apply pw_below_drewN | apply below_drew1 | refine below_set ?_ GE167.out) | exact HB.out)))); have n2_ := Aside0.mk (blk_below (g := gb167) (o := .cells #[.int .i64 a1_0, .int .i64 a1_1] 24 (0, 0)) (by (with_reducible repeat (first | refine blk_drewN ?_ _ | refine blk_drew ?_ | refine blk_alloc ?_ _)); exact BK167.out) hb); have n3_ := Aside0.mk (below_step (by repeat (first | (with_reducible first | exact HB.out | apply below_alloc | apply pw_below_drewN | apply below_drew1 | refine below_set ?_ GE167.out) | exact HB.out)) hb); clear HO173; clear BK167; clear HB; have HO173 := n0_; have HO178 := n1_; have BK167 := n2_; have HB := n3_; clear n0_ n1_ n2_ n3_; (try clear hb); (try clear hb2); (try clear hk); (try clear hi); (try clear ho0); obtain ⟨Ao24, co24, eo24⟩ := Kd.R_slice HO173.out; subst eo24; have p179 : 0 ≤ (0 : Int) := (by omega); have q179 : 0 < (t170.length : Int) := of_decide_eq_true (by first | (with_reducible assumption) | assumption); obtain ⟨ad179, e179, hx179_0⟩ := Kd.at_int (Kd.R_reads' HO173.out).2.2 0 p179 q179; cases e179; have qi179 : (0 < t170.length) = True := eq_true (by omega); (try rw [show ((0 : Int)).toNat = 0 from rfl] at hx179_0); (try rw [Addr.add_zero'] at hx179_0); replace p179 := eq_true p179; replace q179 := eq_true q179; have hcz25_0 : w23.cell? ⟨gb167, 0, none⟩ = some (.int .i64 a1_0) := (blk_cell BK167.out 0).trans rfl; have hcz25_1 : w23.cell? ⟨gb167, 1, none⟩ = some (.int .i64 a1_1) := (blk_cell BK167.out 1).trans rfl; have hfz25_0 := blk_frozen BK167.out 0; have hfz25_1 := blk_frozen BK167.out 1; obtain ⟨Ao26, co26, eo26⟩ := Kd.R_slice HO178.out; subst eo26) | (go_at_call 17; (with_reducible refine (certificate_Check.calls kj4 _ _ l0 a1_0 a1_1 _ _ t174 _ _ t170 t180 _ ?side1 ?side2 ?side3 ?side4 ?side5 ?side6 A19.out).mono ?_); (case side1 => repeat (first | exact (Kd.C_below HR0.out HB.out) | (with_reducible refine Kd.C_alloc ?_ _) | (with_reducible refine Kd.C_drewN ?_ _) | (with_reducible refine Kd.C_drew ?_))); (case side2 => exact HC0.out); (case side3 => repeat (first | exact (Kd.R_reads' HO178.out).2.2 | (with_reducible refine Kd.C_alloc ?_ _) | (with_reducible refine Kd.C_drewN ?_ _) | (with_reducible refine Kd.C_drew ?_))); (case side4 => exact (Kd.R_reads' HO178.out).2.1); (case side5 => repeat (first | exact (Kd.R_reads' HO173.out).2.2 | (with_reducible refine Kd.C_alloc ?_ _) | (with_reducible refine Kd.C_drewN ?_ _) | (with_reducible refine Kd.C_drew ?_))); (case side6 => exact (Kd.R_reads' HO173.out).2.1); rintro e w27 ⟨rfl, hb⟩; have n0_ := Aside0.mk (Kd.R_below (by (with_reducible repeat (first | apply Kd.R_alloc | apply Kd.R_drewN | apply Kd.R_drew)); exact HO173.out) hb); have n1_ := Aside0.mk (Kd.R_below (by (with_reducible repeat (first | apply Kd.R_alloc | apply Kd.R_drewN | apply Kd.R_drew)); exact HO178.out) hb); have n2_ := Aside0.mk (blk_below (g := gb167) (o := .cells #[.int .i64 a1_0, .int .i64 a1_1] 24 (0, 0)) (by (with_reducible repeat (first | refine blk_drewN ?_ _ | refine blk_drew ?_ | refine blk_alloc ?_ _)); exact BK167.out) hb); have n3_ := Aside0.mk (below_step (by repeat (first | (with_reducible first | exact HB.out | apply below_alloc | apply pw_below_drewN | apply below_drew1 | refine below_set ?_ GE167.out) | exact HB.out)) hb); clear HO173; clear HO178; clear BK167; clear HB; have HO173 := n0_; have HO178 := n1_; have BK167 := n2_; have HB := n3_; clear n0_ n1_ n2_ n3_; (try clear hb); (try clear hb2); (try clear hk); (try clear hi)))
                    go_ret
                    exact ⟨by first | rfl | (simp [errW_none, errW_some] <;> rfl) | (simp [*, errW_none, errW_some] <;> rfl), by repeat (first | (with_reducible first | exact HB.out | apply below_alloc | apply pw_below_drewN | apply below_drew1 | refine below_set ?_ GE167.out) | exact HB.out)⟩
                  · rw [if_neg c18] at H
                    exact absurd H (by simp)
                · rw [if_neg c17] at H
                  exact absurd H (by simp)
              · rw [if_neg c16] at H
                exact absurd H (by simp)
            · rw [if_neg c15] at H
              exact absurd H (by simp)
          · rw [if_neg c14] at H
            exact absurd H (by simp)
  · replace c4 := Bool.eq_false_iff.mpr c4
    subst c4
    have H1 : (none) = some r := by rw [if_neg (show ¬ (false = true) by decide)] at H; exact H
    clear H
    have H := H1
    clear H1
    exact absurd H (by simp)

end Go.Proofs.Ytliegocbkgdhcaa.PB
