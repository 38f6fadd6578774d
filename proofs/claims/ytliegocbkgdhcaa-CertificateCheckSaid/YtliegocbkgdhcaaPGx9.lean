-- Written by a program of this place (wip/gen.py) with the kit's print; not trusted: Lean checks it.
import Derived.Test.YtliegocbkgdhcaaPGx0
import Derived.Test.YtliegocbkgdhcaaPGx6
import Derived.Test.YtliegocbkgdhcaaPGx8
namespace Go.Proofs.Ytliegocbkgdhcaa.PG
open Go.RowKit Go.Proofs.YtliegocbkgdhcaaW.PrintWords Go.Proofs.YtliegocbkgdhcaaW.PrintLast Go.Proofs.YtliegocbkgdhcaaW.PrintMore
attribute [local go_sem] max2_int min2_int max_two min_two max_three min_three max_four min_four   -- for this text's walks alone
set_option linter.unusedVariables false
set_option linter.unusedSimpArgs false

/-! ### vinculumref44_Starts: function 28 -/
def vinculumref44_Starts.l0 : Nat → Int → List Int → Int → Option (Bool)
  | 0, _, _, _ => none
  | k + 1, x0, x1, x5 => if x5 < (x1.length : Int) then (if 0 ≤ x5 then (if (rd x1 x5) ≥ x0 then (some false) else (if x5 = 0 then (if (rd x1 x5) = 0 then (if x5 > 0 then (if 0 ≤ (wrap64 (x5 - 1)) then (if (wrap64 (x5 - 1)) < (x1.length : Int) then (if (rd x1 x5) ≤ (rd x1 (wrap64 (x5 - 1))) then (some false) else (vinculumref44_Starts.l0 k x0 x1 (wrap64 (x5 + 1)))) else (none)) else (none)) else (vinculumref44_Starts.l0 k x0 x1 (wrap64 (x5 + 1)))) else (some false)) else (if x5 > 0 then (if 0 ≤ (wrap64 (x5 - 1)) then (if (wrap64 (x5 - 1)) < (x1.length : Int) then (if (rd x1 x5) ≤ (rd x1 (wrap64 (x5 - 1))) then (some false) else (vinculumref44_Starts.l0 k x0 x1 (wrap64 (x5 + 1)))) else (none)) else (none)) else (vinculumref44_Starts.l0 k x0 x1 (wrap64 (x5 + 1)))))) else (none)) else (some (decide ((x1.length : Int) > 0)))
def vinculumref44_Starts.f (k : Nat) (a0 : Int) (l1 : List Int) : Option (Bool) := vinculumref44_Starts.l0 k a0 l1 0
theorem vinculumref44_Starts.mono_l : ∀ k, (∀ y0 y1 y2, LeO (vinculumref44_Starts.l0 k y0 y1 y2) (vinculumref44_Starts.l0 (k + 1) y0 y1 y2))
  | 0 => fun _ _ _ r h => by simp [vinculumref44_Starts.l0] at h
  | k + 1 => by
    have ih0 := vinculumref44_Starts.mono_l k
    · intro y0 y1 y2
      unfold vinculumref44_Starts.l0
      repeat' first
      | (with_reducible exact ih0 _ _ _)
      | (with_reducible exact LeO.refl _)
      | (with_reducible exact LeO.none _)
      | (with_reducible refine LeO.ite ?_ ?_)
      | (with_reducible refine LeO.bind ?_ (fun _ => ?_))
      | exact ih0 _ _ _
      | exact LeO.none _
      | refine LeO.ite ?_ ?_
      | refine LeO.bind ?_ (fun _ => ?_)
theorem vinculumref44_Starts.mono : ∀ a0 a1 k, LeO (vinculumref44_Starts.f k a0 a1) (vinculumref44_Starts.f (k + 1) a0 a1) := by
  intro a0 a1 k
  have ih0 := vinculumref44_Starts.mono_l k
  unfold vinculumref44_Starts.f
  repeat' first
      | (with_reducible exact ih0 _ _ _)
      | (with_reducible exact LeO.refl _)
      | (with_reducible exact LeO.none _)
      | (with_reducible refine LeO.ite ?_ ?_)
      | (with_reducible refine LeO.bind ?_ (fun _ => ?_))
      | exact ih0 _ _ _
      | exact LeO.none _
      | refine LeO.ite ?_ ?_
      | refine LeO.bind ?_ (fun _ => ?_)
set_option maxHeartbeats 8000000 in
set_option maxRecDepth 100000 in
theorem vinculumref44_Starts.calls (k : Nat) (a0 : Int) (A1 : Option Addr) (c1 : Nat) (l1 : List Int) (r : Bool) (w : World) (hr1 : Kd.C (Kd.int .i64) w A1 l1.length l1) (hc1 : l1.length ≤ c1) (h : vinculumref44_Starts.f k a0 l1 = some r) :
    Calls Try.prog 28 #[.int .i64 a0, .slice A1 l1.length c1] w fun e w' => e = .returned (.bool r) ∧ Drawn0 w w' := by
  have HR1 := Aside0.mk hr1
  have HC1 := Aside0.mk hc1
  clear hr1 hc1
  have H : (vinculumref44_Starts.l0 k a0 l1 0) = some r := h
  clear h
  have H' := Aside0.mk H
  clear H
  go_enter Try.func28, Try.ntmps28
  go_wp2
  repeat (go_quiet (fail); try go_wp2)
  go_loopg [5] k (fun kq v5 w' => ∃ (x5_1 : Int), v5 = .int .i64 x5_1 ∧ Aside0 (vinculumref44_Starts.l0 kq a0 l1 x5_1 = some r) ∧ Aside0 (kq ≤ k) ∧ Drawn0 w w')
  case atStart => exact ⟨(0), (by first | rfl | (simp; done) | (simp [*]; done) | (simp [ne_nil_bool]; done)), H', ⟨Nat.le_refl _⟩, by repeat (first | exact Drawn0.refl _ | apply Drawn0.step)⟩
  case round =>
    clear H'
    try clear c1
    try clear c2
    try clear p2
    obtain ⟨x5_1, rfl, HA, HK1, ⟨m1, rfl⟩⟩ := hrel
    cases gk with
    | zero => exact absurd HA.out (by simp [vinculumref44_Starts.l0])
    | succ k1 =>
      have H := HA.out
      clear HA
      simp only [vinculumref44_Starts.l0] at H
      by_cases c3 : x5_1 < (l1.length : Int)
      · rw [if_pos c3] at H
        have c3b0 : decide (x5_1 < (l1.length : Int)) = true := decide_eq_true c3
        clear c3
        by_cases c4 : 0 ≤ x5_1
        · rw [if_pos c4] at H
          have c4b0 : decide (0 ≤ x5_1) = true := decide_eq_true c4
          clear c4
          by_cases c5 : (rd l1 x5_1) ≥ a0
          · rw [if_pos c5] at H
            have c5b0 : decide (a0 ≤ (rd l1 x5_1)) = true := decide_eq_true c5
            clear c5
            obtain rfl := Option.some.inj H
            have p223 : 0 ≤ (x5_1 : Int) := of_decide_eq_true (by first | (with_reducible assumption) | assumption)
            have q223 : x5_1 < (l1.length : Int) := of_decide_eq_true (by first | (with_reducible assumption) | assumption)
            obtain ⟨ad223, e223, hx223_0⟩ := Kd.at_int HR1.out x5_1 p223 q223
            cases e223
            replace p223 := eq_true p223
            replace q223 := eq_true q223
            go_wp2
            repeat (go_quiet (fail); try go_wp2)
            go_ret
            exact ⟨by first | rfl | (simp; done) | (simp [*]; done), by repeat (first | exact Drawn0.refl _ | apply Drawn0.step)⟩
          · rw [if_neg c5] at H
            have c5b0 : decide (a0 ≤ (rd l1 x5_1)) = false := decide_eq_false c5
            clear c5
            by_cases c6 : x5_1 = 0
            · rw [if_pos c6] at H
              have c6b0 : (x5_1 == 0) = true := beq_iff_eq.mpr c6
              have c6b1 : (x5_1 != 0) = false := bne_eq_false_iff_eq.mpr c6
              clear c6
              by_cases c7 : (rd l1 x5_1) = 0
              · rw [if_pos c7] at H
                have c7b0 : ((rd l1 x5_1) == 0) = true := beq_iff_eq.mpr c7
                have c7b1 : ((rd l1 x5_1) != 0) = false := bne_eq_false_iff_eq.mpr c7
                clear c7
                by_cases c8 : x5_1 > 0
                · rw [if_pos c8] at H
                  have c8b0 : decide (0 < x5_1) = true := decide_eq_true c8
                  clear c8
                  obtain ⟨ji9, hji9⟩ : ∃ j_ : Int, (wrap64 (x5_1 - 1)) = j_ := ⟨_, rfl⟩
                  replace H : (if 0 ≤ (ji9) then (if (ji9) < (l1.length : Int) then (if (rd l1 x5_1) ≤ (rd l1 (ji9)) then (some false) else (vinculumref44_Starts.l0 k1 a0 l1 (wrap64 (x5_1 + 1)))) else (none)) else (none)) = some r := by first | (rw [hji9] at H; exact H) | (simp only [hji9] at H ⊢; exact H)
                  have hji9w : (IntKind.i64.wrap (x5_1 - 1)) = ji9 := (i64_w _).trans hji9
                  by_cases c10 : 0 ≤ (ji9)
                  · rw [if_pos c10] at H
                    have c10b0 : decide (0 ≤ (ji9)) = true := decide_eq_true c10
                    clear c10
                    by_cases c11 : (ji9) < (l1.length : Int)
                    · rw [if_pos c11] at H
                      have c11b0 : decide ((ji9) < (l1.length : Int)) = true := decide_eq_true c11
                      clear c11
                      by_cases c12 : (rd l1 x5_1) ≤ (rd l1 (ji9))
                      · rw [if_pos c12] at H
                        have c12b0 : decide ((rd l1 x5_1) ≤ (rd l1 (ji9))) = true := decide_eq_true c12
                        clear c12
                        obtain rfl := Option.some.inj H
                        have p223 : 0 ≤ (x5_1 : Int) := of_decide_eq_true (by first | (with_reducible assumption) | assumption)
                        have q223 : x5_1 < (l1.length : Int) := of_decide_eq_true (by first | (with_reducible assumption) | assumption)
                        obtain ⟨ad223, e223, hx223_0⟩ := Kd.at_int HR1.out x5_1 p223 q223
                        cases e223
                        replace p223 := eq_true p223
                        replace q223 := eq_true q223
                        have p224 : 0 ≤ (x5_1 : Int) := of_decide_eq_true (by first | (with_reducible assumption) | assumption)
                        have q224 : x5_1 < (l1.length : Int) := of_decide_eq_true (by first | (with_reducible assumption) | assumption)
                        obtain ⟨ad224, e224, hx224_0⟩ := Kd.at_int HR1.out x5_1 p224 q224
                        obtain rfl : ad223 = ad224 := (by injection e224)
                        replace p224 := eq_true p224
                        replace q224 := eq_true q224
                        have p225 : 0 ≤ (x5_1 : Int) := of_decide_eq_true (by first | (with_reducible assumption) | assumption)
                        have q225 : x5_1 < (l1.length : Int) := of_decide_eq_true (by first | (with_reducible assumption) | assumption)
                        obtain ⟨ad225, e225, hx225_0⟩ := Kd.at_int HR1.out x5_1 p225 q225
                        obtain rfl : ad223 = ad225 := (by injection e225)
                        replace p225 := eq_true p225
                        replace q225 := eq_true q225
                        have p226 : 0 ≤ ((ji9) : Int) := of_decide_eq_true (by first | (with_reducible assumption) | assumption)
                        have q226 : (ji9) < (l1.length : Int) := of_decide_eq_true (by first | (with_reducible assumption) | assumption)
                        obtain ⟨ad226, e226, hx226_0⟩ := Kd.at_int HR1.out (ji9) p226 q226
                        obtain rfl : ad223 = ad226 := (by injection e226)
                        replace p226 := eq_true p226
                        replace q226 := eq_true q226
                        go_wp2
                        repeat (go_quiet (fail); try go_wp2)
                        go_ret
                        exact ⟨by first | rfl | (simp; done) | (simp only [← hji9] <;> (first | rfl | simp)) | (simp [*]; done), by repeat (first | exact Drawn0.refl _ | apply Drawn0.step)⟩
                      · rw [if_neg c12] at H
                        have c12b0 : decide ((rd l1 x5_1) ≤ (rd l1 (ji9))) = false := decide_eq_false c12
                        clear c12
                        have H' := Aside0.mk H
                        clear H
                        have p223 : 0 ≤ (x5_1 : Int) := of_decide_eq_true (by first | (with_reducible assumption) | assumption)
                        have q223 : x5_1 < (l1.length : Int) := of_decide_eq_true (by first | (with_reducible assumption) | assumption)
                        obtain ⟨ad223, e223, hx223_0⟩ := Kd.at_int HR1.out x5_1 p223 q223
                        cases e223
                        replace p223 := eq_true p223
                        replace q223 := eq_true q223
                        have p224 : 0 ≤ (x5_1 : Int) := of_decide_eq_true (by first | (with_reducible assumption) | assumption)
                        have q224 : x5_1 < (l1.length : Int) := of_decide_eq_true (by first | (with_reducible assumption) | assumption)
                        obtain ⟨ad224, e224, hx224_0⟩ := Kd.at_int HR1.out x5_1 p224 q224
                        obtain rfl : ad223 = ad224 := (by injection e224)
                        replace p224 := eq_true p224
                        replace q224 := eq_true q224
                        have p225 : 0 ≤ (x5_1 : Int) := of_decide_eq_true (by first | (with_reducible assumption) | assumption)
                        have q225 : x5_1 < (l1.length : Int) := of_decide_eq_true (by first | (with_reducible assumption) | assumption)
                        obtain ⟨ad225, e225, hx225_0⟩ := Kd.at_int HR1.out x5_1 p225 q225
                        obtain rfl : ad223 = ad225 := (by injection e225)
                        replace p225 := eq_true p225
                        replace q225 := eq_true q225
                        have p226 : 0 ≤ ((ji9) : Int) := of_decide_eq_true (by first | (with_reducible assumption) | assumption)
                        have q226 : (ji9) < (l1.length : Int) := of_decide_eq_true (by first | (with_reducible assumption) | assumption)
                        obtain ⟨ad226, e226, hx226_0⟩ := Kd.at_int HR1.out (ji9) p226 q226
                        obtain rfl : ad223 = ad226 := (by injection e226)
                        replace p226 := eq_true p226
                        replace q226 := eq_true q226
                        go_wp2
                        repeat (go_quiet (fail); try go_wp2)
                        go_roundg k1
                        case measure => have := HK1.out; omega
                        case rel => exact ⟨(wrap64 (x5_1 + 1)), (by first | rfl | (simp; done) | (simp [*]; done) | (simp [ne_nil_bool]; done)), H', ⟨by have := HK1.out; omega⟩, by repeat (first | exact Drawn0.refl _ | apply Drawn0.step)⟩
                    · rw [if_neg c11] at H
                      exact absurd H (by simp)
                  · rw [if_neg c10] at H
                    exact absurd H (by simp)
                · rw [if_neg c8] at H
                  have c8b0 : decide (0 < x5_1) = false := decide_eq_false c8
                  clear c8
                  have H' := Aside0.mk H
                  clear H
                  have p223 : 0 ≤ (x5_1 : Int) := of_decide_eq_true (by first | (with_reducible assumption) | assumption)
                  have q223 : x5_1 < (l1.length : Int) := of_decide_eq_true (by first | (with_reducible assumption) | assumption)
                  obtain ⟨ad223, e223, hx223_0⟩ := Kd.at_int HR1.out x5_1 p223 q223
                  cases e223
                  replace p223 := eq_true p223
                  replace q223 := eq_true q223
                  have p224 : 0 ≤ (x5_1 : Int) := of_decide_eq_true (by first | (with_reducible assumption) | assumption)
                  have q224 : x5_1 < (l1.length : Int) := of_decide_eq_true (by first | (with_reducible assumption) | assumption)
                  obtain ⟨ad224, e224, hx224_0⟩ := Kd.at_int HR1.out x5_1 p224 q224
                  obtain rfl : ad223 = ad224 := (by injection e224)
                  replace p224 := eq_true p224
                  replace q224 := eq_true q224
                  go_wp2
                  repeat (go_quiet (fail); try go_wp2)
                  go_roundg k1
                  case measure => have := HK1.out; omega
                  case rel => exact ⟨(wrap64 (x5_1 + 1)), (by first | rfl | (simp; done) | (simp [*]; done) | (simp [ne_nil_bool]; done)), H', ⟨by have := HK1.out; omega⟩, by repeat (first | exact Drawn0.refl _ | apply Drawn0.step)⟩
              · rw [if_neg c7] at H
                have c7b0 : ((rd l1 x5_1) == 0) = false := beq_eq_false_iff_ne.mpr c7
                have c7b1 : ((rd l1 x5_1) != 0) = true := bne_iff_ne.mpr c7
                obtain rfl := Option.some.inj H
                have p223 : 0 ≤ (x5_1 : Int) := of_decide_eq_true (by first | (with_reducible assumption) | assumption)
                have q223 : x5_1 < (l1.length : Int) := of_decide_eq_true (by first | (with_reducible assumption) | assumption)
                obtain ⟨ad223, e223, hx223_0⟩ := Kd.at_int HR1.out x5_1 p223 q223
                cases e223
                replace p223 := eq_true p223
                replace q223 := eq_true q223
                have p224 : 0 ≤ (x5_1 : Int) := of_decide_eq_true (by first | (with_reducible assumption) | assumption)
                have q224 : x5_1 < (l1.length : Int) := of_decide_eq_true (by first | (with_reducible assumption) | assumption)
                obtain ⟨ad224, e224, hx224_0⟩ := Kd.at_int HR1.out x5_1 p224 q224
                obtain rfl : ad223 = ad224 := (by injection e224)
                replace p224 := eq_true p224
                replace q224 := eq_true q224
                go_wp2
                repeat (go_quiet (fail); try go_wp2)
                go_ret
                exact ⟨by first | rfl | (simp; done) | (simp [*]; done), by repeat (first | exact Drawn0.refl _ | apply Drawn0.step)⟩
            · rw [if_neg c6] at H
              have c6b0 : (x5_1 == 0) = false := beq_eq_false_iff_ne.mpr c6
              have c6b1 : (x5_1 != 0) = true := bne_iff_ne.mpr c6
              by_cases c13 : x5_1 > 0
              · rw [if_pos c13] at H
                have c13b0 : decide (0 < x5_1) = true := decide_eq_true c13
                clear c13
                obtain ⟨ji14, hji14⟩ : ∃ j_ : Int, (wrap64 (x5_1 - 1)) = j_ := ⟨_, rfl⟩
                replace H : (if 0 ≤ (ji14) then (if (ji14) < (l1.length : Int) then (if (rd l1 x5_1) ≤ (rd l1 (ji14)) then (some false) else (vinculumref44_Starts.l0 k1 a0 l1 (wrap64 (x5_1 + 1)))) else (none)) else (none)) = some r := by first | (rw [hji14] at H; exact H) | (simp only [hji14] at H ⊢; exact H)
                have hji14w : (IntKind.i64.wrap (x5_1 - 1)) = ji14 := (i64_w _).trans hji14
                by_cases c15 : 0 ≤ (ji14)
                · rw [if_pos c15] at H
                  have c15b0 : decide (0 ≤ (ji14)) = true := decide_eq_true c15
                  clear c15
                  by_cases c16 : (ji14) < (l1.length : Int)
                  · rw [if_pos c16] at H
                    have c16b0 : decide ((ji14) < (l1.length : Int)) = true := decide_eq_true c16
                    clear c16
                    by_cases c17 : (rd l1 x5_1) ≤ (rd l1 (ji14))
                    · rw [if_pos c17] at H
                      have c17b0 : decide ((rd l1 x5_1) ≤ (rd l1 (ji14))) = true := decide_eq_true c17
                      clear c17
                      obtain rfl := Option.some.inj H
                      have p223 : 0 ≤ (x5_1 : Int) := of_decide_eq_true (by first | (with_reducible assumption) | assumption)
                      have q223 : x5_1 < (l1.length : Int) := of_decide_eq_true (by first | (with_reducible assumption) | assumption)
                      obtain ⟨ad223, e223, hx223_0⟩ := Kd.at_int HR1.out x5_1 p223 q223
                      cases e223
                      replace p223 := eq_true p223
                      replace q223 := eq_true q223
                      have p227 : 0 ≤ (x5_1 : Int) := of_decide_eq_true (by first | (with_reducible assumption) | assumption)
                      have q227 : x5_1 < (l1.length : Int) := of_decide_eq_true (by first | (with_reducible assumption) | assumption)
                      obtain ⟨ad227, e227, hx227_0⟩ := Kd.at_int HR1.out x5_1 p227 q227
                      obtain rfl : ad223 = ad227 := (by injection e227)
                      replace p227 := eq_true p227
                      replace q227 := eq_true q227
                      have p228 : 0 ≤ ((ji14) : Int) := of_decide_eq_true (by first | (with_reducible assumption) | assumption)
                      have q228 : (ji14) < (l1.length : Int) := of_decide_eq_true (by first | (with_reducible assumption) | assumption)
                      obtain ⟨ad228, e228, hx228_0⟩ := Kd.at_int HR1.out (ji14) p228 q228
                      obtain rfl : ad223 = ad228 := (by injection e228)
                      replace p228 := eq_true p228
                      replace q228 := eq_true q228
                      go_wp2
                      repeat (go_quiet (fail); try go_wp2)
                      go_ret
                      exact ⟨by first | rfl | (simp; done) | (simp only [← hji14] <;> (first | rfl | simp)) | (simp [*]; done), by repeat (first | exact Drawn0.refl _ | apply Drawn0.step)⟩
                    · rw [if_neg c17] at H
                      have c17b0 : decide ((rd l1 x5_1) ≤ (rd l1 (ji14))) = false := decide_eq_false c17
                      clear c17
                      have H' := Aside0.mk H
                      clear H
                      have p223 : 0 ≤ (x5_1 : Int) := of_decide_eq_true (by first | (with_reducible assumption) | assumption)
                      have q223 : x5_1 < (l1.length : Int) := of_decide_eq_true (by first | (with_reducible assumption) | assumption)
                      obtain ⟨ad223, e223, hx223_0⟩ := Kd.at_int HR1.out x5_1 p223 q223
                      cases e223
                      replace p223 := eq_true p223
                      replace q223 := eq_true q223
                      have p227 : 0 ≤ (x5_1 : Int) := of_decide_eq_true (by first | (with_reducible assumption) | assumption)
                      have q227 : x5_1 < (l1.length : Int) := of_decide_eq_true (by first | (with_reducible assumption) | assumption)
                      obtain ⟨ad227, e227, hx227_0⟩ := Kd.at_int HR1.out x5_1 p227 q227
                      obtain rfl : ad223 = ad227 := (by injection e227)
                      replace p227 := eq_true p227
                      replace q227 := eq_true q227
                      have p228 : 0 ≤ ((ji14) : Int) := of_decide_eq_true (by first | (with_reducible assumption) | assumption)
                      have q228 : (ji14) < (l1.length : Int) := of_decide_eq_true (by first | (with_reducible assumption) | assumption)
                      obtain ⟨ad228, e228, hx228_0⟩ := Kd.at_int HR1.out (ji14) p228 q228
                      obtain rfl : ad223 = ad228 := (by injection e228)
                      replace p228 := eq_true p228
                      replace q228 := eq_true q228
                      go_wp2
                      repeat (go_quiet (fail); try go_wp2)
                      go_roundg k1
                      case measure => have := HK1.out; omega
                      case rel => exact ⟨(wrap64 (x5_1 + 1)), (by first | rfl | (simp; done) | (simp [*]; done) | (simp [ne_nil_bool]; done)), H', ⟨by have := HK1.out; omega⟩, by repeat (first | exact Drawn0.refl _ | apply Drawn0.step)⟩
                  · rw [if_neg c16] at H
                    exact absurd H (by simp)
                · rw [if_neg c15] at H
                  exact absurd H (by simp)
              · rw [if_neg c13] at H
                have c13b0 : decide (0 < x5_1) = false := decide_eq_false c13
                clear c13
                have H' := Aside0.mk H
                clear H
                have p223 : 0 ≤ (x5_1 : Int) := of_decide_eq_true (by first | (with_reducible assumption) | assumption)
                have q223 : x5_1 < (l1.length : Int) := of_decide_eq_true (by first | (with_reducible assumption) | assumption)
                obtain ⟨ad223, e223, hx223_0⟩ := Kd.at_int HR1.out x5_1 p223 q223
                cases e223
                replace p223 := eq_true p223
                replace q223 := eq_true q223
                go_wp2
                repeat (go_quiet (fail); try go_wp2)
                go_roundg k1
                case measure => have := HK1.out; omega
                case rel => exact ⟨(wrap64 (x5_1 + 1)), (by first | rfl | (simp; done) | (simp [*]; done) | (simp [ne_nil_bool]; done)), H', ⟨by have := HK1.out; omega⟩, by repeat (first | exact Drawn0.refl _ | apply Drawn0.step)⟩
        · rw [if_neg c4] at H
          exact absurd H (by simp)
      · rw [if_neg c3] at H
        have c3b0 : decide (x5_1 < (l1.length : Int)) = false := decide_eq_false c3
        clear c3
        obtain rfl := Option.some.inj H
        go_wp2
        repeat (go_quiet (fail); try go_wp2)
        go_ret
        exact ⟨by first | rfl | (simp; done) | (simp [*]; done), by repeat (first | exact Drawn0.refl _ | apply Drawn0.step)⟩

/-! ### vinculumref46_Check: function 18 -/
mutual
def vinculumref46_Check.j0 : Nat → List (S50) → Int → Int → List Int → List Int → Bool → Option (Bool)
  | 0, _, _, _, _, _, _ => none
  | k + 1, x0, x1, x2, x3, x4, x27 => if x27 = true then (some false) else (vinculumref46_Check.l0 k x0 x1 x2 x3 x4 0)
def vinculumref46_Check.l0 : Nat → List (S50) → Int → Int → List Int → List Int → Int → Option (Bool)
  | 0, _, _, _, _, _, _ => none
  | k + 1, x0, x1, x2, x3, x4, x11 => if x11 < (x3.length : Int) then (if (wrap64 (x11 + 1)) < (x3.length : Int) then (if 0 ≤ (wrap64 (x11 + 1)) then (if 0 ≤ x11 then ((vinculumref46_Line.f k x0 x1 x2 (rd x3 x11) (rd x3 (wrap64 (x11 + 1)))).bind fun bt233 => (if bt233.2 = true then (if 0 ≤ (rd x3 x11) then (if (rd x3 x11) < (x4.length : Int) then (if 0 ≤ (rd x3 (wrap64 (x11 + 1))) then (if (rd x3 (wrap64 (x11 + 1))) < (x4.length : Int) then (if (rd x4 (rd x3 x11)) = (wrap64 (bt233.1 + (rd x4 (rd x3 (wrap64 (x11 + 1)))))) then (vinculumref46_Check.l0 k x0 x1 x2 x3 x4 (wrap64 (x11 + 1))) else (some false)) else (none)) else (none)) else (none)) else (none)) else (some false))) else (none)) else (none)) else (if 0 ≤ x11 then ((vinculumref46_Line.f k x0 x1 x2 (rd x3 x11) (x0.length : Int)).bind fun bt239 => (if bt239.2 = true then (if 0 ≤ (rd x3 x11) then (if (rd x3 x11) < (x4.length : Int) then (if 0 ≤ (x0.length : Int) then (if (x0.length : Int) < (x4.length : Int) then (if (rd x4 (rd x3 x11)) = (wrap64 (bt239.1 + (rd x4 (x0.length : Int)))) then (vinculumref46_Check.l0 k x0 x1 x2 x3 x4 (wrap64 (x11 + 1))) else (some false)) else (none)) else (none)) else (none)) else (none)) else (some false))) else (none))) else (some true)
end
def vinculumref46_Check.f (k : Nat) (l0 : List (S50)) (a1 : Int) (a2 : Int) (l3 : List Int) (l4 : List Int) : Option (Bool) := (vinculumref46_Sound.f k l0 a1 a2 l4).bind fun t229 => (if t229 = true then ((vinculumref44_Starts.f k (l0.length : Int) l3).bind fun t230 => (vinculumref46_Check.j0 k l0 a1 a2 l3 l4 (!t230))) else (vinculumref46_Check.j0 k l0 a1 a2 l3 l4 true))
theorem vinculumref46_Check.mono_l : ∀ k, (∀ y0 y1 y2 y3 y4 y5, LeO (vinculumref46_Check.j0 k y0 y1 y2 y3 y4 y5) (vinculumref46_Check.j0 (k + 1) y0 y1 y2 y3 y4 y5)) ∧ (∀ y0 y1 y2 y3 y4 y5, LeO (vinculumref46_Check.l0 k y0 y1 y2 y3 y4 y5) (vinculumref46_Check.l0 (k + 1) y0 y1 y2 y3 y4 y5))
  | 0 => ⟨fun _ _ _ _ _ _ r h => by simp [vinculumref46_Check.j0] at h, fun _ _ _ _ _ _ r h => by simp [vinculumref46_Check.l0] at h⟩
  | k + 1 => by
    obtain ⟨ih0, ih1⟩ := vinculumref46_Check.mono_l k
    refine ⟨?_, ?_⟩
    · intro y0 y1 y2 y3 y4 y5
      unfold vinculumref46_Check.j0
      repeat' first
      | (with_reducible exact ih0 _ _ _ _ _ _)
      | (with_reducible exact ih1 _ _ _ _ _ _)
      | (with_reducible exact vinculumref44_Starts.mono _ _ _)
      | (with_reducible exact vinculumref46_Line.mono _ _ _ _ _ _)
      | (with_reducible exact vinculumref46_Sound.mono _ _ _ _ _)
      | (with_reducible exact LeO.refl _)
      | (with_reducible exact LeO.none _)
      | (with_reducible refine LeO.ite ?_ ?_)
      | (with_reducible refine LeO.bind ?_ (fun _ => ?_))
      | exact ih0 _ _ _ _ _ _
      | exact ih1 _ _ _ _ _ _
      | exact vinculumref44_Starts.mono _ _ _
      | exact vinculumref46_Line.mono _ _ _ _ _ _
      | exact vinculumref46_Sound.mono _ _ _ _ _
      | exact LeO.none _
      | refine LeO.ite ?_ ?_
      | refine LeO.bind ?_ (fun _ => ?_)
    · intro y0 y1 y2 y3 y4 y5
      unfold vinculumref46_Check.l0
      repeat' first
      | (with_reducible exact ih0 _ _ _ _ _ _)
      | (with_reducible exact ih1 _ _ _ _ _ _)
      | (with_reducible exact vinculumref44_Starts.mono _ _ _)
      | (with_reducible exact vinculumref46_Line.mono _ _ _ _ _ _)
      | (with_reducible exact vinculumref46_Sound.mono _ _ _ _ _)
      | (with_reducible exact LeO.refl _)
      | (with_reducible exact LeO.none _)
      | (with_reducible refine LeO.ite ?_ ?_)
      | (with_reducible refine LeO.bind ?_ (fun _ => ?_))
      | exact ih0 _ _ _ _ _ _
      | exact ih1 _ _ _ _ _ _
      | exact vinculumref44_Starts.mono _ _ _
      | exact vinculumref46_Line.mono _ _ _ _ _ _
      | exact vinculumref46_Sound.mono _ _ _ _ _
      | exact LeO.none _
      | refine LeO.ite ?_ ?_
      | refine LeO.bind ?_ (fun _ => ?_)
theorem vinculumref46_Check.mono : ∀ a0 a1 a2 a3 a4 k, LeO (vinculumref46_Check.f k a0 a1 a2 a3 a4) (vinculumref46_Check.f (k + 1) a0 a1 a2 a3 a4) := by
  intro a0 a1 a2 a3 a4 k
  obtain ⟨ih0, ih1⟩ := vinculumref46_Check.mono_l k
  unfold vinculumref46_Check.f
  repeat' first
      | (with_reducible exact ih0 _ _ _ _ _ _)
      | (with_reducible exact ih1 _ _ _ _ _ _)
      | (with_reducible exact vinculumref44_Starts.mono _ _ _)
      | (with_reducible exact vinculumref46_Line.mono _ _ _ _ _ _)
      | (with_reducible exact vinculumref46_Sound.mono _ _ _ _ _)
      | (with_reducible exact LeO.refl _)
      | (with_reducible exact LeO.none _)
      | (with_reducible refine LeO.ite ?_ ?_)
      | (with_reducible refine LeO.bind ?_ (fun _ => ?_))
      | exact ih0 _ _ _ _ _ _
      | exact ih1 _ _ _ _ _ _
      | exact vinculumref44_Starts.mono _ _ _
      | exact vinculumref46_Line.mono _ _ _ _ _ _
      | exact vinculumref46_Sound.mono _ _ _ _ _
      | exact LeO.none _
      | refine LeO.ite ?_ ?_
      | refine LeO.bind ?_ (fun _ => ?_)
set_option maxHeartbeats 8000000 in
set_option maxRecDepth 100000 in
theorem vinculumref46_Check.calls (k : Nat) (A0 : Option Addr) (c0 : Nat) (l0 : List (S50)) (a1 : Int) (a2 : Int) (A3 : Option Addr) (c3 : Nat) (l3 : List Int) (A4 : Option Addr) (c4 : Nat) (l4 : List Int) (r : Bool) (w : World) (hr0 : Kd.C k50 w A0 l0.length l0) (hc0 : l0.length ≤ c0) (hr3 : Kd.C (Kd.int .i64) w A3 l3.length l3) (hc3 : l3.length ≤ c3) (hr4 : Kd.C (Kd.int .i64) w A4 l4.length l4) (hc4 : l4.length ≤ c4) (h : vinculumref46_Check.f k l0 a1 a2 l3 l4 = some r) :
    Calls Try.prog 18 #[.slice A0 l0.length c0, .int .i64 a1, .int .i64 a2, .slice A3 l3.length c3, .slice A4 l4.length c4] w fun e w' => e = .returned (.bool r) ∧ Below w.heap.size w w' := by
  have HR0 := Aside0.mk hr0
  have HC0 := Aside0.mk hc0
  clear hr0 hc0
  have HR3 := Aside0.mk hr3
  have HC3 := Aside0.mk hc3
  clear hr3 hc3
  have HR4 := Aside0.mk hr4
  have HC4 := Aside0.mk hc4
  clear hr4 hc4
  have HB := Aside0.mk (Below.refl w.heap.size w)
  have H : ((vinculumref46_Sound.f k l0 a1 a2 l4).bind fun t229 => (if t229 = true then ((vinculumref44_Starts.f k (l0.length : Int) l3).bind fun t230 => (vinculumref46_Check.j0 k l0 a1 a2 l3 l4 (!t230))) else (vinculumref46_Check.j0 k l0 a1 a2 l3 l4 true))) = some r := h
  clear h
  have HC6 := Aside0.mk H
  clear H
  go_enter Try.func18, Try.ntmps18
  go_upto_region 1 with (fail)
  repeat (go_quiet (fail); go_upto_region 1 with (fail))
  go_cut [27] (fun v27 wc => ∃ (kq : Nat) (x27_5 : Bool), v27 = .bool x27_5 ∧ Aside0 (vinculumref46_Check.j0 kq l0 a1 a2 l3 l4 x27_5 = some r) ∧ Aside0 (kq ≤ k) ∧ Aside0 (Below w.heap.size w wc))
  case first =>
    have H := HC6.out
    clear HC6
    replace H := Option.bind_eq_some_iff.mp H
    obtain ⟨t229, A70, H⟩ := H
    replace H : (if t229 = true then ((vinculumref44_Starts.f k (l0.length : Int) l3).bind fun t230 => (vinculumref46_Check.j0 k l0 a1 a2 l3 l4 (!t230))) else (vinculumref46_Check.j0 k l0 a1 a2 l3 l4 true)) = some r := H
    have A7 := Aside0.mk A70
    clear A70
    by_cases c8 : t229 = true
    · subst c8
      have H1 : ((vinculumref44_Starts.f k (l0.length : Int) l3).bind fun t230 => (vinculumref46_Check.j0 k l0 a1 a2 l3 l4 (!t230))) = some r := by rw [if_pos rfl] at H; exact H
      clear H
      have H := H1
      clear H1
      replace H := Option.bind_eq_some_iff.mp H
      obtain ⟨t230, A90, H⟩ := H
      replace H : (vinculumref46_Check.j0 k l0 a1 a2 l3 l4 (!t230)) = some r := H
      have A9 := Aside0.mk A90
      clear A90
      have H' := Aside0.mk H
      clear H
      go_wp2_with (first | (go_at_call 15; (with_reducible refine (vinculumref46_Sound.calls k _ _ l0 a1 a2 _ _ l4 true _ ?side1 ?side2 ?side3 ?side4 A7.out).mono ?_); (case side1 => repeat (first | exact (Kd.C_below HR0.out HB.out) | (with_reducible refine Kd.C_alloc ?_ _) | (with_reducible refine Kd.C_drewN ?_ _) | (with_reducible refine Kd.C_drew ?_))); (case side2 => exact HC0.out); (case side3 => repeat (first | exact (Kd.C_below HR4.out HB.out) | (with_reducible refine Kd.C_alloc ?_ _) | (with_reducible refine Kd.C_drewN ?_ _) | (with_reducible refine Kd.C_drew ?_))); (case side4 => exact HC4.out); rintro e w10 ⟨rfl, hb⟩; have n0_ := Aside0.mk (below_step (by repeat (first | (with_reducible first | exact HB.out | apply below_alloc | apply pw_below_drewN | apply below_drew1) | exact HB.out)) hb); clear HB; have HB := n0_; clear n0_; (try clear hb); (try clear hb2); (try clear hk); (try clear hi)) | (go_at_call 28; (with_reducible refine (vinculumref44_Starts.calls k (l0.length : Int) _ _ l3 t230 _ ?side1 ?side2 A9.out).mono ?_); (case side1 => repeat (first | exact (Kd.C_below HR3.out HB.out) | (with_reducible refine Kd.C_alloc ?_ _) | (with_reducible refine Kd.C_drewN ?_ _) | (with_reducible refine Kd.C_drew ?_))); (case side2 => exact HC3.out); rintro e w' ⟨rfl, ⟨nd, rfl⟩⟩; (try first | exact ⟨rfl, _, World.drewN_drewN _ _ _⟩ | exact ⟨rfl, _, Eq.trans (World.drewN_drewN _ _ _) (congrArg (World.drewN _) (Nat.add_assoc _ _ _))⟩)))
      repeat (go_quiet (first | (go_at_call 15; (with_reducible refine (vinculumref46_Sound.calls k _ _ l0 a1 a2 _ _ l4 true _ ?side1 ?side2 ?side3 ?side4 A7.out).mono ?_); (case side1 => repeat (first | exact (Kd.C_below HR0.out HB.out) | (with_reducible refine Kd.C_alloc ?_ _) | (with_reducible refine Kd.C_drewN ?_ _) | (with_reducible refine Kd.C_drew ?_))); (case side2 => exact HC0.out); (case side3 => repeat (first | exact (Kd.C_below HR4.out HB.out) | (with_reducible refine Kd.C_alloc ?_ _) | (with_reducible refine Kd.C_drewN ?_ _) | (with_reducible refine Kd.C_drew ?_))); (case side4 => exact HC4.out); rintro e w10 ⟨rfl, hb⟩; have n0_ := Aside0.mk (below_step (by repeat (first | (with_reducible first | exact HB.out | apply below_alloc | apply pw_below_drewN | apply below_drew1) | exact HB.out)) hb); clear HB; have HB := n0_; clear n0_; (try clear hb); (try clear hb2); (try clear hk); (try clear hi)) | (go_at_call 28; (with_reducible refine (vinculumref44_Starts.calls k (l0.length : Int) _ _ l3 t230 _ ?side1 ?side2 A9.out).mono ?_); (case side1 => repeat (first | exact (Kd.C_below HR3.out HB.out) | (with_reducible refine Kd.C_alloc ?_ _) | (with_reducible refine Kd.C_drewN ?_ _) | (with_reducible refine Kd.C_drew ?_))); (case side2 => exact HC3.out); rintro e w' ⟨rfl, ⟨nd, rfl⟩⟩; (try first | exact ⟨rfl, _, World.drewN_drewN _ _ _⟩ | exact ⟨rfl, _, Eq.trans (World.drewN_drewN _ _ _) (congrArg (World.drewN _) (Nat.add_assoc _ _ _))⟩))); try go_wp2_with (first | (go_at_call 15; (with_reducible refine (vinculumref46_Sound.calls k _ _ l0 a1 a2 _ _ l4 true _ ?side1 ?side2 ?side3 ?side4 A7.out).mono ?_); (case side1 => repeat (first | exact (Kd.C_below HR0.out HB.out) | (with_reducible refine Kd.C_alloc ?_ _) | (with_reducible refine Kd.C_drewN ?_ _) | (with_reducible refine Kd.C_drew ?_))); (case side2 => exact HC0.out); (case side3 => repeat (first | exact (Kd.C_below HR4.out HB.out) | (with_reducible refine Kd.C_alloc ?_ _) | (with_reducible refine Kd.C_drewN ?_ _) | (with_reducible refine Kd.C_drew ?_))); (case side4 => exact HC4.out); rintro e w10 ⟨rfl, hb⟩; have n0_ := Aside0.mk (below_step (by repeat (first | (with_reducible first | exact HB.out | apply below_alloc | apply pw_below_drewN | apply below_drew1) | exact HB.out)) hb); clear HB; have HB := n0_; clear n0_; (try clear hb); (try clear hb2); (try clear hk); (try clear hi)) | (go_at_call 28; (with_reducible refine (vinculumref44_Starts.calls k (l0.length : Int) _ _ l3 t230 _ ?side1 ?side2 A9.out).mono ?_); (case side1 => repeat (first | exact (Kd.C_below HR3.out HB.out) | (with_reducible refine Kd.C_alloc ?_ _) | (with_reducible refine Kd.C_drewN ?_ _) | (with_reducible refine Kd.C_drew ?_))); (case side2 => exact HC3.out); rintro e w' ⟨rfl, ⟨nd, rfl⟩⟩; (try first | exact ⟨rfl, _, World.drewN_drewN _ _ _⟩ | exact ⟨rfl, _, Eq.trans (World.drewN_drewN _ _ _) (congrArg (World.drewN _) (Nat.add_assoc _ _ _))⟩))))
      go_meet
      case rel => exact ⟨_, (!t230), (by first | rfl | (simp; done) | (simp [*]; done) | (simp [ne_nil_bool]; done)), H', ⟨by first | omega | exact Nat.le_refl _⟩, ⟨by repeat (first | (with_reducible first | exact HB.out | apply below_alloc | apply pw_below_drewN | apply below_drew1) | exact HB.out)⟩⟩
    · replace c8 := Bool.eq_false_iff.mpr c8
      subst c8
      have H1 : (vinculumref46_Check.j0 k l0 a1 a2 l3 l4 true) = some r := by rw [if_neg (show ¬ (false = true) by decide)] at H; exact H
      clear H
      have H := H1
      clear H1
      have H' := Aside0.mk H
      clear H
      go_wp2_with (first | (go_at_call 15; (with_reducible refine (vinculumref46_Sound.calls k _ _ l0 a1 a2 _ _ l4 false _ ?side1 ?side2 ?side3 ?side4 A7.out).mono ?_); (case side1 => repeat (first | exact (Kd.C_below HR0.out HB.out) | (with_reducible refine Kd.C_alloc ?_ _) | (with_reducible refine Kd.C_drewN ?_ _) | (with_reducible refine Kd.C_drew ?_))); (case side2 => exact HC0.out); (case side3 => repeat (first | exact (Kd.C_below HR4.out HB.out) | (with_reducible refine Kd.C_alloc ?_ _) | (with_reducible refine Kd.C_drewN ?_ _) | (with_reducible refine Kd.C_drew ?_))); (case side4 => exact HC4.out); rintro e w11 ⟨rfl, hb⟩; have n0_ := Aside0.mk (below_step (by repeat (first | (with_reducible first | exact HB.out | apply below_alloc | apply pw_below_drewN | apply below_drew1) | exact HB.out)) hb); clear HB; have HB := n0_; clear n0_; (try clear hb); (try clear hb2); (try clear hk); (try clear hi)))
      repeat (go_quiet (first | (go_at_call 15; (with_reducible refine (vinculumref46_Sound.calls k _ _ l0 a1 a2 _ _ l4 false _ ?side1 ?side2 ?side3 ?side4 A7.out).mono ?_); (case side1 => repeat (first | exact (Kd.C_below HR0.out HB.out) | (with_reducible refine Kd.C_alloc ?_ _) | (with_reducible refine Kd.C_drewN ?_ _) | (with_reducible refine Kd.C_drew ?_))); (case side2 => exact HC0.out); (case side3 => repeat (first | exact (Kd.C_below HR4.out HB.out) | (with_reducible refine Kd.C_alloc ?_ _) | (with_reducible refine Kd.C_drewN ?_ _) | (with_reducible refine Kd.C_drew ?_))); (case side4 => exact HC4.out); rintro e w11 ⟨rfl, hb⟩; have n0_ := Aside0.mk (below_step (by repeat (first | (with_reducible first | exact HB.out | apply below_alloc | apply pw_below_drewN | apply below_drew1) | exact HB.out)) hb); clear HB; have HB := n0_; clear n0_; (try clear hb); (try clear hb2); (try clear hk); (try clear hi))); try go_wp2_with (first | (go_at_call 15; (with_reducible refine (vinculumref46_Sound.calls k _ _ l0 a1 a2 _ _ l4 false _ ?side1 ?side2 ?side3 ?side4 A7.out).mono ?_); (case side1 => repeat (first | exact (Kd.C_below HR0.out HB.out) | (with_reducible refine Kd.C_alloc ?_ _) | (with_reducible refine Kd.C_drewN ?_ _) | (with_reducible refine Kd.C_drew ?_))); (case side2 => exact HC0.out); (case side3 => repeat (first | exact (Kd.C_below HR4.out HB.out) | (with_reducible refine Kd.C_alloc ?_ _) | (with_reducible refine Kd.C_drewN ?_ _) | (with_reducible refine Kd.C_drew ?_))); (case side4 => exact HC4.out); rintro e w11 ⟨rfl, hb⟩; have n0_ := Aside0.mk (below_step (by repeat (first | (with_reducible first | exact HB.out | apply below_alloc | apply pw_below_drewN | apply below_drew1) | exact HB.out)) hb); clear HB; have HB := n0_; clear n0_; (try clear hb); (try clear hb2); (try clear hk); (try clear hi))))
      go_meet
      case rel => exact ⟨_, (true), (by first | rfl | (simp; done) | (simp [*]; done) | (simp [ne_nil_bool]; done)), H', ⟨by first | omega | exact Nat.le_refl _⟩, ⟨by repeat (first | (with_reducible first | exact HB.out | apply below_alloc | apply pw_below_drewN | apply below_drew1) | exact HB.out)⟩⟩
  case rest =>
    clear HC6
    try clear c1
    try clear p2
    try clear c3
    try clear c4
    try clear c8
    obtain ⟨kq, x27_5, rfl, HA, HJ5, HB⟩ := hcut
    cases kq with
    | zero => exact absurd HA.out (by simp [vinculumref46_Check.j0])
    | succ kj5 =>
      have H := HA.out
      clear HA
      simp only [vinculumref46_Check.j0] at H
      by_cases c12 : x27_5 = true
      · subst c12
        have H1 : (some false) = some r := by rw [if_pos rfl] at H; exact H
        clear H
        have H := H1
        clear H1
        obtain rfl := Option.some.inj H
        go_wp2
        repeat (go_quiet (fail); try go_wp2)
        go_ret
        exact ⟨by first | rfl | (simp [errW_none, errW_some] <;> rfl) | (simp [*, errW_none, errW_some] <;> rfl), by repeat (first | (with_reducible first | exact HB.out | apply below_alloc | apply pw_below_drewN | apply below_drew1) | exact HB.out)⟩
      · replace c12 := Bool.eq_false_iff.mpr c12
        subst c12
        have H1 : (vinculumref46_Check.l0 kj5 l0 a1 a2 l3 l4 0) = some r := by rw [if_neg (show ¬ (false = true) by decide)] at H; exact H
        clear H
        have H := H1
        clear H1
        have H' := Aside0.mk H
        clear H
        go_wp2
        repeat (go_quiet (fail); try go_wp2)
        go_loopg [11] kj5 (fun kq v11 w' => ∃ (x11_2 : Int), v11 = .int .i64 x11_2 ∧ Aside0 (vinculumref46_Check.l0 kq l0 a1 a2 l3 l4 x11_2 = some r) ∧ Aside0 (kq ≤ kj5) ∧ Aside0 (Below w.heap.size w w'))
        case atStart => exact ⟨(0), (by first | rfl | (simp; done) | (simp [*]; done) | (simp [ne_nil_bool]; done)), H', ⟨Nat.le_refl _⟩, ⟨by repeat (first | (with_reducible first | exact HB.out | apply below_alloc | apply pw_below_drewN | apply below_drew1) | exact HB.out)⟩⟩
        case round =>
          clear H'
          try clear c1
          try clear p2
          try clear c3
          try clear c4
          try clear c8
          try clear c12
          try clear p2
          obtain ⟨x11_2, rfl, HA, HK2, HB⟩ := hrel
          cases gk with
          | zero => exact absurd HA.out (by simp [vinculumref46_Check.l0])
          | succ k2 =>
            have H := HA.out
            clear HA
            simp only [vinculumref46_Check.l0] at H
            by_cases c13 : x11_2 < (l3.length : Int)
            · rw [if_pos c13] at H
              have c13b0 : decide (x11_2 < (l3.length : Int)) = true := decide_eq_true c13
              clear c13
              by_cases c14 : (wrap64 (x11_2 + 1)) < (l3.length : Int)
              · rw [if_pos c14] at H
                have c14b0 : decide ((wrap64 (x11_2 + 1)) < (l3.length : Int)) = true := decide_eq_true c14
                clear c14
                obtain ⟨ji15, hji15⟩ : ∃ j_ : Int, (wrap64 (x11_2 + 1)) = j_ := ⟨_, rfl⟩
                replace H : (if 0 ≤ (ji15) then (if 0 ≤ x11_2 then ((vinculumref46_Line.f k2 l0 a1 a2 (rd l3 x11_2) (rd l3 (ji15))).bind fun bt233 => (if bt233.2 = true then (if 0 ≤ (rd l3 x11_2) then (if (rd l3 x11_2) < (l4.length : Int) then (if 0 ≤ (rd l3 (ji15)) then (if (rd l3 (ji15)) < (l4.length : Int) then (if (rd l4 (rd l3 x11_2)) = (wrap64 (bt233.1 + (rd l4 (rd l3 (ji15))))) then (vinculumref46_Check.l0 k2 l0 a1 a2 l3 l4 ji15) else (some false)) else (none)) else (none)) else (none)) else (none)) else (some false))) else (none)) else (none)) = some r := by first | (rw [hji15] at H; exact H) | (simp only [hji15] at H ⊢; exact H)
                (try rw [hji15] at c14b0)
                have hji15w : (IntKind.i64.wrap (x11_2 + 1)) = ji15 := (i64_w _).trans hji15
                by_cases c16 : 0 ≤ (ji15)
                · rw [if_pos c16] at H
                  have c16b0 : decide (0 ≤ (ji15)) = true := decide_eq_true c16
                  clear c16
                  by_cases c17 : 0 ≤ x11_2
                  · rw [if_pos c17] at H
                    have c17b0 : decide (0 ≤ x11_2) = true := decide_eq_true c17
                    clear c17
                    replace H := Option.bind_eq_some_iff.mp H
                    obtain ⟨⟨t233, t234⟩, A180, H⟩ := H
                    replace H : (if t234 = true then (if 0 ≤ (rd l3 x11_2) then (if (rd l3 x11_2) < (l4.length : Int) then (if 0 ≤ (rd l3 (ji15)) then (if (rd l3 (ji15)) < (l4.length : Int) then (if (rd l4 (rd l3 x11_2)) = (wrap64 (t233 + (rd l4 (rd l3 (ji15))))) then (vinculumref46_Check.l0 k2 l0 a1 a2 l3 l4 ji15) else (some false)) else (none)) else (none)) else (none)) else (none)) else (some false)) = some r := H
                    have A18 := Aside0.mk A180
                    clear A180
                    by_cases c19 : t234 = true
                    · subst c19
                      have H1 : (if 0 ≤ (rd l3 x11_2) then (if (rd l3 x11_2) < (l4.length : Int) then (if 0 ≤ (rd l3 (ji15)) then (if (rd l3 (ji15)) < (l4.length : Int) then (if (rd l4 (rd l3 x11_2)) = (wrap64 (t233 + (rd l4 (rd l3 (ji15))))) then (vinculumref46_Check.l0 k2 l0 a1 a2 l3 l4 ji15) else (some false)) else (none)) else (none)) else (none)) else (none)) = some r := by rw [if_pos rfl] at H; exact H
                      clear H
                      have H := H1
                      clear H1
                      by_cases c20 : 0 ≤ (rd l3 x11_2)
                      · rw [if_pos c20] at H
                        have c20b0 : decide (0 ≤ (rd l3 x11_2)) = true := decide_eq_true c20
                        clear c20
                        by_cases c21 : (rd l3 x11_2) < (l4.length : Int)
                        · rw [if_pos c21] at H
                          have c21b0 : decide ((rd l3 x11_2) < (l4.length : Int)) = true := decide_eq_true c21
                          clear c21
                          by_cases c22 : 0 ≤ (rd l3 (ji15))
                          · rw [if_pos c22] at H
                            have c22b0 : decide (0 ≤ (rd l3 (ji15))) = true := decide_eq_true c22
                            clear c22
                            by_cases c23 : (rd l3 (ji15)) < (l4.length : Int)
                            · rw [if_pos c23] at H
                              have c23b0 : decide ((rd l3 (ji15)) < (l4.length : Int)) = true := decide_eq_true c23
                              clear c23
                              by_cases c24 : (rd l4 (rd l3 x11_2)) = (wrap64 (t233 + (rd l4 (rd l3 (ji15)))))
                              · rw [if_pos c24] at H
                                have c24b0 : ((rd l4 (rd l3 x11_2)) == (wrap64 (t233 + (rd l4 (rd l3 (ji15)))))) = true := beq_iff_eq.mpr c24
                                have c24b1 : ((rd l4 (rd l3 x11_2)) != (wrap64 (t233 + (rd l4 (rd l3 (ji15)))))) = false := bne_eq_false_iff_eq.mpr c24
                                clear c24
                                have H' := Aside0.mk H
                                clear H
                                have p231 : 0 ≤ ((ji15) : Int) := of_decide_eq_true (by first | (with_reducible assumption) | assumption)
                                have q231 : (ji15) < (l3.length : Int) := of_decide_eq_true (by first | (with_reducible assumption) | assumption)
                                obtain ⟨ad231, e231, hx231_0⟩ := Kd.at_int HR3.out (ji15) p231 q231
                                cases e231
                                replace hx231_0 := (HB.out.cell (World.block_lt_of_cell? w _ hx231_0)).trans hx231_0
                                replace p231 := eq_true p231
                                replace q231 := eq_true q231
                                have p232 : 0 ≤ (x11_2 : Int) := of_decide_eq_true (by first | (with_reducible assumption) | assumption)
                                have q232 : x11_2 < (l3.length : Int) := of_decide_eq_true (by first | (with_reducible assumption) | assumption)
                                obtain ⟨ad232, e232, hx232_0⟩ := Kd.at_int HR3.out x11_2 p232 q232
                                obtain rfl : ad231 = ad232 := (by injection e232)
                                replace hx232_0 := (HB.out.cell (World.block_lt_of_cell? w _ hx232_0)).trans hx232_0
                                replace p232 := eq_true p232
                                replace q232 := eq_true q232
                                go_wp2_with (first | (go_at_call 26; (with_reducible refine (vinculumref46_Line.calls k2 _ _ l0 a1 a2 (rd l3 x11_2) (rd l3 (ji15)) t233 true _ ?side1 ?side2 A18.out).mono ?_); (case side1 => repeat (first | exact (Kd.C_below HR0.out HB.out) | (with_reducible refine Kd.C_alloc ?_ _) | (with_reducible refine Kd.C_drewN ?_ _) | (with_reducible refine Kd.C_drew ?_))); (case side2 => exact HC0.out); rintro e w25 ⟨rfl, hb⟩; have n0_ := Aside0.mk (below_step (by repeat (first | (with_reducible first | exact HB.out | apply below_alloc | apply pw_below_drewN | apply below_drew1) | exact HB.out)) hb); clear HB; have HB := n0_; clear n0_; (try clear hb); (try clear hb2); (try clear hk); (try clear hi); have p235 : 0 ≤ (x11_2 : Int) := of_decide_eq_true (by first | (with_reducible assumption) | assumption); have q235 : x11_2 < (l3.length : Int) := of_decide_eq_true (by first | (with_reducible assumption) | assumption); obtain ⟨ad235, e235, hx235_0⟩ := Kd.at_int HR3.out x11_2 p235 q235; obtain rfl : ad231 = ad235 := (by injection e235); replace hx235_0 := (HB.out.cell (World.block_lt_of_cell? w _ hx235_0)).trans hx235_0; replace p235 := eq_true p235; replace q235 := eq_true q235; have p236 : 0 ≤ ((rd l3 x11_2) : Int) := of_decide_eq_true (by first | (with_reducible assumption) | assumption); have q236 : (rd l3 x11_2) < (l4.length : Int) := of_decide_eq_true (by first | (with_reducible assumption) | assumption); obtain ⟨ad236, e236, hx236_0⟩ := Kd.at_int HR4.out (rd l3 x11_2) p236 q236; cases e236; replace hx236_0 := (HB.out.cell (World.block_lt_of_cell? w _ hx236_0)).trans hx236_0; replace p236 := eq_true p236; replace q236 := eq_true q236; have p237 : 0 ≤ ((rd l3 (ji15)) : Int) := of_decide_eq_true (by first | (with_reducible assumption) | assumption); have q237 : (rd l3 (ji15)) < (l4.length : Int) := of_decide_eq_true (by first | (with_reducible assumption) | assumption); obtain ⟨ad237, e237, hx237_0⟩ := Kd.at_int HR4.out (rd l3 (ji15)) p237 q237; obtain rfl : ad236 = ad237 := (by injection e237); replace hx237_0 := (HB.out.cell (World.block_lt_of_cell? w _ hx237_0)).trans hx237_0; replace p237 := eq_true p237; replace q237 := eq_true q237))
                                repeat (go_quiet (first | (go_at_call 26; (with_reducible refine (vinculumref46_Line.calls k2 _ _ l0 a1 a2 (rd l3 x11_2) (rd l3 (ji15)) t233 true _ ?side1 ?side2 A18.out).mono ?_); (case side1 => repeat (first | exact (Kd.C_below HR0.out HB.out) | (with_reducible refine Kd.C_alloc ?_ _) | (with_reducible refine Kd.C_drewN ?_ _) | (with_reducible refine Kd.C_drew ?_))); (case side2 => exact HC0.out); rintro e w25 ⟨rfl, hb⟩; have n0_ := Aside0.mk (below_step (by repeat (first | (with_reducible first | exact HB.out | apply below_alloc | apply pw_below_drewN | apply below_drew1) | exact HB.out)) hb); clear HB; have HB := n0_; clear n0_; (try clear hb); (try clear hb2); (try clear hk); (try clear hi); have p235 : 0 ≤ (x11_2 : Int) := of_decide_eq_true (by first | (with_reducible assumption) | assumption); have q235 : x11_2 < (l3.length : Int) := of_decide_eq_true (by first | (with_reducible assumption) | assumption); obtain ⟨ad235, e235, hx235_0⟩ := Kd.at_int HR3.out x11_2 p235 q235; obtain rfl : ad231 = ad235 := (by injection e235); replace hx235_0 := (HB.out.cell (World.block_lt_of_cell? w _ hx235_0)).trans hx235_0; replace p235 := eq_true p235; replace q235 := eq_true q235; have p236 : 0 ≤ ((rd l3 x11_2) : Int) := of_decide_eq_true (by first | (with_reducible assumption) | assumption); have q236 : (rd l3 x11_2) < (l4.length : Int) := of_decide_eq_true (by first | (with_reducible assumption) | assumption); obtain ⟨ad236, e236, hx236_0⟩ := Kd.at_int HR4.out (rd l3 x11_2) p236 q236; cases e236; replace hx236_0 := (HB.out.cell (World.block_lt_of_cell? w _ hx236_0)).trans hx236_0; replace p236 := eq_true p236; replace q236 := eq_true q236; have p237 : 0 ≤ ((rd l3 (ji15)) : Int) := of_decide_eq_true (by first | (with_reducible assumption) | assumption); have q237 : (rd l3 (ji15)) < (l4.length : Int) := of_decide_eq_true (by first | (with_reducible assumption) | assumption); obtain ⟨ad237, e237, hx237_0⟩ := Kd.at_int HR4.out (rd l3 (ji15)) p237 q237; obtain rfl : ad236 = ad237 := (by injection e237); replace hx237_0 := (HB.out.cell (World.block_lt_of_cell? w _ hx237_0)).trans hx237_0; replace p237 := eq_true p237; replace q237 := eq_true q237)); try go_wp2_with (first | (go_at_call 26; (with_reducible refine (vinculumref46_Line.calls k2 _ _ l0 a1 a2 (rd l3 x11_2) (rd l3 (ji15)) t233 true _ ?side1 ?side2 A18.out).mono ?_); (case side1 => repeat (first | exact (Kd.C_below HR0.out HB.out) | (with_reducible refine Kd.C_alloc ?_ _) | (with_reducible refine Kd.C_drewN ?_ _) | (with_reducible refine Kd.C_drew ?_))); (case side2 => exact HC0.out); rintro e w25 ⟨rfl, hb⟩; have n0_ := Aside0.mk (below_step (by repeat (first | (with_reducible first | exact HB.out | apply below_alloc | apply pw_below_drewN | apply below_drew1) | exact HB.out)) hb); clear HB; have HB := n0_; clear n0_; (try clear hb); (try clear hb2); (try clear hk); (try clear hi); have p235 : 0 ≤ (x11_2 : Int) := of_decide_eq_true (by first | (with_reducible assumption) | assumption); have q235 : x11_2 < (l3.length : Int) := of_decide_eq_true (by first | (with_reducible assumption) | assumption); obtain ⟨ad235, e235, hx235_0⟩ := Kd.at_int HR3.out x11_2 p235 q235; obtain rfl : ad231 = ad235 := (by injection e235); replace hx235_0 := (HB.out.cell (World.block_lt_of_cell? w _ hx235_0)).trans hx235_0; replace p235 := eq_true p235; replace q235 := eq_true q235; have p236 : 0 ≤ ((rd l3 x11_2) : Int) := of_decide_eq_true (by first | (with_reducible assumption) | assumption); have q236 : (rd l3 x11_2) < (l4.length : Int) := of_decide_eq_true (by first | (with_reducible assumption) | assumption); obtain ⟨ad236, e236, hx236_0⟩ := Kd.at_int HR4.out (rd l3 x11_2) p236 q236; cases e236; replace hx236_0 := (HB.out.cell (World.block_lt_of_cell? w _ hx236_0)).trans hx236_0; replace p236 := eq_true p236; replace q236 := eq_true q236; have p237 : 0 ≤ ((rd l3 (ji15)) : Int) := of_decide_eq_true (by first | (with_reducible assumption) | assumption); have q237 : (rd l3 (ji15)) < (l4.length : Int) := of_decide_eq_true (by first | (with_reducible assumption) | assumption); obtain ⟨ad237, e237, hx237_0⟩ := Kd.at_int HR4.out (rd l3 (ji15)) p237 q237; obtain rfl : ad236 = ad237 := (by injection e237); replace hx237_0 := (HB.out.cell (World.block_lt_of_cell? w _ hx237_0)).trans hx237_0; replace p237 := eq_true p237; replace q237 := eq_true q237)))
                                go_roundg k2
                                case measure => have := HJ5.out; have := HK2.out; omega
                                case rel => exact ⟨(ji15), (by first | rfl | (simp; done) | (simp only [← hji15] <;> (first | rfl | simp)) | (simp [*]; done)), H', ⟨by have := HJ5.out; have := HK2.out; omega⟩, ⟨by repeat (first | (with_reducible first | exact HB.out | apply below_alloc | apply pw_below_drewN | apply below_drew1) | exact HB.out)⟩⟩
                              · rw [if_neg c24] at H
                                have c24b0 : ((rd l4 (rd l3 x11_2)) == (wrap64 (t233 + (rd l4 (rd l3 (ji15)))))) = false := beq_eq_false_iff_ne.mpr c24
                                have c24b1 : ((rd l4 (rd l3 x11_2)) != (wrap64 (t233 + (rd l4 (rd l3 (ji15)))))) = true := bne_iff_ne.mpr c24
                                obtain rfl := Option.some.inj H
                                have p231 : 0 ≤ ((ji15) : Int) := of_decide_eq_true (by first | (with_reducible assumption) | assumption)
                                have q231 : (ji15) < (l3.length : Int) := of_decide_eq_true (by first | (with_reducible assumption) | assumption)
                                obtain ⟨ad231, e231, hx231_0⟩ := Kd.at_int HR3.out (ji15) p231 q231
                                cases e231
                                replace hx231_0 := (HB.out.cell (World.block_lt_of_cell? w _ hx231_0)).trans hx231_0
                                replace p231 := eq_true p231
                                replace q231 := eq_true q231
                                have p232 : 0 ≤ (x11_2 : Int) := of_decide_eq_true (by first | (with_reducible assumption) | assumption)
                                have q232 : x11_2 < (l3.length : Int) := of_decide_eq_true (by first | (with_reducible assumption) | assumption)
                                obtain ⟨ad232, e232, hx232_0⟩ := Kd.at_int HR3.out x11_2 p232 q232
                                obtain rfl : ad231 = ad232 := (by injection e232)
                                replace hx232_0 := (HB.out.cell (World.block_lt_of_cell? w _ hx232_0)).trans hx232_0
                                replace p232 := eq_true p232
                                replace q232 := eq_true q232
                                go_wp2_with (first | (go_at_call 26; (with_reducible refine (vinculumref46_Line.calls k2 _ _ l0 a1 a2 (rd l3 x11_2) (rd l3 (ji15)) t233 true _ ?side1 ?side2 A18.out).mono ?_); (case side1 => repeat (first | exact (Kd.C_below HR0.out HB.out) | (with_reducible refine Kd.C_alloc ?_ _) | (with_reducible refine Kd.C_drewN ?_ _) | (with_reducible refine Kd.C_drew ?_))); (case side2 => exact HC0.out); rintro e w26 ⟨rfl, hb⟩; have n0_ := Aside0.mk (below_step (by repeat (first | (with_reducible first | exact HB.out | apply below_alloc | apply pw_below_drewN | apply below_drew1) | exact HB.out)) hb); clear HB; have HB := n0_; clear n0_; (try clear hb); (try clear hb2); (try clear hk); (try clear hi); have p235 : 0 ≤ (x11_2 : Int) := of_decide_eq_true (by first | (with_reducible assumption) | assumption); have q235 : x11_2 < (l3.length : Int) := of_decide_eq_true (by first | (with_reducible assumption) | assumption); obtain ⟨ad235, e235, hx235_0⟩ := Kd.at_int HR3.out x11_2 p235 q235; obtain rfl : ad231 = ad235 := (by injection e235); replace hx235_0 := (HB.out.cell (World.block_lt_of_cell? w _ hx235_0)).trans hx235_0; replace p235 := eq_true p235; replace q235 := eq_true q235; have p236 : 0 ≤ ((rd l3 x11_2) : Int) := of_decide_eq_true (by first | (with_reducible assumption) | assumption); have q236 : (rd l3 x11_2) < (l4.length : Int) := of_decide_eq_true (by first | (with_reducible assumption) | assumption); obtain ⟨ad236, e236, hx236_0⟩ := Kd.at_int HR4.out (rd l3 x11_2) p236 q236; cases e236; replace hx236_0 := (HB.out.cell (World.block_lt_of_cell? w _ hx236_0)).trans hx236_0; replace p236 := eq_true p236; replace q236 := eq_true q236; have p237 : 0 ≤ ((rd l3 (ji15)) : Int) := of_decide_eq_true (by first | (with_reducible assumption) | assumption); have q237 : (rd l3 (ji15)) < (l4.length : Int) := of_decide_eq_true (by first | (with_reducible assumption) | assumption); obtain ⟨ad237, e237, hx237_0⟩ := Kd.at_int HR4.out (rd l3 (ji15)) p237 q237; obtain rfl : ad236 = ad237 := (by injection e237); replace hx237_0 := (HB.out.cell (World.block_lt_of_cell? w _ hx237_0)).trans hx237_0; replace p237 := eq_true p237; replace q237 := eq_true q237))
                                repeat (go_quiet (first | (go_at_call 26; (with_reducible refine (vinculumref46_Line.calls k2 _ _ l0 a1 a2 (rd l3 x11_2) (rd l3 (ji15)) t233 true _ ?side1 ?side2 A18.out).mono ?_); (case side1 => repeat (first | exact (Kd.C_below HR0.out HB.out) | (with_reducible refine Kd.C_alloc ?_ _) | (with_reducible refine Kd.C_drewN ?_ _) | (with_reducible refine Kd.C_drew ?_))); (case side2 => exact HC0.out); rintro e w26 ⟨rfl, hb⟩; have n0_ := Aside0.mk (below_step (by repeat (first | (with_reducible first | exact HB.out | apply below_alloc | apply pw_below_drewN | apply below_drew1) | exact HB.out)) hb); clear HB; have HB := n0_; clear n0_; (try clear hb); (try clear hb2); (try clear hk); (try clear hi); have p235 : 0 ≤ (x11_2 : Int) := of_decide_eq_true (by first | (with_reducible assumption) | assumption); have q235 : x11_2 < (l3.length : Int) := of_decide_eq_true (by first | (with_reducible assumption) | assumption); obtain ⟨ad235, e235, hx235_0⟩ := Kd.at_int HR3.out x11_2 p235 q235; obtain rfl : ad231 = ad235 := (by injection e235); replace hx235_0 := (HB.out.cell (World.block_lt_of_cell? w _ hx235_0)).trans hx235_0; replace p235 := eq_true p235; replace q235 := eq_true q235; have p236 : 0 ≤ ((rd l3 x11_2) : Int) := of_decide_eq_true (by first | (with_reducible assumption) | assumption); have q236 : (rd l3 x11_2) < (l4.length : Int) := of_decide_eq_true (by first | (with_reducible assumption) | assumption); obtain ⟨ad236, e236, hx236_0⟩ := Kd.at_int HR4.out (rd l3 x11_2) p236 q236; cases e236; replace hx236_0 := (HB.out.cell (World.block_lt_of_cell? w _ hx236_0)).trans hx236_0; replace p236 := eq_true p236; replace q236 := eq_true q236; have p237 : 0 ≤ ((rd l3 (ji15)) : Int) := of_decide_eq_true (by first | (with_reducible assumption) | assumption); have q237 : (rd l3 (ji15)) < (l4.length : Int) := of_decide_eq_true (by first | (with_reducible assumption) | assumption); obtain ⟨ad237, e237, hx237_0⟩ := Kd.at_int HR4.out (rd l3 (ji15)) p237 q237; obtain rfl : ad236 = ad237 := (by injection e237); replace hx237_0 := (HB.out.cell (World.block_lt_of_cell? w _ hx237_0)).trans hx237_0; replace p237 := eq_true p237; replace q237 := eq_true q237)); try go_wp2_with (first | (go_at_call 26; (with_reducible refine (vinculumref46_Line.calls k2 _ _ l0 a1 a2 (rd l3 x11_2) (rd l3 (ji15)) t233 true _ ?side1 ?side2 A18.out).mono ?_); (case side1 => repeat (first | exact (Kd.C_below HR0.out HB.out) | (with_reducible refine Kd.C_alloc ?_ _) | (with_reducible refine Kd.C_drewN ?_ _) | (with_reducible refine Kd.C_drew ?_))); (case side2 => exact HC0.out); rintro e w26 ⟨rfl, hb⟩; have n0_ := Aside0.mk (below_step (by repeat (first | (with_reducible first | exact HB.out | apply below_alloc | apply pw_below_drewN | apply below_drew1) | exact HB.out)) hb); clear HB; have HB := n0_; clear n0_; (try clear hb); (try clear hb2); (try clear hk); (try clear hi); have p235 : 0 ≤ (x11_2 : Int) := of_decide_eq_true (by first | (with_reducible assumption) | assumption); have q235 : x11_2 < (l3.length : Int) := of_decide_eq_true (by first | (with_reducible assumption) | assumption); obtain ⟨ad235, e235, hx235_0⟩ := Kd.at_int HR3.out x11_2 p235 q235; obtain rfl : ad231 = ad235 := (by injection e235); replace hx235_0 := (HB.out.cell (World.block_lt_of_cell? w _ hx235_0)).trans hx235_0; replace p235 := eq_true p235; replace q235 := eq_true q235; have p236 : 0 ≤ ((rd l3 x11_2) : Int) := of_decide_eq_true (by first | (with_reducible assumption) | assumption); have q236 : (rd l3 x11_2) < (l4.length : Int) := of_decide_eq_true (by first | (with_reducible assumption) | assumption); obtain ⟨ad236, e236, hx236_0⟩ := Kd.at_int HR4.out (rd l3 x11_2) p236 q236; cases e236; replace hx236_0 := (HB.out.cell (World.block_lt_of_cell? w _ hx236_0)).trans hx236_0; replace p236 := eq_true p236; replace q236 := eq_true q236; have p237 : 0 ≤ ((rd l3 (ji15)) : Int) := of_decide_eq_true (by first | (with_reducible assumption) | assumption); have q237 : (rd l3 (ji15)) < (l4.length : Int) := of_decide_eq_true (by first | (with_reducible assumption) | assumption); obtain ⟨ad237, e237, hx237_0⟩ := Kd.at_int HR4.out (rd l3 (ji15)) p237 q237; obtain rfl : ad236 = ad237 := (by injection e237); replace hx237_0 := (HB.out.cell (World.block_lt_of_cell? w _ hx237_0)).trans hx237_0; replace p237 := eq_true p237; replace q237 := eq_true q237)))
                                go_ret
                                exact ⟨by first | rfl | (simp [errW_none, errW_some] <;> rfl) | (simp only [← hji15]; first | rfl | (simp [errW_none, errW_some] <;> rfl)) | (simp [*, errW_none, errW_some] <;> rfl), by repeat (first | (with_reducible first | exact HB.out | apply below_alloc | apply pw_below_drewN | apply below_drew1) | exact HB.out)⟩
                            · rw [if_neg c23] at H
                              exact absurd H (by simp)
                          · rw [if_neg c22] at H
                            exact absurd H (by simp)
                        · rw [if_neg c21] at H
                          exact absurd H (by simp)
                      · rw [if_neg c20] at H
                        exact absurd H (by simp)
                    · replace c19 := Bool.eq_false_iff.mpr c19
                      subst c19
                      have H1 : (some false) = some r := by rw [if_neg (show ¬ (false = true) by decide)] at H; exact H
                      clear H
                      have H := H1
                      clear H1
                      obtain rfl := Option.some.inj H
                      have p231 : 0 ≤ ((ji15) : Int) := of_decide_eq_true (by first | (with_reducible assumption) | assumption)
                      have q231 : (ji15) < (l3.length : Int) := of_decide_eq_true (by first | (with_reducible assumption) | assumption)
                      obtain ⟨ad231, e231, hx231_0⟩ := Kd.at_int HR3.out (ji15) p231 q231
                      cases e231
                      replace hx231_0 := (HB.out.cell (World.block_lt_of_cell? w _ hx231_0)).trans hx231_0
                      replace p231 := eq_true p231
                      replace q231 := eq_true q231
                      have p232 : 0 ≤ (x11_2 : Int) := of_decide_eq_true (by first | (with_reducible assumption) | assumption)
                      have q232 : x11_2 < (l3.length : Int) := of_decide_eq_true (by first | (with_reducible assumption) | assumption)
                      obtain ⟨ad232, e232, hx232_0⟩ := Kd.at_int HR3.out x11_2 p232 q232
                      obtain rfl : ad231 = ad232 := (by injection e232)
                      replace hx232_0 := (HB.out.cell (World.block_lt_of_cell? w _ hx232_0)).trans hx232_0
                      replace p232 := eq_true p232
                      replace q232 := eq_true q232
                      go_wp2_with (first | (go_at_call 26; (with_reducible refine (vinculumref46_Line.calls k2 _ _ l0 a1 a2 (rd l3 x11_2) (rd l3 (ji15)) t233 false _ ?side1 ?side2 A18.out).mono ?_); (case side1 => repeat (first | exact (Kd.C_below HR0.out HB.out) | (with_reducible refine Kd.C_alloc ?_ _) | (with_reducible refine Kd.C_drewN ?_ _) | (with_reducible refine Kd.C_drew ?_))); (case side2 => exact HC0.out); rintro e w27 ⟨rfl, hb⟩; have n0_ := Aside0.mk (below_step (by repeat (first | (with_reducible first | exact HB.out | apply below_alloc | apply pw_below_drewN | apply below_drew1) | exact HB.out)) hb); clear HB; have HB := n0_; clear n0_; (try clear hb); (try clear hb2); (try clear hk); (try clear hi)))
                      repeat (go_quiet (first | (go_at_call 26; (with_reducible refine (vinculumref46_Line.calls k2 _ _ l0 a1 a2 (rd l3 x11_2) (rd l3 (ji15)) t233 false _ ?side1 ?side2 A18.out).mono ?_); (case side1 => repeat (first | exact (Kd.C_below HR0.out HB.out) | (with_reducible refine Kd.C_alloc ?_ _) | (with_reducible refine Kd.C_drewN ?_ _) | (with_reducible refine Kd.C_drew ?_))); (case side2 => exact HC0.out); rintro e w27 ⟨rfl, hb⟩; have n0_ := Aside0.mk (below_step (by repeat (first | (with_reducible first | exact HB.out | apply below_alloc | apply pw_below_drewN | apply below_drew1) | exact HB.out)) hb); clear HB; have HB := n0_; clear n0_; (try clear hb); (try clear hb2); (try clear hk); (try clear hi))); try go_wp2_with (first | (go_at_call 26; (with_reducible refine (vinculumref46_Line.calls k2 _ _ l0 a1 a2 (rd l3 x11_2) (rd l3 (ji15)) t233 false _ ?side1 ?side2 A18.out).mono ?_); (case side1 => repeat (first | exact (Kd.C_below HR0.out HB.out) | (with_reducible refine Kd.C_alloc ?_ _) | (with_reducible refine Kd.C_drewN ?_ _) | (with_reducible refine Kd.C_drew ?_))); (case side2 => exact HC0.out); rintro e w27 ⟨rfl, hb⟩; have n0_ := Aside0.mk (below_step (by repeat (first | (with_reducible first | exact HB.out | apply below_alloc | apply pw_below_drewN | apply below_drew1) | exact HB.out)) hb); clear HB; have HB := n0_; clear n0_; (try clear hb); (try clear hb2); (try clear hk); (try clear hi))))
                      go_ret
                      exact ⟨by first | rfl | (simp [errW_none, errW_some] <;> rfl) | (simp only [← hji15]; first | rfl | (simp [errW_none, errW_some] <;> rfl)) | (simp [*, errW_none, errW_some] <;> rfl), by repeat (first | (with_reducible first | exact HB.out | apply below_alloc | apply pw_below_drewN | apply below_drew1) | exact HB.out)⟩
                  · rw [if_neg c17] at H
                    exact absurd H (by simp)
                · rw [if_neg c16] at H
                  exact absurd H (by simp)
              · rw [if_neg c14] at H
                have c14b0 : decide ((wrap64 (x11_2 + 1)) < (l3.length : Int)) = false := decide_eq_false c14
                clear c14
                by_cases c28 : 0 ≤ x11_2
                · rw [if_pos c28] at H
                  have c28b0 : decide (0 ≤ x11_2) = true := decide_eq_true c28
                  clear c28
                  replace H := Option.bind_eq_some_iff.mp H
                  obtain ⟨⟨t239, t240⟩, A290, H⟩ := H
                  replace H : (if t240 = true then (if 0 ≤ (rd l3 x11_2) then (if (rd l3 x11_2) < (l4.length : Int) then (if 0 ≤ (l0.length : Int) then (if (l0.length : Int) < (l4.length : Int) then (if (rd l4 (rd l3 x11_2)) = (wrap64 (t239 + (rd l4 (l0.length : Int)))) then (vinculumref46_Check.l0 k2 l0 a1 a2 l3 l4 (wrap64 (x11_2 + 1))) else (some false)) else (none)) else (none)) else (none)) else (none)) else (some false)) = some r := H
                  have A29 := Aside0.mk A290
                  clear A290
                  by_cases c30 : t240 = true
                  · subst c30
                    have H1 : (if 0 ≤ (rd l3 x11_2) then (if (rd l3 x11_2) < (l4.length : Int) then (if 0 ≤ (l0.length : Int) then (if (l0.length : Int) < (l4.length : Int) then (if (rd l4 (rd l3 x11_2)) = (wrap64 (t239 + (rd l4 (l0.length : Int)))) then (vinculumref46_Check.l0 k2 l0 a1 a2 l3 l4 (wrap64 (x11_2 + 1))) else (some false)) else (none)) else (none)) else (none)) else (none)) = some r := by rw [if_pos rfl] at H; exact H
                    clear H
                    have H := H1
                    clear H1
                    by_cases c31 : 0 ≤ (rd l3 x11_2)
                    · rw [if_pos c31] at H
                      have c31b0 : decide (0 ≤ (rd l3 x11_2)) = true := decide_eq_true c31
                      clear c31
                      by_cases c32 : (rd l3 x11_2) < (l4.length : Int)
                      · rw [if_pos c32] at H
                        have c32b0 : decide ((rd l3 x11_2) < (l4.length : Int)) = true := decide_eq_true c32
                        clear c32
                        by_cases c33 : 0 ≤ (l0.length : Int)
                        · rw [if_pos c33] at H
                          have c33b0 : decide (0 ≤ (l0.length : Int)) = true := decide_eq_true c33
                          have c33b1 : decide (0 ≤ l0.length) = true := decide_eq_true (by omega)
                          clear c33
                          by_cases c34 : (l0.length : Int) < (l4.length : Int)
                          · rw [if_pos c34] at H
                            have c34b0 : decide ((l0.length : Int) < (l4.length : Int)) = true := decide_eq_true c34
                            have c34b1 : decide (l0.length < l4.length) = true := decide_eq_true (Int.ofNat_lt.mp c34)
                            clear c34
                            by_cases c35 : (rd l4 (rd l3 x11_2)) = (wrap64 (t239 + (rd l4 (l0.length : Int))))
                            · rw [if_pos c35] at H
                              have c35b0 : ((rd l4 (rd l3 x11_2)) == (wrap64 (t239 + (rd l4 (l0.length : Int))))) = true := beq_iff_eq.mpr c35
                              have c35b1 : ((rd l4 (rd l3 x11_2)) != (wrap64 (t239 + (rd l4 (l0.length : Int))))) = false := bne_eq_false_iff_eq.mpr c35
                              clear c35
                              have H' := Aside0.mk H
                              clear H
                              have p238 : 0 ≤ (x11_2 : Int) := of_decide_eq_true (by first | (with_reducible assumption) | assumption)
                              have q238 : x11_2 < (l3.length : Int) := of_decide_eq_true (by first | (with_reducible assumption) | assumption)
                              obtain ⟨ad238, e238, hx238_0⟩ := Kd.at_int HR3.out x11_2 p238 q238
                              cases e238
                              replace hx238_0 := (HB.out.cell (World.block_lt_of_cell? w _ hx238_0)).trans hx238_0
                              replace p238 := eq_true p238
                              replace q238 := eq_true q238
                              go_wp2_with (first | (go_at_call 26; (with_reducible refine (vinculumref46_Line.calls k2 _ _ l0 a1 a2 (rd l3 x11_2) (l0.length : Int) t239 true _ ?side1 ?side2 A29.out).mono ?_); (case side1 => repeat (first | exact (Kd.C_below HR0.out HB.out) | (with_reducible refine Kd.C_alloc ?_ _) | (with_reducible refine Kd.C_drewN ?_ _) | (with_reducible refine Kd.C_drew ?_))); (case side2 => exact HC0.out); rintro e w36 ⟨rfl, hb⟩; have n0_ := Aside0.mk (below_step (by repeat (first | (with_reducible first | exact HB.out | apply below_alloc | apply pw_below_drewN | apply below_drew1) | exact HB.out)) hb); clear HB; have HB := n0_; clear n0_; (try clear hb); (try clear hb2); (try clear hk); (try clear hi); have p241 : 0 ≤ (x11_2 : Int) := of_decide_eq_true (by first | (with_reducible assumption) | assumption); have q241 : x11_2 < (l3.length : Int) := of_decide_eq_true (by first | (with_reducible assumption) | assumption); obtain ⟨ad241, e241, hx241_0⟩ := Kd.at_int HR3.out x11_2 p241 q241; obtain rfl : ad238 = ad241 := (by injection e241); replace hx241_0 := (HB.out.cell (World.block_lt_of_cell? w _ hx241_0)).trans hx241_0; replace p241 := eq_true p241; replace q241 := eq_true q241; have p242 : 0 ≤ ((rd l3 x11_2) : Int) := of_decide_eq_true (by first | (with_reducible assumption) | assumption); have q242 : (rd l3 x11_2) < (l4.length : Int) := of_decide_eq_true (by first | (with_reducible assumption) | assumption); obtain ⟨ad242, e242, hx242_0⟩ := Kd.at_int HR4.out (rd l3 x11_2) p242 q242; cases e242; replace hx242_0 := (HB.out.cell (World.block_lt_of_cell? w _ hx242_0)).trans hx242_0; replace p242 := eq_true p242; replace q242 := eq_true q242; have p243 : 0 ≤ ((l0.length : Int) : Int) := of_decide_eq_true (by first | (with_reducible assumption) | assumption); have q243 : (l0.length : Int) < (l4.length : Int) := of_decide_eq_true (by first | (with_reducible assumption) | assumption); obtain ⟨ad243, e243, hx243_0⟩ := Kd.at_int HR4.out (l0.length : Int) p243 q243; obtain rfl : ad242 = ad243 := (by injection e243); replace hx243_0 := (HB.out.cell (World.block_lt_of_cell? w _ hx243_0)).trans hx243_0; (try simp only [Go.IntWalk.toNatUp] at hx243_0); replace p243 := eq_true p243; replace q243 := eq_true q243))
                              repeat (go_quiet (first | (go_at_call 26; (with_reducible refine (vinculumref46_Line.calls k2 _ _ l0 a1 a2 (rd l3 x11_2) (l0.length : Int) t239 true _ ?side1 ?side2 A29.out).mono ?_); (case side1 => repeat (first | exact (Kd.C_below HR0.out HB.out) | (with_reducible refine Kd.C_alloc ?_ _) | (with_reducible refine Kd.C_drewN ?_ _) | (with_reducible refine Kd.C_drew ?_))); (case side2 => exact HC0.out); rintro e w36 ⟨rfl, hb⟩; have n0_ := Aside0.mk (below_step (by repeat (first | (with_reducible first | exact HB.out | apply below_alloc | apply pw_below_drewN | apply below_drew1) | exact HB.out)) hb); clear HB; have HB := n0_; clear n0_; (try clear hb); (try clear hb2); (try clear hk); (try clear hi); have p241 : 0 ≤ (x11_2 : Int) := of_decide_eq_true (by first | (with_reducible assumption) | assumption); have q241 : x11_2 < (l3.length : Int) := of_decide_eq_true (by first | (with_reducible assumption) | assumption); obtain ⟨ad241, e241, hx241_0⟩ := Kd.at_int HR3.out x11_2 p241 q241; obtain rfl : ad238 = ad241 := (by injection e241); replace hx241_0 := (HB.out.cell (World.block_lt_of_cell? w _ hx241_0)).trans hx241_0; replace p241 := eq_true p241; replace q241 := eq_true q241; have p242 : 0 ≤ ((rd l3 x11_2) : Int) := of_decide_eq_true (by first | (with_reducible assumption) | assumption); have q242 : (rd l3 x11_2) < (l4.length : Int) := of_decide_eq_true (by first | (with_reducible assumption) | assumption); obtain ⟨ad242, e242, hx242_0⟩ := Kd.at_int HR4.out (rd l3 x11_2) p242 q242; cases e242; replace hx242_0 := (HB.out.cell (World.block_lt_of_cell? w _ hx242_0)).trans hx242_0; replace p242 := eq_true p242; replace q242 := eq_true q242; have p243 : 0 ≤ ((l0.length : Int) : Int) := of_decide_eq_true (by first | (with_reducible assumption) | assumption); have q243 : (l0.length : Int) < (l4.length : Int) := of_decide_eq_true (by first | (with_reducible assumption) | assumption); obtain ⟨ad243, e243, hx243_0⟩ := Kd.at_int HR4.out (l0.length : Int) p243 q243; obtain rfl : ad242 = ad243 := (by injection e243); replace hx243_0 := (HB.out.cell (World.block_lt_of_cell? w _ hx243_0)).trans hx243_0; (try simp only [Go.IntWalk.toNatUp] at hx243_0); replace p243 := eq_true p243; replace q243 := eq_true q243)); try go_wp2_with (first | (go_at_call 26; (with_reducible refine (vinculumref46_Line.calls k2 _ _ l0 a1 a2 (rd l3 x11_2) (l0.length : Int) t239 true _ ?side1 ?side2 A29.out).mono ?_); (case side1 => repeat (first | exact (Kd.C_below HR0.out HB.out) | (with_reducible refine Kd.C_alloc ?_ _) | (with_reducible refine Kd.C_drewN ?_ _) | (with_reducible refine Kd.C_drew ?_))); (case side2 => exact HC0.out); rintro e w36 ⟨rfl, hb⟩; have n0_ := Aside0.mk (below_step (by repeat (first | (with_reducible first | exact HB.out | apply below_alloc | apply pw_below_drewN | apply below_drew1) | exact HB.out)) hb); clear HB; have HB := n0_; clear n0_; (try clear hb); (try clear hb2); (try clear hk); (try clear hi); have p241 : 0 ≤ (x11_2 : Int) := of_decide_eq_true (by first | (with_reducible assumption) | assumption); have q241 : x11_2 < (l3.length : Int) := of_decide_eq_true (by first | (with_reducible assumption) | assumption); obtain ⟨ad241, e241, hx241_0⟩ := Kd.at_int HR3.out x11_2 p241 q241; obtain rfl : ad238 = ad241 := (by injection e241); replace hx241_0 := (HB.out.cell (World.block_lt_of_cell? w _ hx241_0)).trans hx241_0; replace p241 := eq_true p241; replace q241 := eq_true q241; have p242 : 0 ≤ ((rd l3 x11_2) : Int) := of_decide_eq_true (by first | (with_reducible assumption) | assumption); have q242 : (rd l3 x11_2) < (l4.length : Int) := of_decide_eq_true (by first | (with_reducible assumption) | assumption); obtain ⟨ad242, e242, hx242_0⟩ := Kd.at_int HR4.out (rd l3 x11_2) p242 q242; cases e242; replace hx242_0 := (HB.out.cell (World.block_lt_of_cell? w _ hx242_0)).trans hx242_0; replace p242 := eq_true p242; replace q242 := eq_true q242; have p243 : 0 ≤ ((l0.length : Int) : Int) := of_decide_eq_true (by first | (with_reducible assumption) | assumption); have q243 : (l0.length : Int) < (l4.length : Int) := of_decide_eq_true (by first | (with_reducible assumption) | assumption); obtain ⟨ad243, e243, hx243_0⟩ := Kd.at_int HR4.out (l0.length : Int) p243 q243; obtain rfl : ad242 = ad243 := (by injection e243); replace hx243_0 := (HB.out.cell (World.block_lt_of_cell? w _ hx243_0)).trans hx243_0; (try simp only [Go.IntWalk.toNatUp] at hx243_0); replace p243 := eq_true p243; replace q243 := eq_true q243)))
                              go_roundg k2
                              case measure => have := HJ5.out; have := HK2.out; omega
                              case rel => exact ⟨(wrap64 (x11_2 + 1)), (by first | rfl | (simp; done) | (simp [*]; done) | (simp [ne_nil_bool]; done)), H', ⟨by have := HJ5.out; have := HK2.out; omega⟩, ⟨by repeat (first | (with_reducible first | exact HB.out | apply below_alloc | apply pw_below_drewN | apply below_drew1) | exact HB.out)⟩⟩
                            · rw [if_neg c35] at H
                              have c35b0 : ((rd l4 (rd l3 x11_2)) == (wrap64 (t239 + (rd l4 (l0.length : Int))))) = false := beq_eq_false_iff_ne.mpr c35
                              have c35b1 : ((rd l4 (rd l3 x11_2)) != (wrap64 (t239 + (rd l4 (l0.length : Int))))) = true := bne_iff_ne.mpr c35
                              obtain rfl := Option.some.inj H
                              have p238 : 0 ≤ (x11_2 : Int) := of_decide_eq_true (by first | (with_reducible assumption) | assumption)
                              have q238 : x11_2 < (l3.length : Int) := of_decide_eq_true (by first | (with_reducible assumption) | assumption)
                              obtain ⟨ad238, e238, hx238_0⟩ := Kd.at_int HR3.out x11_2 p238 q238
                              cases e238
                              replace hx238_0 := (HB.out.cell (World.block_lt_of_cell? w _ hx238_0)).trans hx238_0
                              replace p238 := eq_true p238
                              replace q238 := eq_true q238
                              go_wp2_with (first | (go_at_call 26; (with_reducible refine (vinculumref46_Line.calls k2 _ _ l0 a1 a2 (rd l3 x11_2) (l0.length : Int) t239 true _ ?side1 ?side2 A29.out).mono ?_); (case side1 => repeat (first | exact (Kd.C_below HR0.out HB.out) | (with_reducible refine Kd.C_alloc ?_ _) | (with_reducible refine Kd.C_drewN ?_ _) | (with_reducible refine Kd.C_drew ?_))); (case side2 => exact HC0.out); rintro e w37 ⟨rfl, hb⟩; have n0_ := Aside0.mk (below_step (by repeat (first | (with_reducible first | exact HB.out | apply below_alloc | apply pw_below_drewN | apply below_drew1) | exact HB.out)) hb); clear HB; have HB := n0_; clear n0_; (try clear hb); (try clear hb2); (try clear hk); (try clear hi); have p241 : 0 ≤ (x11_2 : Int) := of_decide_eq_true (by first | (with_reducible assumption) | assumption); have q241 : x11_2 < (l3.length : Int) := of_decide_eq_true (by first | (with_reducible assumption) | assumption); obtain ⟨ad241, e241, hx241_0⟩ := Kd.at_int HR3.out x11_2 p241 q241; obtain rfl : ad238 = ad241 := (by injection e241); replace hx241_0 := (HB.out.cell (World.block_lt_of_cell? w _ hx241_0)).trans hx241_0; replace p241 := eq_true p241; replace q241 := eq_true q241; have p242 : 0 ≤ ((rd l3 x11_2) : Int) := of_decide_eq_true (by first | (with_reducible assumption) | assumption); have q242 : (rd l3 x11_2) < (l4.length : Int) := of_decide_eq_true (by first | (with_reducible assumption) | assumption); obtain ⟨ad242, e242, hx242_0⟩ := Kd.at_int HR4.out (rd l3 x11_2) p242 q242; cases e242; replace hx242_0 := (HB.out.cell (World.block_lt_of_cell? w _ hx242_0)).trans hx242_0; replace p242 := eq_true p242; replace q242 := eq_true q242; have p243 : 0 ≤ ((l0.length : Int) : Int) := of_decide_eq_true (by first | (with_reducible assumption) | assumption); have q243 : (l0.length : Int) < (l4.length : Int) := of_decide_eq_true (by first | (with_reducible assumption) | assumption); obtain ⟨ad243, e243, hx243_0⟩ := Kd.at_int HR4.out (l0.length : Int) p243 q243; obtain rfl : ad242 = ad243 := (by injection e243); replace hx243_0 := (HB.out.cell (World.block_lt_of_cell? w _ hx243_0)).trans hx243_0; (try simp only [Go.IntWalk.toNatUp] at hx243_0); replace p243 := eq_true p243; replace q243 := eq_true q243))
                              repeat (go_quiet (first | (go_at_call 26; (with_reducible refine (vinculumref46_Line.calls k2 _ _ l0 a1 a2 (rd l3 x11_2) (l0.length : Int) t239 true _ ?side1 ?side2 A29.out).mono ?_); (case side1 => repeat (first | exact (Kd.C_below HR0.out HB.out) | (with_reducible refine Kd.C_alloc ?_ _) | (with_reducible refine Kd.C_drewN ?_ _) | (with_reducible refine Kd.C_drew ?_))); (case side2 => exact HC0.out); rintro e w37 ⟨rfl, hb⟩; have n0_ := Aside0.mk (below_step (by repeat (first | (with_reducible first | exact HB.out | apply below_alloc | apply pw_below_drewN | apply below_drew1) | exact HB.out)) hb); clear HB; have HB := n0_; clear n0_; (try clear hb); (try clear hb2); (try clear hk); (try clear hi); have p241 : 0 ≤ (x11_2 : Int) := of_decide_eq_true (by first | (with_reducible assumption) | assumption); have q241 : x11_2 < (l3.length : Int) := of_decide_eq_true (by first | (with_reducible assumption) | assumption); obtain ⟨ad241, e241, hx241_0⟩ := Kd.at_int HR3.out x11_2 p241 q241; obtain rfl : ad238 = ad241 := (by injection e241); replace hx241_0 := (HB.out.cell (World.block_lt_of_cell? w _ hx241_0)).trans hx241_0; replace p241 := eq_true p241; replace q241 := eq_true q241; have p242 : 0 ≤ ((rd l3 x11_2) : Int) := of_decide_eq_true (by first | (with_reducible assumption) | assumption); have q242 : (rd l3 x11_2) < (l4.length : Int) := of_decide_eq_true (by first | (with_reducible assumption) | assumption); obtain ⟨ad242, e242, hx242_0⟩ := Kd.at_int HR4.out (rd l3 x11_2) p242 q242; cases e242; replace hx242_0 := (HB.out.cell (World.block_lt_of_cell? w _ hx242_0)).trans hx242_0; replace p242 := eq_true p242; replace q242 := eq_true q242; have p243 : 0 ≤ ((l0.length : Int) : Int) := of_decide_eq_true (by first | (with_reducible assumption) | assumption); have q243 : (l0.length : Int) < (l4.length : Int) := of_decide_eq_true (by first | (with_reducible assumption) | assumption); obtain ⟨ad243, e243, hx243_0⟩ := Kd.at_int HR4.out (l0.length : Int) p243 q243; obtain rfl : ad242 = ad243 := (by injection e243); replace hx243_0 := (HB.out.cell (World.block_lt_of_cell? w _ hx243_0)).trans hx243_0; (try simp only [Go.IntWalk.toNatUp] at hx243_0); replace p243 := eq_true p243; replace q243 := eq_true q243)); try go_wp2_with (first | (go_at_call 26; (with_reducible refine (vinculumref46_Line.calls k2 _ _ l0 a1 a2 (rd l3 x11_2) (l0.length : Int) t239 true _ ?side1 ?side2 A29.out).mono ?_); (case side1 => repeat (first | exact (Kd.C_below HR0.out HB.out) | (with_reducible refine Kd.C_alloc ?_ _) | (with_reducible refine Kd.C_drewN ?_ _) | (with_reducible refine Kd.C_drew ?_))); (case side2 => exact HC0.out); rintro e w37 ⟨rfl, hb⟩; have n0_ := Aside0.mk (below_step (by repeat (first | (with_reducible first | exact HB.out | apply below_alloc | apply pw_below_drewN | apply below_drew1) | exact HB.out)) hb); clear HB; have HB := n0_; clear n0_; (try clear hb); (try clear hb2); (try clear hk); (try clear hi); have p241 : 0 ≤ (x11_2 : Int) := of_decide_eq_true (by first | (with_reducible assumption) | assumption); have q241 : x11_2 < (l3.length : Int) := of_decide_eq_true (by first | (with_reducible assumption) | assumption); obtain ⟨ad241, e241, hx241_0⟩ := Kd.at_int HR3.out x11_2 p241 q241; obtain rfl : ad238 = ad241 := (by injection e241); replace hx241_0 := (HB.out.cell (World.block_lt_of_cell? w _ hx241_0)).trans hx241_0; replace p241 := eq_true p241; replace q241 := eq_true q241; have p242 : 0 ≤ ((rd l3 x11_2) : Int) := of_decide_eq_true (by first | (with_reducible assumption) | assumption); have q242 : (rd l3 x11_2) < (l4.length : Int) := of_decide_eq_true (by first | (with_reducible assumption) | assumption); obtain ⟨ad242, e242, hx242_0⟩ := Kd.at_int HR4.out (rd l3 x11_2) p242 q242; cases e242; replace hx242_0 := (HB.out.cell (World.block_lt_of_cell? w _ hx242_0)).trans hx242_0; replace p242 := eq_true p242; replace q242 := eq_true q242; have p243 : 0 ≤ ((l0.length : Int) : Int) := of_decide_eq_true (by first | (with_reducible assumption) | assumption); have q243 : (l0.length : Int) < (l4.length : Int) := of_decide_eq_true (by first | (with_reducible assumption) | assumption); obtain ⟨ad243, e243, hx243_0⟩ := Kd.at_int HR4.out (l0.length : Int) p243 q243; obtain rfl : ad242 = ad243 := (by injection e243); replace hx243_0 := (HB.out.cell (World.block_lt_of_cell? w _ hx243_0)).trans hx243_0; (try simp only [Go.IntWalk.toNatUp] at hx243_0); replace p243 := eq_true p243; replace q243 := eq_true q243)))
                              go_ret
                              exact ⟨by first | rfl | (simp [errW_none, errW_some] <;> rfl) | (simp [*, errW_none, errW_some] <;> rfl), by repeat (first | (with_reducible first | exact HB.out | apply below_alloc | apply pw_below_drewN | apply below_drew1) | exact HB.out)⟩
                          · rw [if_neg c34] at H
                            exact absurd H (by simp)
                        · rw [if_neg c33] at H
                          exact absurd H (by simp)
                      · rw [if_neg c32] at H
                        exact absurd H (by simp)
                    · rw [if_neg c31] at H
                      exact absurd H (by simp)
                  · replace c30 := Bool.eq_false_iff.mpr c30
                    subst c30
                    have H1 : (some false) = some r := by rw [if_neg (show ¬ (false = true) by decide)] at H; exact H
                    clear H
                    have H := H1
                    clear H1
                    obtain rfl := Option.some.inj H
                    have p238 : 0 ≤ (x11_2 : Int) := of_decide_eq_true (by first | (with_reducible assumption) | assumption)
                    have q238 : x11_2 < (l3.length : Int) := of_decide_eq_true (by first | (with_reducible assumption) | assumption)
                    obtain ⟨ad238, e238, hx238_0⟩ := Kd.at_int HR3.out x11_2 p238 q238
                    cases e238
                    replace hx238_0 := (HB.out.cell (World.block_lt_of_cell? w _ hx238_0)).trans hx238_0
                    replace p238 := eq_true p238
                    replace q238 := eq_true q238
                    go_wp2_with (first | (go_at_call 26; (with_reducible refine (vinculumref46_Line.calls k2 _ _ l0 a1 a2 (rd l3 x11_2) (l0.length : Int) t239 false _ ?side1 ?side2 A29.out).mono ?_); (case side1 => repeat (first | exact (Kd.C_below HR0.out HB.out) | (with_reducible refine Kd.C_alloc ?_ _) | (with_reducible refine Kd.C_drewN ?_ _) | (with_reducible refine Kd.C_drew ?_))); (case side2 => exact HC0.out); rintro e w38 ⟨rfl, hb⟩; have n0_ := Aside0.mk (below_step (by repeat (first | (with_reducible first | exact HB.out | apply below_alloc | apply pw_below_drewN | apply below_drew1) | exact HB.out)) hb); clear HB; have HB := n0_; clear n0_; (try clear hb); (try clear hb2); (try clear hk); (try clear hi)))
                    repeat (go_quiet (first | (go_at_call 26; (with_reducible refine (vinculumref46_Line.calls k2 _ _ l0 a1 a2 (rd l3 x11_2) (l0.length : Int) t239 false _ ?side1 ?side2 A29.out).mono ?_); (case side1 => repeat (first | exact (Kd.C_below HR0.out HB.out) | (with_reducible refine Kd.C_alloc ?_ _) | (with_reducible refine Kd.C_drewN ?_ _) | (with_reducible refine Kd.C_drew ?_))); (case side2 => exact HC0.out); rintro e w38 ⟨rfl, hb⟩; have n0_ := Aside0.mk (below_step (by repeat (first | (with_reducible first | exact HB.out | apply below_alloc | apply pw_below_drewN | apply below_drew1) | exact HB.out)) hb); clear HB; have HB := n0_; clear n0_; (try clear hb); (try clear hb2); (try clear hk); (try clear hi))); try go_wp2_with (first | (go_at_call 26; (with_reducible refine (vinculumref46_Line.calls k2 _ _ l0 a1 a2 (rd l3 x11_2) (l0.length : Int) t239 false _ ?side1 ?side2 A29.out).mono ?_); (case side1 => repeat (first | exact (Kd.C_below HR0.out HB.out) | (with_reducible refine Kd.C_alloc ?_ _) | (with_reducible refine Kd.C_drewN ?_ _) | (with_reducible refine Kd.C_drew ?_))); (case side2 => exact HC0.out); rintro e w38 ⟨rfl, hb⟩; have n0_ := Aside0.mk (below_step (by repeat (first | (with_reducible first | exact HB.out | apply below_alloc | apply pw_below_drewN | apply below_drew1) | exact HB.out)) hb); clear HB; have HB := n0_; clear n0_; (try clear hb); (try clear hb2); (try clear hk); (try clear hi))))
                    go_ret
                    exact ⟨by first | rfl | (simp [errW_none, errW_some] <;> rfl) | (simp [*, errW_none, errW_some] <;> rfl), by repeat (first | (with_reducible first | exact HB.out | apply below_alloc | apply pw_below_drewN | apply below_drew1) | exact HB.out)⟩
                · rw [if_neg c28] at H
                  exact absurd H (by simp)
            · rw [if_neg c13] at H
              have c13b0 : decide (x11_2 < (l3.length : Int)) = false := decide_eq_false c13
              clear c13
              obtain rfl := Option.some.inj H
              go_wp2
              repeat (go_quiet (fail); try go_wp2)
              go_ret
              exact ⟨by first | rfl | (simp [errW_none, errW_some] <;> rfl) | (simp [*, errW_none, errW_some] <;> rfl), by repeat (first | (with_reducible first | exact HB.out | apply below_alloc | apply pw_below_drewN | apply below_drew1) | exact HB.out)⟩

end Go.Proofs.Ytliegocbkgdhcaa.PG
