-- Written by a program of this place (wip/gen.py) with the kit's print; not trusted: Lean checks it.
import Derived.Test.YtbcilhnldnpehaaPDx0
import Derived.Test.YtbcilhnldnpehaaPDx2
import Derived.Test.YtbcilhnldnpehaaPDx3
import Derived.Test.YtbcilhnldnpehaaPDx4
namespace Go.Proofs.Ytbcilhnldnpehaa.PD
open Go.RowKit Go.Proofs.YtbcilhnldnpehaaW.PrintWords Go.Proofs.YtbcilhnldnpehaaW.PrintLast Go.Proofs.YtbcilhnldnpehaaW.PrintMore
attribute [local go_sem] max2_int min2_int max_two min_two max_three min_three max_four min_four   -- for this text's walks alone
set_option linter.unusedVariables false
set_option linter.unusedSimpArgs false

/-! ### vinculumref44_Total: function 18 -/
mutual
def vinculumref44_Total.j0 : Nat → List (S34) → List Int → Int → Int → Bool → Option (Int × Int)
  | 0, _, _, _, _, _ => none
  | k + 1, x0, x1, x2, x3, x16 => if x16 = true then (some (0, 1)) else ((vinculumref44_Starts.f k (x0.length : Int) x1).bind fun t178 => (if t178 = true then (vinculumref44_Total.l0 k x0 x1 x2 x3 0 0) else (some (0, 4))))
def vinculumref44_Total.l0 : Nat → List (S34) → List Int → Int → Int → Int → Int → Option (Int × Int)
  | 0, _, _, _, _, _, _ => none
  | k + 1, x0, x1, x2, x3, x10, x11 => if x11 < (x1.length : Int) then (if (wrap64 (x11 + 1)) < (x1.length : Int) then (if 0 ≤ (wrap64 (x11 + 1)) then (vinculumref44_Total.j2 k x0 x1 x2 x3 x10 x11 (rd x1 (wrap64 (x11 + 1))) x2) else (none)) else (vinculumref44_Total.j2 k x0 x1 x2 x3 x10 x11 (x0.length : Int) x2)) else (some (x10, 0))
def vinculumref44_Total.j2 : Nat → List (S34) → List Int → Int → Int → Int → Int → Int → Int → Option (Int × Int)
  | 0, _, _, _, _, _, _, _, _ => none
  | k + 1, x0, x1, x2, x3, x10, x11, x12, x13 => if x11 > 0 then (if 0 ≤ x11 then (if x11 < (x1.length : Int) then ((vinculumref44_Line.f k x0 (rd x1 x11) x12 (wrap64 (x13 - x3))).bind fun bt181 => (if bt181.2 = 0 then (vinculumref44_Total.l0 k x0 x1 x2 x3 (wrap64 (x10 + bt181.1)) (wrap64 (x11 + 1))) else (some (0, 6)))) else (none)) else (none)) else (if 0 ≤ x11 then (if x11 < (x1.length : Int) then ((vinculumref44_Line.f k x0 (rd x1 x11) x12 x13).bind fun bt184 => (if bt184.2 = 0 then (vinculumref44_Total.l0 k x0 x1 x2 x3 (wrap64 (x10 + bt184.1)) (wrap64 (x11 + 1))) else (some (0, 6)))) else (none)) else (none))
end
def vinculumref44_Total.f (k : Nat) (l0 : List (S34)) (l1 : List Int) (a2 : Int) (a3 : Int) : Option (Int × Int) := (vinculumref44_Valid.f k l0).bind fun t176 => (if t176 = true then ((vinculumref44_Fits.f a2 a3).bind fun t177 => (vinculumref44_Total.j0 k l0 l1 a2 a3 (!t177))) else (vinculumref44_Total.j0 k l0 l1 a2 a3 true))
theorem vinculumref44_Total.mono_l : ∀ k, (∀ y0 y1 y2 y3 y4, LeO (vinculumref44_Total.j0 k y0 y1 y2 y3 y4) (vinculumref44_Total.j0 (k + 1) y0 y1 y2 y3 y4)) ∧ (∀ y0 y1 y2 y3 y4 y5, LeO (vinculumref44_Total.l0 k y0 y1 y2 y3 y4 y5) (vinculumref44_Total.l0 (k + 1) y0 y1 y2 y3 y4 y5)) ∧ (∀ y0 y1 y2 y3 y4 y5 y6 y7, LeO (vinculumref44_Total.j2 k y0 y1 y2 y3 y4 y5 y6 y7) (vinculumref44_Total.j2 (k + 1) y0 y1 y2 y3 y4 y5 y6 y7))
  | 0 => ⟨fun _ _ _ _ _ r h => by simp [vinculumref44_Total.j0] at h, fun _ _ _ _ _ _ r h => by simp [vinculumref44_Total.l0] at h, fun _ _ _ _ _ _ _ _ r h => by simp [vinculumref44_Total.j2] at h⟩
  | k + 1 => by
    obtain ⟨ih0, ih1, ih2⟩ := vinculumref44_Total.mono_l k
    refine ⟨?_, ?_, ?_⟩
    · intro y0 y1 y2 y3 y4
      unfold vinculumref44_Total.j0
      repeat' first
      | (with_reducible exact ih0 _ _ _ _ _)
      | (with_reducible exact ih1 _ _ _ _ _ _)
      | (with_reducible exact ih2 _ _ _ _ _ _ _ _)
      | (with_reducible exact vinculumref44_Line.mono _ _ _ _ _)
      | (with_reducible exact vinculumref44_Starts.mono _ _ _)
      | (with_reducible exact vinculumref44_Valid.mono _ _)
      | (with_reducible exact LeO.refl _)
      | (with_reducible exact LeO.none _)
      | (with_reducible refine LeO.ite ?_ ?_)
      | (with_reducible refine LeO.bind ?_ (fun _ => ?_))
      | exact ih0 _ _ _ _ _
      | exact ih1 _ _ _ _ _ _
      | exact ih2 _ _ _ _ _ _ _ _
      | exact vinculumref44_Line.mono _ _ _ _ _
      | exact vinculumref44_Starts.mono _ _ _
      | exact vinculumref44_Valid.mono _ _
      | exact LeO.none _
      | refine LeO.ite ?_ ?_
      | refine LeO.bind ?_ (fun _ => ?_)
    · intro y0 y1 y2 y3 y4 y5
      unfold vinculumref44_Total.l0
      repeat' first
      | (with_reducible exact ih0 _ _ _ _ _)
      | (with_reducible exact ih1 _ _ _ _ _ _)
      | (with_reducible exact ih2 _ _ _ _ _ _ _ _)
      | (with_reducible exact vinculumref44_Line.mono _ _ _ _ _)
      | (with_reducible exact vinculumref44_Starts.mono _ _ _)
      | (with_reducible exact vinculumref44_Valid.mono _ _)
      | (with_reducible exact LeO.refl _)
      | (with_reducible exact LeO.none _)
      | (with_reducible refine LeO.ite ?_ ?_)
      | (with_reducible refine LeO.bind ?_ (fun _ => ?_))
      | exact ih0 _ _ _ _ _
      | exact ih1 _ _ _ _ _ _
      | exact ih2 _ _ _ _ _ _ _ _
      | exact vinculumref44_Line.mono _ _ _ _ _
      | exact vinculumref44_Starts.mono _ _ _
      | exact vinculumref44_Valid.mono _ _
      | exact LeO.none _
      | refine LeO.ite ?_ ?_
      | refine LeO.bind ?_ (fun _ => ?_)
    · intro y0 y1 y2 y3 y4 y5 y6 y7
      unfold vinculumref44_Total.j2
      repeat' first
      | (with_reducible exact ih0 _ _ _ _ _)
      | (with_reducible exact ih1 _ _ _ _ _ _)
      | (with_reducible exact ih2 _ _ _ _ _ _ _ _)
      | (with_reducible exact vinculumref44_Line.mono _ _ _ _ _)
      | (with_reducible exact vinculumref44_Starts.mono _ _ _)
      | (with_reducible exact vinculumref44_Valid.mono _ _)
      | (with_reducible exact LeO.refl _)
      | (with_reducible exact LeO.none _)
      | (with_reducible refine LeO.ite ?_ ?_)
      | (with_reducible refine LeO.bind ?_ (fun _ => ?_))
      | exact ih0 _ _ _ _ _
      | exact ih1 _ _ _ _ _ _
      | exact ih2 _ _ _ _ _ _ _ _
      | exact vinculumref44_Line.mono _ _ _ _ _
      | exact vinculumref44_Starts.mono _ _ _
      | exact vinculumref44_Valid.mono _ _
      | exact LeO.none _
      | refine LeO.ite ?_ ?_
      | refine LeO.bind ?_ (fun _ => ?_)
theorem vinculumref44_Total.mono : ∀ a0 a1 a2 a3 k, LeO (vinculumref44_Total.f k a0 a1 a2 a3) (vinculumref44_Total.f (k + 1) a0 a1 a2 a3) := by
  intro a0 a1 a2 a3 k
  obtain ⟨ih0, ih1, ih2⟩ := vinculumref44_Total.mono_l k
  unfold vinculumref44_Total.f
  repeat' first
      | (with_reducible exact ih0 _ _ _ _ _)
      | (with_reducible exact ih1 _ _ _ _ _ _)
      | (with_reducible exact ih2 _ _ _ _ _ _ _ _)
      | (with_reducible exact vinculumref44_Line.mono _ _ _ _ _)
      | (with_reducible exact vinculumref44_Starts.mono _ _ _)
      | (with_reducible exact vinculumref44_Valid.mono _ _)
      | (with_reducible exact LeO.refl _)
      | (with_reducible exact LeO.none _)
      | (with_reducible refine LeO.ite ?_ ?_)
      | (with_reducible refine LeO.bind ?_ (fun _ => ?_))
      | exact ih0 _ _ _ _ _
      | exact ih1 _ _ _ _ _ _
      | exact ih2 _ _ _ _ _ _ _ _
      | exact vinculumref44_Line.mono _ _ _ _ _
      | exact vinculumref44_Starts.mono _ _ _
      | exact vinculumref44_Valid.mono _ _
      | exact LeO.none _
      | refine LeO.ite ?_ ?_
      | refine LeO.bind ?_ (fun _ => ?_)
set_option maxHeartbeats 8000000 in
set_option maxRecDepth 100000 in
theorem vinculumref44_Total.calls (k : Nat) (A0 : Option Addr) (c0 : Nat) (l0 : List (S34)) (A1 : Option Addr) (c1 : Nat) (l1 : List Int) (a2 : Int) (a3 : Int) (r1 : Int) (r2 : Int) (w : World) (hr0 : Kd.C k34 w A0 l0.length l0) (hc0 : l0.length ≤ c0) (hr1 : Kd.C (Kd.int .i64) w A1 l1.length l1) (hc1 : l1.length ≤ c1) (h : vinculumref44_Total.f k l0 l1 a2 a3 = some (r1, r2)) :
    Calls Try.prog 18 #[.slice A0 l0.length c0, .slice A1 l1.length c1, .int .i64 a2, .int .i64 a3] w fun e w' => e = .returned (.tuple #[.int .i64 r1, .int .i64 r2]) ∧ Below w.heap.size w w' := by
  have HR0 := Aside0.mk hr0
  have HC0 := Aside0.mk hc0
  clear hr0 hc0
  have HR1 := Aside0.mk hr1
  have HC1 := Aside0.mk hc1
  clear hr1 hc1
  have HB := Aside0.mk (Below.refl w.heap.size w)
  have H : ((vinculumref44_Valid.f k l0).bind fun t176 => (if t176 = true then ((vinculumref44_Fits.f a2 a3).bind fun t177 => (vinculumref44_Total.j0 k l0 l1 a2 a3 (!t177))) else (vinculumref44_Total.j0 k l0 l1 a2 a3 true))) = some (r1, r2) := h
  clear h
  have HC5 := Aside0.mk H
  clear H
  go_enter Try.func18, Try.ntmps18
  go_upto_region 1 with (fail)
  go_cut [16] (fun v16 wc => ∃ (kq : Nat) (x16_4 : Bool), v16 = .bool x16_4 ∧ Aside0 (vinculumref44_Total.j0 kq l0 l1 a2 a3 x16_4 = some (r1, r2)) ∧ Aside0 (kq ≤ k) ∧ Aside0 (Below w.heap.size w wc))
  case first =>
    have H := HC5.out
    clear HC5
    replace H := Option.bind_eq_some_iff.mp H
    obtain ⟨t176, A60, H⟩ := H
    replace H : (if t176 = true then ((vinculumref44_Fits.f a2 a3).bind fun t177 => (vinculumref44_Total.j0 k l0 l1 a2 a3 (!t177))) else (vinculumref44_Total.j0 k l0 l1 a2 a3 true)) = some (r1, r2) := H
    have A6 := Aside0.mk A60
    clear A60
    by_cases c7 : t176 = true
    · subst c7
      have H1 : ((vinculumref44_Fits.f a2 a3).bind fun t177 => (vinculumref44_Total.j0 k l0 l1 a2 a3 (!t177))) = some (r1, r2) := by rw [if_pos rfl] at H; exact H
      clear H
      have H := H1
      clear H1
      replace H := Option.bind_eq_some_iff.mp H
      obtain ⟨t177, A80, H⟩ := H
      replace H : (vinculumref44_Total.j0 k l0 l1 a2 a3 (!t177)) = some (r1, r2) := H
      have A8 := Aside0.mk A80
      clear A80
      have H' := Aside0.mk H
      clear H
      go_wp2_with (first | ((with_reducible refine gate_callee (f := 15) rfl ?_); refine goesL_ (some 18) rfl rfl Try.func15 (by kernel_rfl) rfl #[.slice A0 l0.length c0] rfl (by (try simp only [List.map_toArray, List.map_cons, List.map_nil]); first | done | rfl | (simp only [List.length_drop, List.length_take]; rfl)) ?_; (with_reducible refine (vinculumref44_Valid.calls k _ _ l0 true _ ?side1 ?side2 A6.out).mono ?_); (case side1 => repeat (first | exact (Kd.C_below HR0.out HB.out) | (with_reducible refine Kd.C_alloc ?_ _) | (with_reducible refine Kd.C_drewN ?_ _) | (with_reducible refine Kd.C_drew ?_))); (case side2 => exact HC0.out); rintro e w' ⟨rfl, ⟨nd, rfl⟩⟩; refine ⟨_, rfl, ?_⟩) | (go_at_call 16; (with_reducible refine (vinculumref44_Fits.calls a2 a3 t177 _ A8.out).mono ?_); rintro e w' ⟨rfl, ⟨nd, rfl⟩⟩))
      go_meet
      case rel => exact ⟨_, (!t177), (by first | rfl | (simp; done) | (simp [*]; done)), H', ⟨by first | omega | exact Nat.le_refl _⟩, ⟨by repeat (first | (with_reducible first | exact HB.out | apply below_alloc | apply pw_below_drewN | apply below_drew1) | exact HB.out)⟩⟩
    · replace c7 := Bool.eq_false_iff.mpr c7
      subst c7
      have H1 : (vinculumref44_Total.j0 k l0 l1 a2 a3 true) = some (r1, r2) := by rw [if_neg (show ¬ (false = true) by decide)] at H; exact H
      clear H
      have H := H1
      clear H1
      have H' := Aside0.mk H
      clear H
      go_wp2_with (first | ((with_reducible refine gate_callee (f := 15) rfl ?_); refine goesL_ (some 18) rfl rfl Try.func15 (by kernel_rfl) rfl #[.slice A0 l0.length c0] rfl (by (try simp only [List.map_toArray, List.map_cons, List.map_nil]); first | done | rfl | (simp only [List.length_drop, List.length_take]; rfl)) ?_; (with_reducible refine (vinculumref44_Valid.calls k _ _ l0 false _ ?side1 ?side2 A6.out).mono ?_); (case side1 => repeat (first | exact (Kd.C_below HR0.out HB.out) | (with_reducible refine Kd.C_alloc ?_ _) | (with_reducible refine Kd.C_drewN ?_ _) | (with_reducible refine Kd.C_drew ?_))); (case side2 => exact HC0.out); rintro e w' ⟨rfl, ⟨nd, rfl⟩⟩; refine ⟨_, rfl, ?_⟩))
      go_meet
      case rel => exact ⟨_, (true), (by first | rfl | (simp; done) | (simp [*]; done)), H', ⟨by first | omega | exact Nat.le_refl _⟩, ⟨by repeat (first | (with_reducible first | exact HB.out | apply below_alloc | apply pw_below_drewN | apply below_drew1) | exact HB.out)⟩⟩
  case rest =>
    clear HC5
    try clear c1
    try clear p2
    try clear c7
    obtain ⟨kq, x16_4, rfl, HA, HJ4, HB⟩ := hcut
    cases kq with
    | zero => exact absurd HA.out (by simp [vinculumref44_Total.j0])
    | succ kj4 =>
      have H := HA.out
      clear HA
      simp only [vinculumref44_Total.j0] at H
      by_cases c9 : x16_4 = true
      · subst c9
        have H1 : (some (0, 1)) = some (r1, r2) := by rw [if_pos rfl] at H; exact H
        clear H
        have H := H1
        clear H1
        simp only [Option.some.injEq, Prod.mk.injEq] at H
        obtain ⟨rfl, rfl⟩ := H
        go_wp2
        go_ret2
        exact ⟨by first | rfl | (simp [errW_none, errW_some] <;> rfl) | (simp [*, errW_none, errW_some] <;> rfl), by repeat (first | (with_reducible first | exact HB.out | apply below_alloc | apply pw_below_drewN | apply below_drew1) | exact HB.out)⟩
      · replace c9 := Bool.eq_false_iff.mpr c9
        subst c9
        have H1 : ((vinculumref44_Starts.f kj4 (l0.length : Int) l1).bind fun t178 => (if t178 = true then (vinculumref44_Total.l0 kj4 l0 l1 a2 a3 0 0) else (some (0, 4)))) = some (r1, r2) := by rw [if_neg (show ¬ (false = true) by decide)] at H; exact H
        clear H
        have H := H1
        clear H1
        replace H := Option.bind_eq_some_iff.mp H
        obtain ⟨t178, A100, H⟩ := H
        replace H : (if t178 = true then (vinculumref44_Total.l0 kj4 l0 l1 a2 a3 0 0) else (some (0, 4))) = some (r1, r2) := H
        have A10 := Aside0.mk A100
        clear A100
        by_cases c11 : t178 = true
        · subst c11
          have H1 : (vinculumref44_Total.l0 kj4 l0 l1 a2 a3 0 0) = some (r1, r2) := by rw [if_pos rfl] at H; exact H
          clear H
          have H := H1
          clear H1
          have H' := Aside0.mk H
          clear H
          go_wp2_with (first | ((with_reducible refine gate_callee (f := 26) rfl ?_); refine goesL_ (some 30) rfl rfl Try.func26 (by kernel_rfl) rfl #[.int .i64 (l0.length : Int), .slice A1 l1.length c1] rfl (by (try simp only [List.map_toArray, List.map_cons, List.map_nil]); first | done | rfl | (simp only [List.length_drop, List.length_take]; rfl)) ?_; (with_reducible refine (vinculumref44_Starts.calls kj4 (l0.length : Int) _ _ l1 true _ ?side1 ?side2 A10.out).mono ?_); (case side1 => repeat (first | exact (Kd.C_below HR1.out HB.out) | (with_reducible refine Kd.C_alloc ?_ _) | (with_reducible refine Kd.C_drewN ?_ _) | (with_reducible refine Kd.C_drew ?_))); (case side2 => exact HC1.out); rintro e w' ⟨rfl, ⟨nd, rfl⟩⟩; refine ⟨_, rfl, ?_⟩))
          go_loopg [10, 11] kj4 (fun kq v10 v11 w' => ∃ (x10_2 : Int) (x11_2 : Int), v10 = .int .i64 x10_2 ∧ v11 = .int .i64 x11_2 ∧ Aside0 (vinculumref44_Total.l0 kq l0 l1 a2 a3 x10_2 x11_2 = some (r1, r2)) ∧ Aside0 (kq ≤ kj4) ∧ Aside0 (Below w.heap.size w w'))
          case atStart => exact ⟨(0), (0), (by first | rfl | (simp; done) | (simp [*]; done)), (by first | rfl | (simp; done) | (simp [*]; done)), H', ⟨Nat.le_refl _⟩, ⟨by repeat (first | (with_reducible first | exact HB.out | apply below_alloc | apply pw_below_drewN | apply below_drew1) | exact HB.out)⟩⟩
          case round =>
            clear H'
            try clear c1
            try clear c2
            try clear p2
            try clear c7
            try clear c9
            try clear c11
            try clear p2
            obtain ⟨x10_2, x11_2, rfl, rfl, HA, HK2, HB⟩ := hrel
            cases gk with
            | zero => exact absurd HA.out (by simp [vinculumref44_Total.l0])
            | succ k2 =>
              have H := HA.out
              clear HA
              simp only [vinculumref44_Total.l0] at H
              by_cases c12 : x11_2 < (l1.length : Int)
              · rw [if_pos c12] at H
                have c12b0 : decide (x11_2 < (l1.length : Int)) = true := decide_eq_true c12
                clear c12
                have HC13 := Aside0.mk H
                clear H
                go_upto_if 45 with (fail)
                go_cut [12] (fun v12 wc => ∃ (kq : Nat) (x12_12 : Int), v12 = .int .i64 x12_12 ∧ Aside0 (vinculumref44_Total.j2 kq l0 l1 a2 a3 x10_2 x11_2 x12_12 a2 = some (r1, r2)) ∧ Aside0 (kq ≤ k2) ∧ Aside0 (Below w.heap.size w wc))
                case first =>
                  have H := HC13.out
                  clear HC13
                  by_cases c14 : (wrap64 (x11_2 + 1)) < (l1.length : Int)
                  · rw [if_pos c14] at H
                    have c14b0 : decide ((wrap64 (x11_2 + 1)) < (l1.length : Int)) = true := decide_eq_true c14
                    clear c14
                    (first | rw [c14b0] | (simp only [i64_w, i32_w]; rw [c14b0]) | skip)
                    obtain ⟨ji15, hji15⟩ : ∃ j_ : Int, (wrap64 (x11_2 + 1)) = j_ := ⟨_, rfl⟩
                    replace H : (if 0 ≤ (ji15) then (vinculumref44_Total.j2 k2 l0 l1 a2 a3 x10_2 x11_2 (rd l1 (ji15)) a2) else (none)) = some (r1, r2) := by first | (rw [hji15] at H; exact H) | (simp only [hji15] at H ⊢; exact H)
                    (try rw [hji15] at c14b0)
                    have hji15w : (IntKind.i64.wrap (x11_2 + 1)) = ji15 := (i64_w _).trans hji15
                    by_cases c16 : 0 ≤ (ji15)
                    · rw [if_pos c16] at H
                      have c16b0 : decide (0 ≤ (ji15)) = true := decide_eq_true c16
                      clear c16
                      have H' := Aside0.mk H
                      clear H
                      have p179 : 0 ≤ ((ji15) : Int) := of_decide_eq_true (by first | (with_reducible assumption) | assumption)
                      have q179 : (ji15) < (l1.length : Int) := of_decide_eq_true (by first | (with_reducible assumption) | assumption)
                      obtain ⟨ad179, e179, hx179_0⟩ := Kd.at_int HR1.out (ji15) p179 q179
                      cases e179
                      replace hx179_0 := (HB.out.cell (World.block_lt_of_cell? w _ hx179_0)).trans hx179_0
                      replace p179 := eq_true p179
                      replace q179 := eq_true q179
                      go_wp2
                      go_meet
                      case rel => exact ⟨_, (rd l1 (ji15)), (by first | rfl | (simp; done) | (simp only [← hji15] <;> (first | rfl | simp)) | (simp [*]; done)), H', ⟨by have := HJ4.out; have := HK2.out; first | omega | exact Nat.le_refl _⟩, ⟨by repeat (first | (with_reducible first | exact HB.out | apply below_alloc | apply pw_below_drewN | apply below_drew1) | exact HB.out)⟩⟩
                    · rw [if_neg c16] at H
                      exact absurd H (by simp)
                  · rw [if_neg c14] at H
                    have c14b0 : decide ((wrap64 (x11_2 + 1)) < (l1.length : Int)) = false := decide_eq_false c14
                    clear c14
                    (first | rw [c14b0] | (simp only [i64_w, i32_w]; rw [c14b0]) | skip)
                    have H' := Aside0.mk H
                    clear H
                    go_wp2
                    go_meet
                    case rel => exact ⟨_, ((l0.length : Int)), (by first | rfl | (simp; done) | (simp [*]; done)), H', ⟨by have := HJ4.out; have := HK2.out; first | omega | exact Nat.le_refl _⟩, ⟨by repeat (first | (with_reducible first | exact HB.out | apply below_alloc | apply pw_below_drewN | apply below_drew1) | exact HB.out)⟩⟩
                case rest =>
                  clear HC13
                  try clear c1
                  try clear p1
                  try clear q1
                  try clear hx1
                  try clear c2
                  try clear p2
                  try clear p6
                  try clear c7
                  try clear c9
                  try clear c11
                  try clear c12
                  try clear c12b0
                  try clear c14
                  try clear c14b0
                  try clear c15
                  try clear c16
                  try clear c16b0
                  try clear hx179_0
                  try clear p179
                  try clear p2
                  try clear q179
                  obtain ⟨kq, x12_12, rfl, HA, HJ12, HB⟩ := hcut
                  cases kq with
                  | zero => exact absurd HA.out (by simp [vinculumref44_Total.j2])
                  | succ kj12 =>
                    have H := HA.out
                    clear HA
                    simp only [vinculumref44_Total.j2] at H
                    by_cases c17 : x11_2 > 0
                    · rw [if_pos c17] at H
                      have c17b0 : decide (0 < x11_2) = true := decide_eq_true c17
                      clear c17
                      by_cases c18 : 0 ≤ x11_2
                      · rw [if_pos c18] at H
                        have c18b0 : decide (0 ≤ x11_2) = true := decide_eq_true c18
                        clear c18
                        by_cases c19 : x11_2 < (l1.length : Int)
                        · rw [if_pos c19] at H
                          have c19b0 : decide (x11_2 < (l1.length : Int)) = true := decide_eq_true c19
                          clear c19
                          replace H := Option.bind_eq_some_iff.mp H
                          obtain ⟨⟨t181, t182⟩, A200, H⟩ := H
                          replace H : (if t182 = 0 then (vinculumref44_Total.l0 kj12 l0 l1 a2 a3 (wrap64 (x10_2 + t181)) (wrap64 (x11_2 + 1))) else (some (0, 6))) = some (r1, r2) := H
                          have A20 := Aside0.mk A200
                          clear A200
                          by_cases c21 : t182 = 0
                          · rw [if_pos c21] at H
                            have c21b0 : (t182 == 0) = true := beq_iff_eq.mpr c21
                            have c21b1 : (t182 != 0) = false := bne_eq_false_iff_eq.mpr c21
                            clear c21
                            have H' := Aside0.mk H
                            clear H
                            have p180 : 0 ≤ (x11_2 : Int) := of_decide_eq_true (by first | (with_reducible assumption) | assumption)
                            have q180 : x11_2 < (l1.length : Int) := of_decide_eq_true (by first | (with_reducible assumption) | assumption)
                            obtain ⟨ad180, e180, hx180_0⟩ := Kd.at_int HR1.out x11_2 p180 q180
                            cases e180
                            replace hx180_0 := (HB.out.cell (World.block_lt_of_cell? w _ hx180_0)).trans hx180_0
                            replace p180 := eq_true p180
                            replace q180 := eq_true q180
                            go_wp2_with (first | ((with_reducible refine gate_callee (f := 13) rfl ?_); refine goesL_ (some 64) rfl rfl Try.func13 (by kernel_rfl) rfl #[.slice A0 l0.length c0, .int .i64 (rd l1 x11_2), .int .i64 x12_12, .int .i64 (wrap64 (a2 - a3))] rfl (by (try simp only [List.map_toArray, List.map_cons, List.map_nil]); first | done | rfl | (simp only [List.length_drop, List.length_take]; rfl)) ?_; (with_reducible refine (vinculumref44_Line.calls kj12 _ _ l0 (rd l1 x11_2) x12_12 (wrap64 (a2 - a3)) t181 t182 _ ?side1 ?side2 A20.out).mono ?_); (case side1 => repeat (first | exact (Kd.C_below HR0.out HB.out) | (with_reducible refine Kd.C_alloc ?_ _) | (with_reducible refine Kd.C_drewN ?_ _) | (with_reducible refine Kd.C_drew ?_))); (case side2 => exact HC0.out); rintro e w22 ⟨rfl, hb⟩; refine ⟨_, rfl, ?_⟩; have n0_ := Aside0.mk (below_step (by repeat (first | (with_reducible first | exact HB.out | apply below_alloc | apply pw_below_drewN | apply below_drew1) | exact HB.out)) hb); clear HB; have HB := n0_; clear n0_; (try clear hb); (try clear hb2); (try clear hk); (try clear hi)))
                            go_roundg kj12
                            case measure => have := HJ4.out; have := HK2.out; have := HJ12.out; omega
                            case rel => exact ⟨(wrap64 (x10_2 + t181)), (wrap64 (x11_2 + 1)), (by first | rfl | (simp; done) | (simp [*]; done)), (by first | rfl | (simp; done) | (simp [*]; done)), H', ⟨by have := HJ4.out; have := HK2.out; have := HJ12.out; omega⟩, ⟨by repeat (first | (with_reducible first | exact HB.out | apply below_alloc | apply pw_below_drewN | apply below_drew1) | exact HB.out)⟩⟩
                          · rw [if_neg c21] at H
                            have c21b0 : (t182 == 0) = false := beq_eq_false_iff_ne.mpr c21
                            have c21b1 : (t182 != 0) = true := bne_iff_ne.mpr c21
                            simp only [Option.some.injEq, Prod.mk.injEq] at H
                            obtain ⟨rfl, rfl⟩ := H
                            have p180 : 0 ≤ (x11_2 : Int) := of_decide_eq_true (by first | (with_reducible assumption) | assumption)
                            have q180 : x11_2 < (l1.length : Int) := of_decide_eq_true (by first | (with_reducible assumption) | assumption)
                            obtain ⟨ad180, e180, hx180_0⟩ := Kd.at_int HR1.out x11_2 p180 q180
                            cases e180
                            replace hx180_0 := (HB.out.cell (World.block_lt_of_cell? w _ hx180_0)).trans hx180_0
                            replace p180 := eq_true p180
                            replace q180 := eq_true q180
                            go_wp2_with (first | ((with_reducible refine gate_callee (f := 13) rfl ?_); refine goesL_ (some 64) rfl rfl Try.func13 (by kernel_rfl) rfl #[.slice A0 l0.length c0, .int .i64 (rd l1 x11_2), .int .i64 x12_12, .int .i64 (wrap64 (a2 - a3))] rfl (by (try simp only [List.map_toArray, List.map_cons, List.map_nil]); first | done | rfl | (simp only [List.length_drop, List.length_take]; rfl)) ?_; (with_reducible refine (vinculumref44_Line.calls kj12 _ _ l0 (rd l1 x11_2) x12_12 (wrap64 (a2 - a3)) t181 t182 _ ?side1 ?side2 A20.out).mono ?_); (case side1 => repeat (first | exact (Kd.C_below HR0.out HB.out) | (with_reducible refine Kd.C_alloc ?_ _) | (with_reducible refine Kd.C_drewN ?_ _) | (with_reducible refine Kd.C_drew ?_))); (case side2 => exact HC0.out); rintro e w23 ⟨rfl, hb⟩; refine ⟨_, rfl, ?_⟩; have n0_ := Aside0.mk (below_step (by repeat (first | (with_reducible first | exact HB.out | apply below_alloc | apply pw_below_drewN | apply below_drew1) | exact HB.out)) hb); clear HB; have HB := n0_; clear n0_; (try clear hb); (try clear hb2); (try clear hk); (try clear hi)))
                            go_ret2
                            exact ⟨by first | rfl | (simp [errW_none, errW_some] <;> rfl) | (simp [*, errW_none, errW_some] <;> rfl), by repeat (first | (with_reducible first | exact HB.out | apply below_alloc | apply pw_below_drewN | apply below_drew1) | exact HB.out)⟩
                        · rw [if_neg c19] at H
                          exact absurd H (by simp)
                      · rw [if_neg c18] at H
                        exact absurd H (by simp)
                    · rw [if_neg c17] at H
                      have c17b0 : decide (0 < x11_2) = false := decide_eq_false c17
                      clear c17
                      by_cases c24 : 0 ≤ x11_2
                      · rw [if_pos c24] at H
                        have c24b0 : decide (0 ≤ x11_2) = true := decide_eq_true c24
                        clear c24
                        by_cases c25 : x11_2 < (l1.length : Int)
                        · rw [if_pos c25] at H
                          have c25b0 : decide (x11_2 < (l1.length : Int)) = true := decide_eq_true c25
                          clear c25
                          replace H := Option.bind_eq_some_iff.mp H
                          obtain ⟨⟨t184, t185⟩, A260, H⟩ := H
                          replace H : (if t185 = 0 then (vinculumref44_Total.l0 kj12 l0 l1 a2 a3 (wrap64 (x10_2 + t184)) (wrap64 (x11_2 + 1))) else (some (0, 6))) = some (r1, r2) := H
                          have A26 := Aside0.mk A260
                          clear A260
                          by_cases c27 : t185 = 0
                          · rw [if_pos c27] at H
                            have c27b0 : (t185 == 0) = true := beq_iff_eq.mpr c27
                            have c27b1 : (t185 != 0) = false := bne_eq_false_iff_eq.mpr c27
                            clear c27
                            have H' := Aside0.mk H
                            clear H
                            have p183 : 0 ≤ (x11_2 : Int) := of_decide_eq_true (by first | (with_reducible assumption) | assumption)
                            have q183 : x11_2 < (l1.length : Int) := of_decide_eq_true (by first | (with_reducible assumption) | assumption)
                            obtain ⟨ad183, e183, hx183_0⟩ := Kd.at_int HR1.out x11_2 p183 q183
                            cases e183
                            replace hx183_0 := (HB.out.cell (World.block_lt_of_cell? w _ hx183_0)).trans hx183_0
                            replace p183 := eq_true p183
                            replace q183 := eq_true q183
                            go_wp2_with (first | ((with_reducible refine gate_callee (f := 13) rfl ?_); refine goesL_ (some 64) rfl rfl Try.func13 (by kernel_rfl) rfl #[.slice A0 l0.length c0, .int .i64 (rd l1 x11_2), .int .i64 x12_12, .int .i64 a2] rfl (by (try simp only [List.map_toArray, List.map_cons, List.map_nil]); first | done | rfl | (simp only [List.length_drop, List.length_take]; rfl)) ?_; (with_reducible refine (vinculumref44_Line.calls kj12 _ _ l0 (rd l1 x11_2) x12_12 a2 t184 t185 _ ?side1 ?side2 A26.out).mono ?_); (case side1 => repeat (first | exact (Kd.C_below HR0.out HB.out) | (with_reducible refine Kd.C_alloc ?_ _) | (with_reducible refine Kd.C_drewN ?_ _) | (with_reducible refine Kd.C_drew ?_))); (case side2 => exact HC0.out); rintro e w28 ⟨rfl, hb⟩; refine ⟨_, rfl, ?_⟩; have n0_ := Aside0.mk (below_step (by repeat (first | (with_reducible first | exact HB.out | apply below_alloc | apply pw_below_drewN | apply below_drew1) | exact HB.out)) hb); clear HB; have HB := n0_; clear n0_; (try clear hb); (try clear hb2); (try clear hk); (try clear hi)))
                            go_roundg kj12
                            case measure => have := HJ4.out; have := HK2.out; have := HJ12.out; omega
                            case rel => exact ⟨(wrap64 (x10_2 + t184)), (wrap64 (x11_2 + 1)), (by first | rfl | (simp; done) | (simp [*]; done)), (by first | rfl | (simp; done) | (simp [*]; done)), H', ⟨by have := HJ4.out; have := HK2.out; have := HJ12.out; omega⟩, ⟨by repeat (first | (with_reducible first | exact HB.out | apply below_alloc | apply pw_below_drewN | apply below_drew1) | exact HB.out)⟩⟩
                          · rw [if_neg c27] at H
                            have c27b0 : (t185 == 0) = false := beq_eq_false_iff_ne.mpr c27
                            have c27b1 : (t185 != 0) = true := bne_iff_ne.mpr c27
                            simp only [Option.some.injEq, Prod.mk.injEq] at H
                            obtain ⟨rfl, rfl⟩ := H
                            have p183 : 0 ≤ (x11_2 : Int) := of_decide_eq_true (by first | (with_reducible assumption) | assumption)
                            have q183 : x11_2 < (l1.length : Int) := of_decide_eq_true (by first | (with_reducible assumption) | assumption)
                            obtain ⟨ad183, e183, hx183_0⟩ := Kd.at_int HR1.out x11_2 p183 q183
                            cases e183
                            replace hx183_0 := (HB.out.cell (World.block_lt_of_cell? w _ hx183_0)).trans hx183_0
                            replace p183 := eq_true p183
                            replace q183 := eq_true q183
                            go_wp2_with (first | ((with_reducible refine gate_callee (f := 13) rfl ?_); refine goesL_ (some 64) rfl rfl Try.func13 (by kernel_rfl) rfl #[.slice A0 l0.length c0, .int .i64 (rd l1 x11_2), .int .i64 x12_12, .int .i64 a2] rfl (by (try simp only [List.map_toArray, List.map_cons, List.map_nil]); first | done | rfl | (simp only [List.length_drop, List.length_take]; rfl)) ?_; (with_reducible refine (vinculumref44_Line.calls kj12 _ _ l0 (rd l1 x11_2) x12_12 a2 t184 t185 _ ?side1 ?side2 A26.out).mono ?_); (case side1 => repeat (first | exact (Kd.C_below HR0.out HB.out) | (with_reducible refine Kd.C_alloc ?_ _) | (with_reducible refine Kd.C_drewN ?_ _) | (with_reducible refine Kd.C_drew ?_))); (case side2 => exact HC0.out); rintro e w29 ⟨rfl, hb⟩; refine ⟨_, rfl, ?_⟩; have n0_ := Aside0.mk (below_step (by repeat (first | (with_reducible first | exact HB.out | apply below_alloc | apply pw_below_drewN | apply below_drew1) | exact HB.out)) hb); clear HB; have HB := n0_; clear n0_; (try clear hb); (try clear hb2); (try clear hk); (try clear hi)))
                            go_ret2
                            exact ⟨by first | rfl | (simp [errW_none, errW_some] <;> rfl) | (simp [*, errW_none, errW_some] <;> rfl), by repeat (first | (with_reducible first | exact HB.out | apply below_alloc | apply pw_below_drewN | apply below_drew1) | exact HB.out)⟩
                        · rw [if_neg c25] at H
                          exact absurd H (by simp)
                      · rw [if_neg c24] at H
                        exact absurd H (by simp)
              · rw [if_neg c12] at H
                have c12b0 : decide (x11_2 < (l1.length : Int)) = false := decide_eq_false c12
                clear c12
                simp only [Option.some.injEq, Prod.mk.injEq] at H
                obtain ⟨rfl, rfl⟩ := H
                go_wp2
                go_ret2
                exact ⟨by first | rfl | (simp [errW_none, errW_some] <;> rfl) | (simp [*, errW_none, errW_some] <;> rfl), by repeat (first | (with_reducible first | exact HB.out | apply below_alloc | apply pw_below_drewN | apply below_drew1) | exact HB.out)⟩
        · replace c11 := Bool.eq_false_iff.mpr c11
          subst c11
          have H1 : (some (0, 4)) = some (r1, r2) := by rw [if_neg (show ¬ (false = true) by decide)] at H; exact H
          clear H
          have H := H1
          clear H1
          simp only [Option.some.injEq, Prod.mk.injEq] at H
          obtain ⟨rfl, rfl⟩ := H
          go_wp2_with (first | ((with_reducible refine gate_callee (f := 26) rfl ?_); refine goesL_ (some 30) rfl rfl Try.func26 (by kernel_rfl) rfl #[.int .i64 (l0.length : Int), .slice A1 l1.length c1] rfl (by (try simp only [List.map_toArray, List.map_cons, List.map_nil]); first | done | rfl | (simp only [List.length_drop, List.length_take]; rfl)) ?_; (with_reducible refine (vinculumref44_Starts.calls kj4 (l0.length : Int) _ _ l1 false _ ?side1 ?side2 A10.out).mono ?_); (case side1 => repeat (first | exact (Kd.C_below HR1.out HB.out) | (with_reducible refine Kd.C_alloc ?_ _) | (with_reducible refine Kd.C_drewN ?_ _) | (with_reducible refine Kd.C_drew ?_))); (case side2 => exact HC1.out); rintro e w' ⟨rfl, ⟨nd, rfl⟩⟩; refine ⟨_, rfl, ?_⟩))
          go_ret2
          exact ⟨by first | rfl | (simp [errW_none, errW_some] <;> rfl) | (simp [*, errW_none, errW_some] <;> rfl), by repeat (first | (with_reducible first | exact HB.out | apply below_alloc | apply pw_below_drewN | apply below_drew1) | exact HB.out)⟩

end Go.Proofs.Ytbcilhnldnpehaa.PD
