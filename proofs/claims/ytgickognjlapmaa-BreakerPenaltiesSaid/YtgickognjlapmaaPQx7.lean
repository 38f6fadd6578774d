-- Written by a program of this place (wip/gen.py) with the kit's print; not trusted: Lean checks it.
import Derived.Test.YtgickognjlapmaaPQx0
import Derived.Test.YtgickognjlapmaaPQx4
import Derived.Test.YtgickognjlapmaaPQx5
namespace Go.Proofs.Ytgickognjlapmaa.PQ
open Go.RowKit Go.Proofs.YtgickognjlapmaaW.PrintWords Go.Proofs.YtgickognjlapmaaW.PrintLast Go.Proofs.YtgickognjlapmaaW.PrintMore
attribute [local go_sem] max2_int min2_int max_two min_two max_three min_three max_four min_four   -- for this text's walks alone
set_option linter.unusedVariables false
set_option linter.unusedSimpArgs false

/-! ### vinculumlaw45_BreakerPenalties: function 8 -/
mutual
def vinculumlaw45_BreakerPenalties.l0 : Nat → List (S34) → Int → List (S34) → Int → Int → Int → Int → Option (Bool)
  | 0, _, _, _, _, _, _, _ => none
  | k + 1, x0, x2, x7, x8, x158000, x158001, x158002 => if x8 < (x7.length : Int) then (if 0 ≤ x8 then (vinculumlaw45_BreakerPenalties.l0 k x0 x2 (x7.set (x8 : Int).toNat (⟨(rd_T34 x7 x8).f0, (rd_T34 x7 x8).f1, wrap64 (((rd_T34 x7 x8).f2) + (wrap64 (x2)))⟩ : S34)) (wrap64 (x8 + 1)) x158000 x158001 x158002) else (none)) else ((vinculumlaw45_fits.f k x0 x158000 x158001 x158002).bind fun t167 => (if t167 = true then ((vinculumlaw45_fits.f k x7 x158000 x158001 x158002).bind fun t168 => (vinculumlaw45_BreakerPenalties.j1 k x0 x2 x7 (!t168) x158000 x158001 x158002)) else (vinculumlaw45_BreakerPenalties.j1 k x0 x2 x7 true x158000 x158001 x158002)))
def vinculumlaw45_BreakerPenalties.j1 : Nat → List (S34) → Int → List (S34) → Bool → Int → Int → Int → Option (Bool)
  | 0, _, _, _, _, _, _, _ => none
  | k + 1, x0, x2, x7, x48, x158000, x158001, x158002 => if x48 = true then (some true) else ((breaker_Lines.f k x0 x158000 x158001 x158002).bind fun bt169 => ((breaker_Lines.f k x7 x158000 x158001 x158002).bind fun bt174 => (if bt169.2.2 = 0 then (if bt174.2.2 = 0 then ((vinculumlaw45_same.f k bt169.1 bt174.1).bind fun t179 => (if t179 = true then (some (bt174.2.1 == (wrap64 (bt169.2.1 + (wrap64 ((wrap64 (x2)) * (wrap64 (x158002 - 1)))))))) else (none))) else (none)) else (some (bt169.2.2 == bt174.2.2)))))
end
def vinculumlaw45_BreakerPenalties.f (k : Nat) (l0 : List (S34)) (a1_0 : Int) (a1_1 : Int) (a1_2 : Int) (a2 : Int) : Option (Bool) := (vinculumlaw45_awake.f k).bind fun t158 => (if t158 = true then (if (l0.length : Int) > 20 then (some true) else ((some (([] : List (S34)) : List (S34))).bind fun y159 => (if y159.length + l0.length < 5864062014805 then (vinculumlaw45_BreakerPenalties.l0 k l0 a2 (y159 ++ l0) 0 a1_0 a1_1 a1_2) else (none)))) else (none))
theorem vinculumlaw45_BreakerPenalties.mono_l : ∀ k, (∀ y0 y1 y2 y3 y4 y5 y6, LeO (vinculumlaw45_BreakerPenalties.l0 k y0 y1 y2 y3 y4 y5 y6) (vinculumlaw45_BreakerPenalties.l0 (k + 1) y0 y1 y2 y3 y4 y5 y6)) ∧ (∀ y0 y1 y2 y3 y4 y5 y6, LeO (vinculumlaw45_BreakerPenalties.j1 k y0 y1 y2 y3 y4 y5 y6) (vinculumlaw45_BreakerPenalties.j1 (k + 1) y0 y1 y2 y3 y4 y5 y6))
  | 0 => ⟨fun _ _ _ _ _ _ _ r h => by simp [vinculumlaw45_BreakerPenalties.l0] at h, fun _ _ _ _ _ _ _ r h => by simp [vinculumlaw45_BreakerPenalties.j1] at h⟩
  | k + 1 => by
    obtain ⟨ih0, ih1⟩ := vinculumlaw45_BreakerPenalties.mono_l k
    refine ⟨?_, ?_⟩
    · intro y0 y1 y2 y3 y4 y5 y6
      unfold vinculumlaw45_BreakerPenalties.l0
      repeat' first
      | (with_reducible exact ih0 _ _ _ _ _ _ _)
      | (with_reducible exact ih1 _ _ _ _ _ _ _)
      | (with_reducible exact breaker_Lines.mono _ _ _ _ _)
      | (with_reducible exact vinculumlaw45_awake.mono _)
      | (with_reducible exact vinculumlaw45_fits.mono _ _ _ _ _)
      | (with_reducible exact vinculumlaw45_same.mono _ _ _)
      | (with_reducible exact LeO.refl _)
      | (with_reducible exact LeO.none _)
      | (with_reducible refine LeO.ite ?_ ?_)
      | (with_reducible refine LeO.bind ?_ (fun _ => ?_))
      | exact ih0 _ _ _ _ _ _ _
      | exact ih1 _ _ _ _ _ _ _
      | exact breaker_Lines.mono _ _ _ _ _
      | exact vinculumlaw45_awake.mono _
      | exact vinculumlaw45_fits.mono _ _ _ _ _
      | exact vinculumlaw45_same.mono _ _ _
      | exact LeO.none _
      | refine LeO.ite ?_ ?_
      | refine LeO.bind ?_ (fun _ => ?_)
    · intro y0 y1 y2 y3 y4 y5 y6
      unfold vinculumlaw45_BreakerPenalties.j1
      repeat' first
      | (with_reducible exact ih0 _ _ _ _ _ _ _)
      | (with_reducible exact ih1 _ _ _ _ _ _ _)
      | (with_reducible exact breaker_Lines.mono _ _ _ _ _)
      | (with_reducible exact vinculumlaw45_awake.mono _)
      | (with_reducible exact vinculumlaw45_fits.mono _ _ _ _ _)
      | (with_reducible exact vinculumlaw45_same.mono _ _ _)
      | (with_reducible exact LeO.refl _)
      | (with_reducible exact LeO.none _)
      | (with_reducible refine LeO.ite ?_ ?_)
      | (with_reducible refine LeO.bind ?_ (fun _ => ?_))
      | exact ih0 _ _ _ _ _ _ _
      | exact ih1 _ _ _ _ _ _ _
      | exact breaker_Lines.mono _ _ _ _ _
      | exact vinculumlaw45_awake.mono _
      | exact vinculumlaw45_fits.mono _ _ _ _ _
      | exact vinculumlaw45_same.mono _ _ _
      | exact LeO.none _
      | refine LeO.ite ?_ ?_
      | refine LeO.bind ?_ (fun _ => ?_)
theorem vinculumlaw45_BreakerPenalties.mono : ∀ a0 a1 a2 a3 a4 k, LeO (vinculumlaw45_BreakerPenalties.f k a0 a1 a2 a3 a4) (vinculumlaw45_BreakerPenalties.f (k + 1) a0 a1 a2 a3 a4) := by
  intro a0 a1 a2 a3 a4 k
  obtain ⟨ih0, ih1⟩ := vinculumlaw45_BreakerPenalties.mono_l k
  unfold vinculumlaw45_BreakerPenalties.f
  repeat' first
      | (with_reducible exact ih0 _ _ _ _ _ _ _)
      | (with_reducible exact ih1 _ _ _ _ _ _ _)
      | (with_reducible exact breaker_Lines.mono _ _ _ _ _)
      | (with_reducible exact vinculumlaw45_awake.mono _)
      | (with_reducible exact vinculumlaw45_fits.mono _ _ _ _ _)
      | (with_reducible exact vinculumlaw45_same.mono _ _ _)
      | (with_reducible exact LeO.refl _)
      | (with_reducible exact LeO.none _)
      | (with_reducible refine LeO.ite ?_ ?_)
      | (with_reducible refine LeO.bind ?_ (fun _ => ?_))
      | exact ih0 _ _ _ _ _ _ _
      | exact ih1 _ _ _ _ _ _ _
      | exact breaker_Lines.mono _ _ _ _ _
      | exact vinculumlaw45_awake.mono _
      | exact vinculumlaw45_fits.mono _ _ _ _ _
      | exact vinculumlaw45_same.mono _ _ _
      | exact LeO.none _
      | refine LeO.ite ?_ ?_
      | refine LeO.bind ?_ (fun _ => ?_)
set_option maxHeartbeats 8000000 in
set_option maxRecDepth 100000 in
theorem vinculumlaw45_BreakerPenalties.calls (k : Nat) (A0 : Option Addr) (c0 : Nat) (l0 : List (S34)) (a1_0 : Int) (a1_1 : Int) (a1_2 : Int) (a2 : Int) (r : Bool) (w : World) (hr0 : Kd.C k34 w A0 l0.length l0) (hc0 : l0.length ≤ c0) (h : vinculumlaw45_BreakerPenalties.f k l0 a1_0 a1_1 a1_2 a2 = some r) :
    Calls Try.prog 8 #[.slice A0 l0.length c0, .agg #[.int .i64 a1_0, .int .i64 a1_1, .int .i64 a1_2], .int .i16 a2] w fun e w' => e = .returned (.bool r) ∧ Below w.heap.size w w' := by
  have hu24 := Try.underlying24
  have HR0 := Aside0.mk hr0
  have HC0 := Aside0.mk hc0
  clear hr0 hc0
  have HB := Aside0.mk (Below.refl w.heap.size w)
  have H : ((vinculumlaw45_awake.f k).bind fun t158 => (if t158 = true then (if (l0.length : Int) > 20 then (some true) else ((some (([] : List (S34)) : List (S34))).bind fun y159 => (if y159.length + l0.length < 5864062014805 then (vinculumlaw45_BreakerPenalties.l0 k l0 a2 (y159 ++ l0) 0 a1_0 a1_1 a1_2) else (none)))) else (none))) = some r := h
  clear h
  replace H := Option.bind_eq_some_iff.mp H
  obtain ⟨t158, A40, H⟩ := H
  replace H : (if t158 = true then (if (l0.length : Int) > 20 then (some true) else ((some (([] : List (S34)) : List (S34))).bind fun y159 => (if y159.length + l0.length < 5864062014805 then (vinculumlaw45_BreakerPenalties.l0 k l0 a2 (y159 ++ l0) 0 a1_0 a1_1 a1_2) else (none)))) else (none)) = some r := H
  have A4 := Aside0.mk A40
  clear A40
  by_cases c5 : t158 = true
  · subst c5
    have H1 : (if (l0.length : Int) > 20 then (some true) else ((some (([] : List (S34)) : List (S34))).bind fun y159 => (if y159.length + l0.length < 5864062014805 then (vinculumlaw45_BreakerPenalties.l0 k l0 a2 (y159 ++ l0) 0 a1_0 a1_1 a1_2) else (none)))) = some r := by rw [if_pos rfl] at H; exact H
    clear H
    have H := H1
    clear H1
    by_cases c6 : (l0.length : Int) > 20
    · rw [if_pos c6] at H
      have c6b0 : decide (20 < (l0.length : Int)) = true := decide_eq_true c6
      have c6b1 : decide (20 < l0.length) = true := decide_eq_true (by omega)
      clear c6
      obtain rfl := Option.some.inj H
      go_enter Try.func8, Try.ntmps8
      go_wp2_with (first | ((with_reducible refine gate_dst (N := 4) rfl ?_); refine box_event ?hg (N := 4) ?hd (cs := #[.int .i64 a1_0, .int .i64 a1_1, .int .i64 a1_2]) (t := 24) ?hr ?_; (case hd => rfl); (case hg => rfl); (case hr => first | (go_simp; done) | (go_simp; rfl)); intro gb157 hg w7 hbox hb; have n0_ := Aside0.mk (below_step (by repeat (first | (with_reducible first | exact HB.out | apply below_alloc | apply pw_below_drewN | apply below_drew1) | exact HB.out)) hb); have n1_ := Aside0.mk (hbox); have n2_ := Aside0.mk ((by rw [hg]; exact (below_size (by repeat (first | (with_reducible first | exact HB.out | apply below_alloc | apply pw_below_drewN | apply below_drew1) | exact HB.out))) : w.heap.size ≤ gb157)); have n3_ := Aside0.mk ((by rw [hg]; exact (below_size (by repeat (first | (with_reducible first | exact HB.out | apply below_alloc | apply pw_below_drewN | apply below_drew1) | exact HB.out))) : w.heap.size ≤ gb157)); clear HB; have HB := n0_; have BK157 := n1_; have GW157 := n2_; have GE157 := n3_; clear n0_ n1_ n2_ n3_; clear hb hbox hg) | ((with_reducible refine gate_callee (f := 10) rfl ?_); refine goesL_ (some 15) rfl rfl Try.func10 (by kernel_rfl) rfl #[] rfl (by (try simp only [List.map_toArray, List.map_cons, List.map_nil]); first | done | rfl | (simp only [List.length_drop, List.length_take]; rfl)) ?_; (with_reducible refine (vinculumlaw45_awake.calls k  true _ A4.out).mono ?_); rintro e w8 ⟨rfl, hb⟩; refine ⟨_, rfl, ?_⟩; have n0_ := Aside0.mk (blk_below (g := gb157) (o := .cells #[.int .i64 a1_0, .int .i64 a1_1, .int .i64 a1_2] 24 (0, 0)) (by (with_reducible repeat (first | refine blk_drewN ?_ _ | refine blk_drew ?_ | refine blk_alloc ?_ _)); exact BK157.out) hb); have n1_ := Aside0.mk (below_step (by repeat (first | (with_reducible first | exact HB.out | apply below_alloc | apply pw_below_drewN | apply below_drew1 | refine below_set ?_ GE157.out) | exact HB.out)) hb); clear BK157; clear HB; have BK157 := n0_; have HB := n1_; clear n0_ n1_; (try clear hb); (try clear hb2); (try clear hk); (try clear hi)))
      go_ret
      exact ⟨by first | rfl | (simp [errW_none, errW_some] <;> rfl) | (simp [*, errW_none, errW_some] <;> rfl), by repeat (first | (with_reducible first | exact HB.out | apply below_alloc | apply pw_below_drewN | apply below_drew1 | refine below_set ?_ GE157.out) | exact HB.out)⟩
    · rw [if_neg c6] at H
      have c6b0 : decide (20 < (l0.length : Int)) = false := decide_eq_false c6
      have c6b1 : decide (20 < l0.length) = false := decide_eq_false (by omega)
      clear c6
      obtain ⟨y159, hy159⟩ : ∃ y_ : List (S34), y_ = (([] : List (S34))) := ⟨_, rfl⟩
      replace H : (if y159.length + l0.length < 5864062014805 then (vinculumlaw45_BreakerPenalties.l0 k l0 a2 (y159 ++ l0) 0 a1_0 a1_1 a1_2) else (none)) = some r := by first | (rw [hy159]; with_reducible exact H) | (have H2_ := (Option.bind_some _ _).symm.trans H; rw [hy159]; with_reducible exact H2_) | (have H2_ := (Option.bind_some _ _).symm.trans H; with_reducible exact H2_) | with_reducible exact H | (rw [hy159]; exact H) | exact H
      have Ny159 := Aside0.mk hy159
      clear hy159
      by_cases c9 : y159.length + l0.length < 5864062014805
      · rw [if_pos c9] at H
        have LMc9 := Aside0.mk c9
        clear c9
        obtain ⟨y162, hy162⟩ : ∃ y_ : List (S34), y_ = (y159 ++ l0) := ⟨_, rfl⟩
        replace H : (vinculumlaw45_BreakerPenalties.l0 k l0 a2 y162 0 a1_0 a1_1 a1_2) = some r := by first | (rw [hy162]; with_reducible exact H) | (have H2_ := (Option.bind_some _ _).symm.trans H; rw [hy162]; with_reducible exact H2_) | (have H2_ := (Option.bind_some _ _).symm.trans H; with_reducible exact H2_) | with_reducible exact H | (rw [hy162]; exact H) | exact H
        have Ny162 := Aside0.mk hy162
        clear hy162
        have H' := Aside0.mk H
        clear H
        go_enter Try.func8, Try.ntmps8
        go_wp2_with (first | ((with_reducible refine gate_dst (N := 4) rfl ?_); refine box_event ?hg (N := 4) ?hd (cs := #[.int .i64 a1_0, .int .i64 a1_1, .int .i64 a1_2]) (t := 24) ?hr ?_; (case hd => rfl); (case hg => rfl); (case hr => first | (go_simp; done) | (go_simp; rfl)); intro gb157 hg w10 hbox hb; have n0_ := Aside0.mk (below_step (by repeat (first | (with_reducible first | exact HB.out | apply below_alloc | apply pw_below_drewN | apply below_drew1) | exact HB.out)) hb); have n1_ := Aside0.mk (hbox); have n2_ := Aside0.mk ((by rw [hg]; exact (below_size (by repeat (first | (with_reducible first | exact HB.out | apply below_alloc | apply pw_below_drewN | apply below_drew1) | exact HB.out))) : w.heap.size ≤ gb157)); have n3_ := Aside0.mk ((by rw [hg]; exact (below_size (by repeat (first | (with_reducible first | exact HB.out | apply below_alloc | apply pw_below_drewN | apply below_drew1) | exact HB.out))) : w.heap.size ≤ gb157)); clear HB; have HB := n0_; have BK157 := n1_; have GW157 := n2_; have GE157 := n3_; clear n0_ n1_ n2_ n3_; clear hb hbox hg) | ((with_reducible refine gate_callee (f := 10) rfl ?_); refine goesL_ (some 15) rfl rfl Try.func10 (by kernel_rfl) rfl #[] rfl (by (try simp only [List.map_toArray, List.map_cons, List.map_nil]); first | done | rfl | (simp only [List.length_drop, List.length_take]; rfl)) ?_; (with_reducible refine (vinculumlaw45_awake.calls k  true _ A4.out).mono ?_); rintro e w11 ⟨rfl, hb⟩; refine ⟨_, rfl, ?_⟩; have n0_ := Aside0.mk (blk_below (g := gb157) (o := .cells #[.int .i64 a1_0, .int .i64 a1_1, .int .i64 a1_2] 24 (0, 0)) (by (with_reducible repeat (first | refine blk_drewN ?_ _ | refine blk_drew ?_ | refine blk_alloc ?_ _)); exact BK157.out) hb); have n1_ := Aside0.mk (below_step (by repeat (first | (with_reducible first | exact HB.out | apply below_alloc | apply pw_below_drewN | apply below_drew1 | refine below_set ?_ GE157.out) | exact HB.out)) hb); clear BK157; clear HB; have BK157 := n0_; have HB := n1_; clear n0_ n1_; (try clear hb); (try clear hb2); (try clear hk); (try clear hi)) | ((with_reducible refine gate_dst (N := 20) rfl ?_); refine Kd.R_lit k34 _ 34 ?hg (N := 20) ?hd (xs := ([] : List (S34))) (inner := []) (ok := fun _ => True) (okp := fun _ => True) ?hr ?hp (fun _ hk => hk) trivial (Below.refl _ _) (Nat.le_refl _) (by simp) ?_; (case hd => rfl); (case hg => rfl); (case hr => first | (go_simp; done) | (go_simp; rfl)); (case hp => exact (Reps.none _ _)); intro v160 w12 ho13 hb hg_ hnew_; clear hg_ hnew_; (first | rw [← Ny159.out] at ho13 | (simp only [Int.reduceToNat] at ho13; rw [← Ny159.out] at ho13)); have n0_ := Aside0.mk (Kd.R_lower ho13 (below_size (by repeat (first | (with_reducible first | exact HB.out | apply below_alloc | apply pw_below_drewN | apply below_drew1 | refine below_set ?_ GE157.out) | exact HB.out)))); have n1_ := Aside0.mk (blk_below (g := gb157) (o := .cells #[.int .i64 a1_0, .int .i64 a1_1, .int .i64 a1_2] 24 (0, 0)) (by (with_reducible repeat (first | refine blk_drewN ?_ _ | refine blk_drew ?_ | refine blk_alloc ?_ _)); exact BK157.out) hb); have n2_ := Aside0.mk (below_step (by repeat (first | (with_reducible first | exact HB.out | apply below_alloc | apply pw_below_drewN | apply below_drew1 | refine below_set ?_ GE157.out) | exact HB.out)) hb); clear BK157; clear HB; have HO161 := n0_; have BK157 := n1_; have HB := n2_; clear n0_ n1_ n2_; clear hb ho13) | ((with_reducible refine gate_builtin (b := .append) (xs := #[.tmp 20, .tmp 21]) rfl ?_); at_builtin; refine Kd.R_append_rows k34 (w0 := w) w.heap.size rfl (.tmp 20) (.tmp 21) 22 34 (.agg #[(.int .i64 0), (.int .i64 0), (.int .i64 0)]) 24 rfl Try.underlying22 info34 rfl (by decide) (by omega) v160 y159 l0 _ _ _ (fun _ => True) (fun _ => False) rfl rfl ?aO ?aR (fun _ _ h => h) (fun _ h => h.elim) ?aF ?aB ?aS ?aL ?_; (case aR => repeat (first | exact (Kd.C_below HR0.out HB.out) | (with_reducible refine Kd.C_alloc ?_ _) | (with_reducible refine Kd.C_drewN ?_ _) | (with_reducible refine Kd.C_drew ?_))); (case aB => exact (by repeat (first | (with_reducible first | exact HB.out | apply below_alloc | apply pw_below_drewN | apply below_drew1 | refine below_set ?_ GE157.out) | exact HB.out))); (case aF => exact (fun _ _ => trivial)); (case aO => exact (by (with_reducible repeat (first | apply Kd.R_alloc | apply Kd.R_drewN | apply Kd.R_drew)); exact HO161.out)); (case aS => exact (below_size (by repeat (first | (with_reducible first | exact HB.out | apply below_alloc | apply pw_below_drewN | apply below_drew1 | refine below_set ?_ GE157.out) | exact HB.out)))); (case aL => have := LMc9.out; omega); intro v163 w14 ho hb hg hat; rw [← Ny162.out] at ho; have n0_ := Aside0.mk (blk_grown (g := gb157) (o := .cells #[.int .i64 a1_0, .int .i64 a1_1, .int .i64 a1_2] 24 (0, 0)) (by (with_reducible repeat (first | refine blk_drewN ?_ _ | refine blk_drew ?_ | refine blk_alloc ?_ _)); exact BK157.out) hg (Kd.R_ne HO161.out BK157.out (by decide))); have n1_ := Aside0.mk (hb); have n2_ := Aside0.mk (ho); clear BK157; clear HB; clear HO161; have BK157 := n0_; have HB := n1_; have HO164 := n2_; clear n0_ n1_ n2_; clear ho hb hg hat))
        go_loopg [8] k (fun kq v8 w' => ∃ (x7_1 : List (S34)) (x8_1 : Int), v8 = .int .i64 x8_1 ∧ Aside0 (vinculumlaw45_BreakerPenalties.l0 kq l0 a2 x7_1 x8_1 a1_0 a1_1 a1_2 = some r) ∧ Aside0 (kq ≤ k) ∧ Aside0 (Kd.R k34 34 w' w.heap.size (fun _ => True) v163 x7_1) ∧ Aside0 (w'.heap[gb157]? = some (.cells #[.int .i64 a1_0, .int .i64 a1_1, .int .i64 a1_2] 24 (0, 0))) ∧ Aside0 (Below w.heap.size w w'))
        case atStart => exact ⟨(y162), (0), (by first | rfl | (simp; done) | (simp [*]; done) | (simp [ne_nil_bool]; done)), H', ⟨Nat.le_refl _⟩, ⟨by (with_reducible repeat (first | apply Kd.R_alloc | apply Kd.R_drewN | apply Kd.R_drew)); exact HO164.out⟩, ⟨by (with_reducible repeat (first | refine blk_drewN ?_ _ | refine blk_drew ?_ | refine blk_alloc ?_ _)); exact BK157.out⟩, ⟨by repeat (first | (with_reducible first | exact HB.out | apply below_alloc | apply pw_below_drewN | apply below_drew1 | refine below_set ?_ GE157.out) | exact HB.out)⟩⟩
        case round =>
          clear H'
          try clear c1
          try clear p2
          try clear c5
          try clear c6
          try clear c6b0
          try clear c6b1
          try clear c8
          try clear c9
          try clear c10
          obtain ⟨x7_1, x8_1, rfl, HA, HK1, HO_7, BK157, HB⟩ := hrel
          cases gk with
          | zero => exact absurd HA.out (by simp [vinculumlaw45_BreakerPenalties.l0])
          | succ k1 =>
            have H := HA.out
            clear HA
            simp only [vinculumlaw45_BreakerPenalties.l0] at H
            by_cases c15 : x8_1 < (x7_1.length : Int)
            · rw [if_pos c15] at H
              have c15b0 : decide (x8_1 < (x7_1.length : Int)) = true := decide_eq_true c15
              clear c15
              by_cases c16 : 0 ≤ x8_1
              · rw [if_pos c16] at H
                have c16b0 : decide (0 ≤ x8_1) = true := decide_eq_true c16
                clear c16
                obtain ⟨y166, hy166⟩ : ∃ y_ : List (S34), y_ = (x7_1.set (x8_1 : Int).toNat (⟨(rd_T34 x7_1 x8_1).f0, (rd_T34 x7_1 x8_1).f1, wrap64 (((rd_T34 x7_1 x8_1).f2) + (wrap64 (a2)))⟩ : S34)) := ⟨_, rfl⟩
                replace H : (vinculumlaw45_BreakerPenalties.l0 k1 l0 a2 y166 (wrap64 (x8_1 + 1)) a1_0 a1_1 a1_2) = some r := by first | (rw [hy166]; with_reducible exact H) | (have H2_ := (Option.bind_some _ _).symm.trans H; rw [hy166]; with_reducible exact H2_) | (have H2_ := (Option.bind_some _ _).symm.trans H; with_reducible exact H2_) | with_reducible exact H | (rw [hy166]; exact H) | exact H
                have Ny166 := Aside0.mk hy166
                clear hy166
                have H' := Aside0.mk H
                clear H
                obtain ⟨Ao18, co18, eo18⟩ := Kd.R_slice HO_7.out
                subst eo18
                have p165 : 0 ≤ (x8_1 : Int) := of_decide_eq_true (by first | (with_reducible assumption) | assumption)
                have q165 : x8_1 < (x7_1.length : Int) := of_decide_eq_true (by first | (with_reducible assumption) | assumption)
                obtain ⟨ad165, e165, hx165_0, hx165_1, hx165_2⟩ := at_T34 (Kd.R_reads' HO_7.out).2.2 x8_1 p165 q165
                cases e165
                replace p165 := eq_true p165
                replace q165 := eq_true q165
                have p17 : 0 ≤ (x8_1 : Int) := of_decide_eq_true (by first | (with_reducible assumption) | assumption)
                have q17 : (x8_1 : Int) < ((x7_1.length : Int) : Int) := of_decide_eq_true (by first | (with_reducible assumption) | assumption)
                obtain ⟨go17, co17, eo17, gb17, gl17, cl17, HG17⟩ := Kd.R_form HO_7.out (by omega)
                (first | cases eo17 | (injection eo17 with ea_ en_ ec_; (first | subst ea_ | (injection ea_ with ea_; subst ea_)); subst ec_; clear en_))
                have GB17 := Aside0.mk gb17
                have GG17 := Aside0.mk HG17
                clear gb17 gl17 HG17
                (first | simp only [add_plain] at hx165_0 | skip)
                (first | simp only [add_plain] at hx165_1 | skip)
                (first | simp only [add_plain] at hx165_2 | skip)
                obtain ⟨ce17, hcl17, hM17, hcc17, hfr17⟩ := Kd.R_elem HO_7.out z34 (x8_1 : Int) p17 q17
                obtain rfl := k34_openM hM17
                have hx17_0 : wr.cell? ⟨go17, (x8_1 : Int).toNat * 3, none⟩ = some (.int .i64 ((rd_T34 x7_1 x8_1).f0)) := hcc17 0 _ rfl
                have hx17_1 : wr.cell? ⟨go17, (x8_1 : Int).toNat * 3 + 1, none⟩ = some (.int .i64 ((rd_T34 x7_1 x8_1).f1)) := hcc17 1 _ rfl
                have hx17_2 : wr.cell? ⟨go17, (x8_1 : Int).toNat * 3 + 2, none⟩ = some (.int .i64 ((rd_T34 x7_1 x8_1).f2)) := hcc17 2 _ rfl
                have hf17_0 : wr.frozen? ⟨go17, (x8_1 : Int).toNat * 3, none⟩ = false := hfr17 0
                have hf17_1 : wr.frozen? ⟨go17, (x8_1 : Int).toNat * 3 + 1, none⟩ = false := hfr17 1
                have hf17_2 : wr.frozen? ⟨go17, (x8_1 : Int).toNat * 3 + 2, none⟩ = false := hfr17 2
                clear hcl17 hcc17 hfr17 hM17
                replace p17 := eq_true p17
                replace q17 := eq_true q17
                have HX19 := Aside0.mk (show Kd.R k34 34 wr w.heap.size (fun _ => True) (.slice (some ⟨go17, 0, none⟩) x7_1.length co18) x7_1 from (by (with_reducible repeat (first | apply Kd.R_alloc | apply Kd.R_drewN | apply Kd.R_drew)); exact HO_7.out))
                obtain ⟨ce19, hcl19, hM19, hcc19, hfr19⟩ := Kd.R_elem HX19.out z34 (x8_1 : Int) (of_decide_eq_true (by first | (with_reducible assumption) | assumption)) (by have h_ : (x8_1 : Int) < ((x7_1.length : Int) : Int) := of_decide_eq_true (by first | (with_reducible assumption) | assumption); first | exact h_ | (have e_ := (Kd.R_reads' HO_7.out).1; omega) | simpa using h_)
                obtain rfl := k34_openM hM19
                have HP19 := Kd.R_seg HX19.out (x8_1 : Int) (of_decide_eq_true (by first | (with_reducible assumption) | assumption)) (by have h_ : (x8_1 : Int) < ((x7_1.length : Int) : Int) := of_decide_eq_true (by first | (with_reducible assumption) | assumption); first | exact h_ | (have e_ := (Kd.R_reads' HO_7.out).1; omega) | simpa using h_) (seg := [.int .i64 (wrap64 (((rd_T34 x7_1 x8_1).f2) + (wrap64 (a2))))]) (j := 2) hcl19 hcc19 (show 3 ≤ 3 from by decide) (x' := (⟨(rd_T34 x7_1 x8_1).f0, (rd_T34 x7_1 x8_1).f1, wrap64 (((rd_T34 x7_1 x8_1).f2) + (wrap64 (a2)))⟩ : S34)) (k34_mkM _ _ _ (⟨(rd_T34 x7_1 x8_1).f0, (rd_T34 x7_1 x8_1).f1, wrap64 (((rd_T34 x7_1 x8_1).f2) + (wrap64 (a2)))⟩ : S34) ) (fun _ hk => hk)
                have hx19_2 := hcc19 2 _ rfl
                (try simp only [show (k34).sz = 3 from rfl, Nat.mul_one, Nat.add_zero] at hx19_2)
                have hf19_2 := hfr19 2
                (try simp only [show (k34).sz = 3 from rfl, Nat.mul_one, Nat.add_zero] at hf19_2)
                clear hcl19 hcc19 hfr19 hM19
                go_wp2_with (first | ((with_reducible refine gate_store (t := 3) (p := 38) rfl ?_); refine store_event (t := 3) (p := 38) (v := ?vo_w20) (w1 := (wr.setCell ⟨go17, (x8_1 : Int).toNat * 3 + 2, none⟩ (.int .i64 (wrap64 (((rd_T34 x7_1 x8_1).f2) + (wrap64 (a2))))))) ?hg ?ho ?hn ?hr ?_; (case ho => rfl); (case hg => rfl); (case hn => rfl); (case hr => first | (go_simp; done) | (go_simp; rfl)); intro w20 hw; have hg : wr.grownBy w20 (some go17) := (by rw [hw]; exact HP19.2); have hp_ : Kd.R k34 34 w20 w.heap.size (fun _ => True) (.slice (some ⟨go17, 0, none⟩) x7_1.length co18) y166 := (by rw [hw, Ny166.out]; exact HP19.1); clear HP19; have n0_ := Aside0.mk (hp_); have n1_ := Aside0.mk (blk_grown (g := gb157) (o := .cells #[.int .i64 a1_0, .int .i64 a1_1, .int .i64 a1_2] 24 (0, 0)) (by (with_reducible repeat (first | refine blk_drewN ?_ _ | refine blk_drew ?_ | refine blk_alloc ?_ _)); exact BK157.out) hg (Kd.R_ne HO_7.out BK157.out (by decide))); have n2_ := Aside0.mk ((by rw [hw]; exact below_set (HB.out) GB17.out : Below w.heap.size w w20)); clear HO_7; clear BK157; clear HB; have HO_7 := n0_; have BK157 := n1_; have HB := n2_; clear n0_ n1_ n2_; clear hg hw hp_))
                go_roundg k1
                case measure => have := HK1.out; omega
                case rel => exact ⟨(y166), (wrap64 (x8_1 + 1)), (by first | rfl | (simp; done) | (simp [*]; done) | (simp [ne_nil_bool]; done)), H', ⟨by have := HK1.out; omega⟩, ⟨by (with_reducible repeat (first | apply Kd.R_alloc | apply Kd.R_drewN | apply Kd.R_drew)); exact HO_7.out⟩, ⟨by (with_reducible repeat (first | refine blk_drewN ?_ _ | refine blk_drew ?_ | refine blk_alloc ?_ _)); exact BK157.out⟩, ⟨by repeat (first | (with_reducible first | exact HB.out | apply below_alloc | apply pw_below_drewN | apply below_drew1 | refine below_set ?_ GE157.out) | exact HB.out)⟩⟩
              · rw [if_neg c16] at H
                exact absurd H (by simp)
            · rw [if_neg c15] at H
              have c15b0 : decide (x8_1 < (x7_1.length : Int)) = false := decide_eq_false c15
              clear c15
              have HC21 := Aside0.mk H
              clear H
              obtain ⟨Ao22, co22, eo22⟩ := Kd.R_slice HO_7.out
              subst eo22
              go_upto_region 10 with (fail)
              go_cut [48] (fun v48 wc => ∃ (kq : Nat) (x48_20 : Bool), v48 = .bool x48_20 ∧ Aside0 (vinculumlaw45_BreakerPenalties.j1 kq l0 a2 x7_1 x48_20 a1_0 a1_1 a1_2 = some r) ∧ Aside0 (kq ≤ k1) ∧ Aside0 (Kd.R k34 34 wc w.heap.size (fun _ => True) (.slice Ao22 x7_1.length co22) x7_1) ∧ Aside0 (wc.heap[gb157]? = some (.cells #[.int .i64 a1_0, .int .i64 a1_1, .int .i64 a1_2] 24 (0, 0))) ∧ Aside0 (Below w.heap.size w wc))
              case first =>
                have H := HC21.out
                clear HC21
                replace H := Option.bind_eq_some_iff.mp H
                obtain ⟨t167, A230, H⟩ := H
                replace H : (if t167 = true then ((vinculumlaw45_fits.f k1 x7_1 a1_0 a1_1 a1_2).bind fun t168 => (vinculumlaw45_BreakerPenalties.j1 k1 l0 a2 x7_1 (!t168) a1_0 a1_1 a1_2)) else (vinculumlaw45_BreakerPenalties.j1 k1 l0 a2 x7_1 true a1_0 a1_1 a1_2)) = some r := H
                have A23 := Aside0.mk A230
                clear A230
                by_cases c24 : t167 = true
                · subst c24
                  have H1 : ((vinculumlaw45_fits.f k1 x7_1 a1_0 a1_1 a1_2).bind fun t168 => (vinculumlaw45_BreakerPenalties.j1 k1 l0 a2 x7_1 (!t168) a1_0 a1_1 a1_2)) = some r := by rw [if_pos rfl] at H; exact H
                  clear H
                  have H := H1
                  clear H1
                  replace H := Option.bind_eq_some_iff.mp H
                  obtain ⟨t168, A250, H⟩ := H
                  replace H : (vinculumlaw45_BreakerPenalties.j1 k1 l0 a2 x7_1 (!t168) a1_0 a1_1 a1_2) = some r := H
                  have A25 := Aside0.mk A250
                  clear A250
                  have H' := Aside0.mk H
                  clear H
                  have hcz26_0 : wr.cell? ⟨gb157, 0, none⟩ = some (.int .i64 a1_0) := (blk_cell BK157.out 0).trans rfl
                  have hcz26_1 : wr.cell? ⟨gb157, 1, none⟩ = some (.int .i64 a1_1) := (blk_cell BK157.out 1).trans rfl
                  have hcz26_2 : wr.cell? ⟨gb157, 2, none⟩ = some (.int .i64 a1_2) := (blk_cell BK157.out 2).trans rfl
                  have hfz26_0 := blk_frozen BK157.out 0
                  have hfz26_1 := blk_frozen BK157.out 1
                  have hfz26_2 := blk_frozen BK157.out 2
                  go_wp2_with (first | ((with_reducible refine gate_callee (f := 11) rfl ?_); refine goesL_ (some 41) rfl rfl Try.func11 (by kernel_rfl) rfl #[.slice A0 l0.length c0, .agg #[.int .i64 a1_0, .int .i64 a1_1, .int .i64 a1_2]] rfl (by (try simp only [List.map_toArray, List.map_cons, List.map_nil]); first | done | rfl | (simp only [List.length_drop, List.length_take]; rfl)) ?_; (with_reducible refine (vinculumlaw45_fits.calls k1 _ _ l0 a1_0 a1_1 a1_2 true _ ?side1 ?side2 A23.out).mono ?_); (case side1 => repeat (first | exact (Kd.C_below HR0.out HB.out) | (with_reducible refine Kd.C_alloc ?_ _) | (with_reducible refine Kd.C_drewN ?_ _) | (with_reducible refine Kd.C_drew ?_))); (case side2 => exact HC0.out); rintro e w27 ⟨rfl, hb⟩; refine ⟨_, rfl, ?_⟩; have n0_ := Aside0.mk (Kd.R_below (by (with_reducible repeat (first | apply Kd.R_alloc | apply Kd.R_drewN | apply Kd.R_drew)); exact HO_7.out) hb); have n1_ := Aside0.mk (blk_below (g := gb157) (o := .cells #[.int .i64 a1_0, .int .i64 a1_1, .int .i64 a1_2] 24 (0, 0)) (by (with_reducible repeat (first | refine blk_drewN ?_ _ | refine blk_drew ?_ | refine blk_alloc ?_ _)); exact BK157.out) hb); have n2_ := Aside0.mk (below_step (by repeat (first | (with_reducible first | exact HB.out | apply below_alloc | apply pw_below_drewN | apply below_drew1 | refine below_set ?_ GE157.out) | exact HB.out)) hb); clear HO_7; clear BK157; clear HB; have HO_7 := n0_; have BK157 := n1_; have HB := n2_; clear n0_ n1_ n2_; (try clear hb); (try clear hb2); (try clear hk); (try clear hi); have hcz28_0 : w27.cell? ⟨gb157, 0, none⟩ = some (.int .i64 a1_0) := (blk_cell BK157.out 0).trans rfl; have hcz28_1 : w27.cell? ⟨gb157, 1, none⟩ = some (.int .i64 a1_1) := (blk_cell BK157.out 1).trans rfl; have hcz28_2 : w27.cell? ⟨gb157, 2, none⟩ = some (.int .i64 a1_2) := (blk_cell BK157.out 2).trans rfl; have hfz28_0 := blk_frozen BK157.out 0; have hfz28_1 := blk_frozen BK157.out 1; have hfz28_2 := blk_frozen BK157.out 2) | (go_at_call 11; (with_reducible refine (vinculumlaw45_fits.calls k1 _ _ x7_1 a1_0 a1_1 a1_2 t168 _ ?side1 ?side2 A25.out).mono ?_); (case side1 => repeat (first | exact (Kd.R_reads' HO_7.out).2.2 | (with_reducible refine Kd.C_alloc ?_ _) | (with_reducible refine Kd.C_drewN ?_ _) | (with_reducible refine Kd.C_drew ?_))); (case side2 => exact (Kd.R_reads' HO_7.out).2.1); rintro e w29 ⟨rfl, hb⟩; have n0_ := Aside0.mk (Kd.R_below (by (with_reducible repeat (first | apply Kd.R_alloc | apply Kd.R_drewN | apply Kd.R_drew)); exact HO_7.out) hb); have n1_ := Aside0.mk (blk_below (g := gb157) (o := .cells #[.int .i64 a1_0, .int .i64 a1_1, .int .i64 a1_2] 24 (0, 0)) (by (with_reducible repeat (first | refine blk_drewN ?_ _ | refine blk_drew ?_ | refine blk_alloc ?_ _)); exact BK157.out) hb); have n2_ := Aside0.mk (below_step (by repeat (first | (with_reducible first | exact HB.out | apply below_alloc | apply pw_below_drewN | apply below_drew1 | refine below_set ?_ GE157.out) | exact HB.out)) hb); clear HO_7; clear BK157; clear HB; have HO_7 := n0_; have BK157 := n1_; have HB := n2_; clear n0_ n1_ n2_; (try clear hb); (try clear hb2); (try clear hk); (try clear hi)))
                  go_meet
                  case rel => exact ⟨_, (!t168), (by first | rfl | (simp; done) | (simp [*]; done) | (simp [ne_nil_bool]; done)), H', ⟨by have := HK1.out; first | omega | exact Nat.le_refl _⟩, ⟨by (with_reducible repeat (first | apply Kd.R_alloc | apply Kd.R_drewN | apply Kd.R_drew)); exact HO_7.out⟩, ⟨by (with_reducible repeat (first | refine blk_drewN ?_ _ | refine blk_drew ?_ | refine blk_alloc ?_ _)); exact BK157.out⟩, ⟨by repeat (first | (with_reducible first | exact HB.out | apply below_alloc | apply pw_below_drewN | apply below_drew1 | refine below_set ?_ GE157.out) | exact HB.out)⟩⟩
                · replace c24 := Bool.eq_false_iff.mpr c24
                  subst c24
                  have H1 : (vinculumlaw45_BreakerPenalties.j1 k1 l0 a2 x7_1 true a1_0 a1_1 a1_2) = some r := by rw [if_neg (show ¬ (false = true) by decide)] at H; exact H
                  clear H
                  have H := H1
                  clear H1
                  have H' := Aside0.mk H
                  clear H
                  have hcz30_0 : wr.cell? ⟨gb157, 0, none⟩ = some (.int .i64 a1_0) := (blk_cell BK157.out 0).trans rfl
                  have hcz30_1 : wr.cell? ⟨gb157, 1, none⟩ = some (.int .i64 a1_1) := (blk_cell BK157.out 1).trans rfl
                  have hcz30_2 : wr.cell? ⟨gb157, 2, none⟩ = some (.int .i64 a1_2) := (blk_cell BK157.out 2).trans rfl
                  have hfz30_0 := blk_frozen BK157.out 0
                  have hfz30_1 := blk_frozen BK157.out 1
                  have hfz30_2 := blk_frozen BK157.out 2
                  go_wp2_with (first | ((with_reducible refine gate_callee (f := 11) rfl ?_); refine goesL_ (some 41) rfl rfl Try.func11 (by kernel_rfl) rfl #[.slice A0 l0.length c0, .agg #[.int .i64 a1_0, .int .i64 a1_1, .int .i64 a1_2]] rfl (by (try simp only [List.map_toArray, List.map_cons, List.map_nil]); first | done | rfl | (simp only [List.length_drop, List.length_take]; rfl)) ?_; (with_reducible refine (vinculumlaw45_fits.calls k1 _ _ l0 a1_0 a1_1 a1_2 false _ ?side1 ?side2 A23.out).mono ?_); (case side1 => repeat (first | exact (Kd.C_below HR0.out HB.out) | (with_reducible refine Kd.C_alloc ?_ _) | (with_reducible refine Kd.C_drewN ?_ _) | (with_reducible refine Kd.C_drew ?_))); (case side2 => exact HC0.out); rintro e w31 ⟨rfl, hb⟩; refine ⟨_, rfl, ?_⟩; have n0_ := Aside0.mk (Kd.R_below (by (with_reducible repeat (first | apply Kd.R_alloc | apply Kd.R_drewN | apply Kd.R_drew)); exact HO_7.out) hb); have n1_ := Aside0.mk (blk_below (g := gb157) (o := .cells #[.int .i64 a1_0, .int .i64 a1_1, .int .i64 a1_2] 24 (0, 0)) (by (with_reducible repeat (first | refine blk_drewN ?_ _ | refine blk_drew ?_ | refine blk_alloc ?_ _)); exact BK157.out) hb); have n2_ := Aside0.mk (below_step (by repeat (first | (with_reducible first | exact HB.out | apply below_alloc | apply pw_below_drewN | apply below_drew1 | refine below_set ?_ GE157.out) | exact HB.out)) hb); clear HO_7; clear BK157; clear HB; have HO_7 := n0_; have BK157 := n1_; have HB := n2_; clear n0_ n1_ n2_; (try clear hb); (try clear hb2); (try clear hk); (try clear hi)))
                  go_meet
                  case rel => exact ⟨_, (true), (by first | rfl | (simp; done) | (simp [*]; done) | (simp [ne_nil_bool]; done)), H', ⟨by have := HK1.out; first | omega | exact Nat.le_refl _⟩, ⟨by (with_reducible repeat (first | apply Kd.R_alloc | apply Kd.R_drewN | apply Kd.R_drew)); exact HO_7.out⟩, ⟨by (with_reducible repeat (first | refine blk_drewN ?_ _ | refine blk_drew ?_ | refine blk_alloc ?_ _)); exact BK157.out⟩, ⟨by repeat (first | (with_reducible first | exact HB.out | apply below_alloc | apply pw_below_drewN | apply below_drew1 | refine below_set ?_ GE157.out) | exact HB.out)⟩⟩
              case rest =>
                clear HC21
                try clear c1
                try clear p1
                try clear q1
                try clear hx1
                try clear c2
                try clear p2
                try clear c5
                try clear c6
                try clear c6b0
                try clear c6b1
                try clear p6
                try clear c8
                try clear c9
                try clear c10
                try clear c11
                try clear c15
                try clear c15b0
                try clear c16
                try clear c16b0
                try clear p16
                try clear q16
                try clear hx16
                try clear c17
                try clear p17
                try clear q17
                try clear hx17
                try clear hf17
                try clear c19
                try clear hx19
                try clear hf19
                try clear c24
                try clear hcz26_0
                try clear hcz26_1
                try clear hcz26_2
                try clear hcz28_0
                try clear hcz28_1
                try clear hcz28_2
                try clear hcz30_0
                try clear hcz30_1
                try clear hcz30_2
                try clear hfz26_0
                try clear hfz26_1
                try clear hfz26_2
                try clear hfz28_0
                try clear hfz28_1
                try clear hfz28_2
                try clear hfz30_0
                try clear hfz30_1
                try clear hfz30_2
                try clear hx165_0
                try clear hx165_1
                try clear hx165_2
                try clear hx17_0
                try clear hx17_1
                try clear hx17_2
                try clear hx19_2
                try clear p165
                try clear p17
                try clear p2
                try clear q165
                try clear q17
                obtain ⟨kq, x48_20, rfl, HA, HJ20, HO_7, BK157, HB⟩ := hcut
                cases kq with
                | zero => exact absurd HA.out (by simp [vinculumlaw45_BreakerPenalties.j1])
                | succ kj20 =>
                  have H := HA.out
                  clear HA
                  simp only [vinculumlaw45_BreakerPenalties.j1] at H
                  by_cases c32 : x48_20 = true
                  · subst c32
                    have H1 : (some true) = some r := by rw [if_pos rfl] at H; exact H
                    clear H
                    have H := H1
                    clear H1
                    obtain rfl := Option.some.inj H
                    go_wp2
                    go_ret
                    exact ⟨by first | rfl | (simp [errW_none, errW_some] <;> rfl) | (simp [*, errW_none, errW_some] <;> rfl), by repeat (first | (with_reducible first | exact HB.out | apply below_alloc | apply pw_below_drewN | apply below_drew1 | refine below_set ?_ GE157.out) | exact HB.out)⟩
                  · replace c32 := Bool.eq_false_iff.mpr c32
                    subst c32
                    have H1 : ((breaker_Lines.f kj20 l0 a1_0 a1_1 a1_2).bind fun bt169 => ((breaker_Lines.f kj20 x7_1 a1_0 a1_1 a1_2).bind fun bt174 => (if bt169.2.2 = 0 then (if bt174.2.2 = 0 then ((vinculumlaw45_same.f kj20 bt169.1 bt174.1).bind fun t179 => (if t179 = true then (some (bt174.2.1 == (wrap64 (bt169.2.1 + (wrap64 ((wrap64 (a2)) * (wrap64 (a1_2 - 1)))))))) else (none))) else (none)) else (some (bt169.2.2 == bt174.2.2))))) = some r := by rw [if_neg (show ¬ (false = true) by decide)] at H; exact H
                    clear H
                    have H := H1
                    clear H1
                    replace H := Option.bind_eq_some_iff.mp H
                    obtain ⟨⟨t169, t170, t171⟩, A330, H⟩ := H
                    replace H : ((breaker_Lines.f kj20 x7_1 a1_0 a1_1 a1_2).bind fun bt174 => (if t171 = 0 then (if bt174.2.2 = 0 then ((vinculumlaw45_same.f kj20 t169 bt174.1).bind fun t179 => (if t179 = true then (some (bt174.2.1 == (wrap64 (t170 + (wrap64 ((wrap64 (a2)) * (wrap64 (a1_2 - 1)))))))) else (none))) else (none)) else (some (t171 == bt174.2.2)))) = some r := H
                    have A33 := Aside0.mk A330
                    clear A330
                    replace H := Option.bind_eq_some_iff.mp H
                    obtain ⟨⟨t174, t175, t176⟩, A340, H⟩ := H
                    replace H : (if t171 = 0 then (if t176 = 0 then ((vinculumlaw45_same.f kj20 t169 t174).bind fun t179 => (if t179 = true then (some (t175 == (wrap64 (t170 + (wrap64 ((wrap64 (a2)) * (wrap64 (a1_2 - 1)))))))) else (none))) else (none)) else (some (t171 == t176))) = some r := H
                    have A34 := Aside0.mk A340
                    clear A340
                    by_cases c35 : t171 = 0
                    · rw [if_pos c35] at H
                      have c35b0 : (t171 == 0) = true := beq_iff_eq.mpr c35
                      have c35b1 : (t171 != 0) = false := bne_eq_false_iff_eq.mpr c35
                      clear c35
                      by_cases c36 : t176 = 0
                      · rw [if_pos c36] at H
                        have c36b0 : (t176 == 0) = true := beq_iff_eq.mpr c36
                        have c36b1 : (t176 != 0) = false := bne_eq_false_iff_eq.mpr c36
                        clear c36
                        replace H := Option.bind_eq_some_iff.mp H
                        obtain ⟨t179, A370, H⟩ := H
                        replace H : (if t179 = true then (some (t175 == (wrap64 (t170 + (wrap64 ((wrap64 (a2)) * (wrap64 (a1_2 - 1)))))))) else (none)) = some r := H
                        have A37 := Aside0.mk A370
                        clear A370
                        by_cases c38 : t179 = true
                        · subst c38
                          have H1 : (some (t175 == (wrap64 (t170 + (wrap64 ((wrap64 (a2)) * (wrap64 (a1_2 - 1)))))))) = some r := by rw [if_pos rfl] at H; exact H
                          clear H
                          have H := H1
                          clear H1
                          obtain rfl := Option.some.inj H
                          have hcz39_0 : wc.cell? ⟨gb157, 0, none⟩ = some (.int .i64 a1_0) := (blk_cell BK157.out 0).trans rfl
                          have hcz39_1 : wc.cell? ⟨gb157, 1, none⟩ = some (.int .i64 a1_1) := (blk_cell BK157.out 1).trans rfl
                          have hcz39_2 : wc.cell? ⟨gb157, 2, none⟩ = some (.int .i64 a1_2) := (blk_cell BK157.out 2).trans rfl
                          have hfz39_0 := blk_frozen BK157.out 0
                          have hfz39_1 := blk_frozen BK157.out 1
                          have hfz39_2 := blk_frozen BK157.out 2
                          go_wp2_with (first | ((with_reducible refine gate_callee (f := 19) rfl ?_); refine goesL_ (some 57) rfl rfl Try.func19 (by kernel_rfl) rfl #[.slice A0 l0.length c0, .int .i64 a1_0, .int .i64 a1_1, .int .i64 a1_2] rfl (by (try simp only [List.map_toArray, List.map_cons, List.map_nil]); first | done | rfl | (simp only [List.length_drop, List.length_take]; rfl)) ?_; (with_reducible refine (breaker_Lines.calls kj20 _ _ l0 a1_0 a1_1 a1_2 t169 t170 t171 _ ?side1 ?side2 A33.out).mono ?_); (case side1 => repeat (first | exact (Kd.C_below HR0.out HB.out) | (with_reducible refine Kd.C_alloc ?_ _) | (with_reducible refine Kd.C_drewN ?_ _) | (with_reducible refine Kd.C_drew ?_))); (case side2 => exact HC0.out); rintro e w40 ⟨v172, rfl, ho0, hb⟩; refine ⟨_, rfl, ?_⟩; have n0_ := Aside0.mk (Kd.R_below (by (with_reducible repeat (first | apply Kd.R_alloc | apply Kd.R_drewN | apply Kd.R_drew)); exact HO_7.out) hb); have n1_ := Aside0.mk (Kd.R_lower ho0 (below_size (by repeat (first | (with_reducible first | exact HB.out | apply below_alloc | apply pw_below_drewN | apply below_drew1 | refine below_set ?_ GE157.out) | exact HB.out)))); have n2_ := Aside0.mk (blk_below (g := gb157) (o := .cells #[.int .i64 a1_0, .int .i64 a1_1, .int .i64 a1_2] 24 (0, 0)) (by (with_reducible repeat (first | refine blk_drewN ?_ _ | refine blk_drew ?_ | refine blk_alloc ?_ _)); exact BK157.out) hb); have n3_ := Aside0.mk (below_step (by repeat (first | (with_reducible first | exact HB.out | apply below_alloc | apply pw_below_drewN | apply below_drew1 | refine below_set ?_ GE157.out) | exact HB.out)) hb); clear HO_7; clear BK157; clear HB; have HO_7 := n0_; have HO173 := n1_; have BK157 := n2_; have HB := n3_; clear n0_ n1_ n2_ n3_; (try clear hb); (try clear hb2); (try clear hk); (try clear hi); (try clear ho0); have hcz41_0 : w40.cell? ⟨gb157, 0, none⟩ = some (.int .i64 a1_0) := (blk_cell BK157.out 0).trans rfl; have hcz41_1 : w40.cell? ⟨gb157, 1, none⟩ = some (.int .i64 a1_1) := (blk_cell BK157.out 1).trans rfl; have hcz41_2 : w40.cell? ⟨gb157, 2, none⟩ = some (.int .i64 a1_2) := (blk_cell BK157.out 2).trans rfl; have hfz41_0 := blk_frozen BK157.out 0; have hfz41_1 := blk_frozen BK157.out 1; have hfz41_2 := blk_frozen BK157.out 2) | ((with_reducible refine gate_callee (f := 19) rfl ?_); refine goesL_ (some 69) rfl rfl Try.func19 (by kernel_rfl) rfl #[.slice Ao22 x7_1.length co22, .int .i64 a1_0, .int .i64 a1_1, .int .i64 a1_2] rfl (by (try simp only [List.map_toArray, List.map_cons, List.map_nil]); first | done | rfl | (simp only [List.length_drop, List.length_take]; rfl)) ?_; (with_reducible refine (breaker_Lines.calls kj20 _ _ x7_1 a1_0 a1_1 a1_2 t174 t175 t176 _ ?side1 ?side2 A34.out).mono ?_); (case side1 => repeat (first | exact (Kd.R_reads' HO_7.out).2.2 | (with_reducible refine Kd.C_alloc ?_ _) | (with_reducible refine Kd.C_drewN ?_ _) | (with_reducible refine Kd.C_drew ?_))); (case side2 => exact (Kd.R_reads' HO_7.out).2.1); rintro e w42 ⟨v177, rfl, ho0, hb⟩; refine ⟨_, rfl, ?_⟩; have n0_ := Aside0.mk (Kd.R_below (by (with_reducible repeat (first | apply Kd.R_alloc | apply Kd.R_drewN | apply Kd.R_drew)); exact HO_7.out) hb); have n1_ := Aside0.mk (Kd.R_elder' (by (with_reducible repeat (first | apply Kd.R_alloc | apply Kd.R_drewN | apply Kd.R_drew)); exact HO173.out) (Kd.R_base ho0) hb); have n2_ := Aside0.mk (Kd.R_lower (Kd.R_new' ho0 (Kd.R_lt (by (with_reducible repeat (first | apply Kd.R_alloc | apply Kd.R_drewN | apply Kd.R_drew)); exact HO173.out))) (below_size (by repeat (first | (with_reducible first | exact HB.out | apply below_alloc | apply pw_below_drewN | apply below_drew1 | refine below_set ?_ GE157.out) | exact HB.out)))); have n3_ := Aside0.mk (blk_below (g := gb157) (o := .cells #[.int .i64 a1_0, .int .i64 a1_1, .int .i64 a1_2] 24 (0, 0)) (by (with_reducible repeat (first | refine blk_drewN ?_ _ | refine blk_drew ?_ | refine blk_alloc ?_ _)); exact BK157.out) hb); have n4_ := Aside0.mk (below_step (by repeat (first | (with_reducible first | exact HB.out | apply below_alloc | apply pw_below_drewN | apply below_drew1 | refine below_set ?_ GE157.out) | exact HB.out)) hb); clear HO_7; clear HO173; clear BK157; clear HB; have HO_7 := n0_; have HO173 := n1_; have HO178 := n2_; have BK157 := n3_; have HB := n4_; clear n0_ n1_ n2_ n3_ n4_; (try clear hb); (try clear hb2); (try clear hk); (try clear hi); (try clear ho0); obtain ⟨Ao43, co43, eo43⟩ := Kd.R_slice HO173.out; subst eo43; obtain ⟨Ao44, co44, eo44⟩ := Kd.R_slice HO178.out; subst eo44) | (go_at_call 15; (with_reducible refine (vinculumlaw45_same.calls kj20 _ _ t169 _ _ t174 true _ ?side1 ?side2 ?side3 ?side4 A37.out).mono ?_); (case side1 => repeat (first | exact (Kd.R_reads' HO173.out).2.2 | (with_reducible refine Kd.C_alloc ?_ _) | (with_reducible refine Kd.C_drewN ?_ _) | (with_reducible refine Kd.C_drew ?_))); (case side2 => exact (Kd.R_reads' HO173.out).2.1); (case side3 => repeat (first | exact (Kd.R_reads' HO178.out).2.2 | (with_reducible refine Kd.C_alloc ?_ _) | (with_reducible refine Kd.C_drewN ?_ _) | (with_reducible refine Kd.C_drew ?_))); (case side4 => exact (Kd.R_reads' HO178.out).2.1); rintro e w' ⟨rfl, ⟨nd, rfl⟩⟩; have hcz45_0 : w42.cell? ⟨gb157, 0, none⟩ = some (.int .i64 a1_0) := (blk_cell BK157.out 0).trans rfl; have hcz45_1 : w42.cell? ⟨gb157, 1, none⟩ = some (.int .i64 a1_1) := (blk_cell BK157.out 1).trans rfl; have hcz45_2 : w42.cell? ⟨gb157, 2, none⟩ = some (.int .i64 a1_2) := (blk_cell BK157.out 2).trans rfl; have hfz45_0 := blk_frozen BK157.out 0; have hfz45_1 := blk_frozen BK157.out 1; have hfz45_2 := blk_frozen BK157.out 2))
                          go_ret
                          exact ⟨by first | rfl | (simp [errW_none, errW_some] <;> rfl) | (simp [*, errW_none, errW_some] <;> rfl), by repeat (first | (with_reducible first | exact HB.out | apply below_alloc | apply pw_below_drewN | apply below_drew1 | refine below_set ?_ GE157.out) | exact HB.out)⟩
                        · replace c38 := Bool.eq_false_iff.mpr c38
                          subst c38
                          have H1 : (none) = some r := by rw [if_neg (show ¬ (false = true) by decide)] at H; exact H
                          clear H
                          have H := H1
                          clear H1
                          exact absurd H (by simp)
                      · rw [if_neg c36] at H
                        exact absurd H (by simp)
                    · rw [if_neg c35] at H
                      have c35b0 : (t171 == 0) = false := beq_eq_false_iff_ne.mpr c35
                      have c35b1 : (t171 != 0) = true := bne_iff_ne.mpr c35
                      obtain rfl := Option.some.inj H
                      have hcz46_0 : wc.cell? ⟨gb157, 0, none⟩ = some (.int .i64 a1_0) := (blk_cell BK157.out 0).trans rfl
                      have hcz46_1 : wc.cell? ⟨gb157, 1, none⟩ = some (.int .i64 a1_1) := (blk_cell BK157.out 1).trans rfl
                      have hcz46_2 : wc.cell? ⟨gb157, 2, none⟩ = some (.int .i64 a1_2) := (blk_cell BK157.out 2).trans rfl
                      have hfz46_0 := blk_frozen BK157.out 0
                      have hfz46_1 := blk_frozen BK157.out 1
                      have hfz46_2 := blk_frozen BK157.out 2
                      go_wp2_with (first | ((with_reducible refine gate_callee (f := 19) rfl ?_); refine goesL_ (some 57) rfl rfl Try.func19 (by kernel_rfl) rfl #[.slice A0 l0.length c0, .int .i64 a1_0, .int .i64 a1_1, .int .i64 a1_2] rfl (by (try simp only [List.map_toArray, List.map_cons, List.map_nil]); first | done | rfl | (simp only [List.length_drop, List.length_take]; rfl)) ?_; (with_reducible refine (breaker_Lines.calls kj20 _ _ l0 a1_0 a1_1 a1_2 t169 t170 t171 _ ?side1 ?side2 A33.out).mono ?_); (case side1 => repeat (first | exact (Kd.C_below HR0.out HB.out) | (with_reducible refine Kd.C_alloc ?_ _) | (with_reducible refine Kd.C_drewN ?_ _) | (with_reducible refine Kd.C_drew ?_))); (case side2 => exact HC0.out); rintro e w47 ⟨v172, rfl, ho0, hb⟩; refine ⟨_, rfl, ?_⟩; have n0_ := Aside0.mk (Kd.R_below (by (with_reducible repeat (first | apply Kd.R_alloc | apply Kd.R_drewN | apply Kd.R_drew)); exact HO_7.out) hb); have n1_ := Aside0.mk (Kd.R_lower ho0 (below_size (by repeat (first | (with_reducible first | exact HB.out | apply below_alloc | apply pw_below_drewN | apply below_drew1 | refine below_set ?_ GE157.out) | exact HB.out)))); have n2_ := Aside0.mk (blk_below (g := gb157) (o := .cells #[.int .i64 a1_0, .int .i64 a1_1, .int .i64 a1_2] 24 (0, 0)) (by (with_reducible repeat (first | refine blk_drewN ?_ _ | refine blk_drew ?_ | refine blk_alloc ?_ _)); exact BK157.out) hb); have n3_ := Aside0.mk (below_step (by repeat (first | (with_reducible first | exact HB.out | apply below_alloc | apply pw_below_drewN | apply below_drew1 | refine below_set ?_ GE157.out) | exact HB.out)) hb); clear HO_7; clear BK157; clear HB; have HO_7 := n0_; have HO173 := n1_; have BK157 := n2_; have HB := n3_; clear n0_ n1_ n2_ n3_; (try clear hb); (try clear hb2); (try clear hk); (try clear hi); (try clear ho0); have hcz48_0 : w47.cell? ⟨gb157, 0, none⟩ = some (.int .i64 a1_0) := (blk_cell BK157.out 0).trans rfl; have hcz48_1 : w47.cell? ⟨gb157, 1, none⟩ = some (.int .i64 a1_1) := (blk_cell BK157.out 1).trans rfl; have hcz48_2 : w47.cell? ⟨gb157, 2, none⟩ = some (.int .i64 a1_2) := (blk_cell BK157.out 2).trans rfl; have hfz48_0 := blk_frozen BK157.out 0; have hfz48_1 := blk_frozen BK157.out 1; have hfz48_2 := blk_frozen BK157.out 2) | ((with_reducible refine gate_callee (f := 19) rfl ?_); refine goesL_ (some 69) rfl rfl Try.func19 (by kernel_rfl) rfl #[.slice Ao22 x7_1.length co22, .int .i64 a1_0, .int .i64 a1_1, .int .i64 a1_2] rfl (by (try simp only [List.map_toArray, List.map_cons, List.map_nil]); first | done | rfl | (simp only [List.length_drop, List.length_take]; rfl)) ?_; (with_reducible refine (breaker_Lines.calls kj20 _ _ x7_1 a1_0 a1_1 a1_2 t174 t175 t176 _ ?side1 ?side2 A34.out).mono ?_); (case side1 => repeat (first | exact (Kd.R_reads' HO_7.out).2.2 | (with_reducible refine Kd.C_alloc ?_ _) | (with_reducible refine Kd.C_drewN ?_ _) | (with_reducible refine Kd.C_drew ?_))); (case side2 => exact (Kd.R_reads' HO_7.out).2.1); rintro e w49 ⟨v177, rfl, ho0, hb⟩; refine ⟨_, rfl, ?_⟩; have n0_ := Aside0.mk (Kd.R_below (by (with_reducible repeat (first | apply Kd.R_alloc | apply Kd.R_drewN | apply Kd.R_drew)); exact HO_7.out) hb); have n1_ := Aside0.mk (Kd.R_elder' (by (with_reducible repeat (first | apply Kd.R_alloc | apply Kd.R_drewN | apply Kd.R_drew)); exact HO173.out) (Kd.R_base ho0) hb); have n2_ := Aside0.mk (Kd.R_lower (Kd.R_new' ho0 (Kd.R_lt (by (with_reducible repeat (first | apply Kd.R_alloc | apply Kd.R_drewN | apply Kd.R_drew)); exact HO173.out))) (below_size (by repeat (first | (with_reducible first | exact HB.out | apply below_alloc | apply pw_below_drewN | apply below_drew1 | refine below_set ?_ GE157.out) | exact HB.out)))); have n3_ := Aside0.mk (blk_below (g := gb157) (o := .cells #[.int .i64 a1_0, .int .i64 a1_1, .int .i64 a1_2] 24 (0, 0)) (by (with_reducible repeat (first | refine blk_drewN ?_ _ | refine blk_drew ?_ | refine blk_alloc ?_ _)); exact BK157.out) hb); have n4_ := Aside0.mk (below_step (by repeat (first | (with_reducible first | exact HB.out | apply below_alloc | apply pw_below_drewN | apply below_drew1 | refine below_set ?_ GE157.out) | exact HB.out)) hb); clear HO_7; clear HO173; clear BK157; clear HB; have HO_7 := n0_; have HO173 := n1_; have HO178 := n2_; have BK157 := n3_; have HB := n4_; clear n0_ n1_ n2_ n3_ n4_; (try clear hb); (try clear hb2); (try clear hk); (try clear hi); (try clear ho0)))
                      go_ret
                      exact ⟨by first | rfl | (simp [errW_none, errW_some] <;> rfl) | (simp [*, errW_none, errW_some] <;> rfl), by repeat (first | (with_reducible first | exact HB.out | apply below_alloc | apply pw_below_drewN | apply below_drew1 | refine below_set ?_ GE157.out) | exact HB.out)⟩
      · rw [if_neg c9] at H
        exact absurd H (by simp)
  · replace c5 := Bool.eq_false_iff.mpr c5
    subst c5
    have H1 : (none) = some r := by rw [if_neg (show ¬ (false = true) by decide)] at H; exact H
    clear H
    have H := H1
    clear H1
    exact absurd H (by simp)

end Go.Proofs.Ytgickognjlapmaa.PQ
