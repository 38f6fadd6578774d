-- Written by a program of this place (wip/gen.py) with the kit's print; not trusted: Lean checks it.
import Derived.Test.YtploigkfnkgjiaaPEx0
namespace Go.Proofs.Ytploigkfnkgjiaa.PE
open Go.RowKit Go.Proofs.YtploigkfnkgjiaaW.PrintWords Go.Proofs.YtploigkfnkgjiaaW.PrintLast Go.Proofs.YtploigkfnkgjiaaW.PrintMore
attribute [local go_sem] max2_int min2_int max_two min_two max_three min_three max_four min_four   -- for this text's walks alone
set_option linter.unusedVariables false
set_option linter.unusedSimpArgs false

/-! ### codec_Depth: function 17 -/
mutual
def codec_Depth.l0 : Nat → Int → List (S29) → Int → Int → Option (Int)
  | 0, _, _, _, _ => none
  | k + 1, x3, x10, x11, x12 => if x12 < x11 then (if 0 ≤ x12 then (if x12 < (x10.length : Int) then ((codec_Depth.f k ((rd_T29 x10 x12).f0) ((rd_T29 x10 x12).f1) ((rd_T29 x10 x12).f2) ((rd_T29 x10 x12).f3)).bind fun t157 => (codec_Depth.l0 k (mx x3 t157) x10 x11 (wrap64 (x12 + 1)))) else (none)) else (none)) else (some (wrap64 (x3 + 1)))
def codec_Depth.f : Nat → Int → Int → ByteArray → List (S29) → Option (Int)
  | 0, _, _, _, _ => none
  | k + 1, a0_0, a0_1, a0_2, l0_3 => if a0_0 = 3 then (codec_Depth.l0 k 0 l0_3 (l0_3.length : Int) 0) else (some (0 + 1))
end
theorem codec_Depth.mono_l : ∀ k, (∀ y0 y1 y2 y3, LeO (codec_Depth.f k y0 y1 y2 y3) (codec_Depth.f (k + 1) y0 y1 y2 y3)) ∧ (∀ y0 y1 y2 y3, LeO (codec_Depth.l0 k y0 y1 y2 y3) (codec_Depth.l0 (k + 1) y0 y1 y2 y3))
  | 0 => ⟨fun _ _ _ _ r h => by simp [codec_Depth.f] at h, fun _ _ _ _ r h => by simp [codec_Depth.l0] at h⟩
  | k + 1 => by
    obtain ⟨ih0, ih1⟩ := codec_Depth.mono_l k
    refine ⟨?_, ?_⟩
    · intro y0 y1 y2 y3
      unfold codec_Depth.f
      repeat' first
      | (with_reducible exact ih0 _ _ _ _)
      | (with_reducible exact ih1 _ _ _ _)
      | (with_reducible exact LeO.refl _)
      | (with_reducible exact LeO.none _)
      | (with_reducible refine LeO.ite ?_ ?_)
      | (with_reducible refine LeO.bind ?_ (fun _ => ?_))
      | exact ih0 _ _ _ _
      | exact ih1 _ _ _ _
      | exact LeO.none _
      | refine LeO.ite ?_ ?_
      | refine LeO.bind ?_ (fun _ => ?_)
    · intro y0 y1 y2 y3
      unfold codec_Depth.l0
      repeat' first
      | (with_reducible exact ih0 _ _ _ _)
      | (with_reducible exact ih1 _ _ _ _)
      | (with_reducible exact LeO.refl _)
      | (with_reducible exact LeO.none _)
      | (with_reducible refine LeO.ite ?_ ?_)
      | (with_reducible refine LeO.bind ?_ (fun _ => ?_))
      | exact ih0 _ _ _ _
      | exact ih1 _ _ _ _
      | exact LeO.none _
      | refine LeO.ite ?_ ?_
      | refine LeO.bind ?_ (fun _ => ?_)
theorem codec_Depth.mono : ∀ a0 a1 a2 a3 k, LeO (codec_Depth.f k a0 a1 a2 a3) (codec_Depth.f (k + 1) a0 a1 a2 a3) := by
  intro a0 a1 a2 a3 k
  obtain ⟨ih0, ih1⟩ := codec_Depth.mono_l k
  exact ih0 a0 a1 a2 a3
set_option maxHeartbeats 8000000 in
set_option maxRecDepth 100000 in
theorem codec_Depth.calls (k : Nat) : ∀ (a0_0 : Int) (a0_1 : Int) (a0_2 : ByteArray) (A0_3 : Option Addr) (c0_3 : Nat) (l0_3 : List (S29)) (r : Int) (w : World) (hr0_3 : Kd.C k29 w A0_3 l0_3.length l0_3) (hc0_3 : l0_3.length ≤ c0_3) (h : codec_Depth.f k a0_0 a0_1 a0_2 l0_3 = some r),
    Calls Try.prog 17 #[.agg #[.int .i64 a0_0, .int .i64 a0_1, .string a0_2, .slice A0_3 l0_3.length c0_3]] w fun e w' => e = .returned (.int .i64 r) ∧ Below w.heap.size w w' := by
  induction k using Nat.strongRecOn with
  | _ k ih =>
  intro a0_0 a0_1 a0_2 A0_3 c0_3 l0_3 r w hr0_3 hc0_3 h
  cases k with
  | zero => exact absurd h (by simp [codec_Depth.f])
  | succ k =>
  simp only [codec_Depth.f] at h
  have hu29 := Try.underlying29
  have HR0_3 := Aside0.mk hr0_3
  have HC0_3 := Aside0.mk hc0_3
  clear hr0_3 hc0_3
  have HB := Aside0.mk (Below.refl w.heap.size w)
  have H : (if a0_0 = 3 then (codec_Depth.l0 k 0 l0_3 (l0_3.length : Int) 0) else (some (0 + 1))) = some r := h
  clear h
  by_cases c2 : a0_0 = 3
  · rw [if_pos c2] at H
    have c2b0 : (a0_0 == 3) = true := beq_iff_eq.mpr c2
    have c2b1 : (a0_0 != 3) = false := bne_eq_false_iff_eq.mpr c2
    clear c2
    have H' := Aside0.mk H
    clear H
    go_enter Try.func17, Try.ntmps17
    go_wp2_with (first | ((with_reducible refine gate_dst (N := 1) rfl ?_); refine box_event ?hg (N := 1) ?hd (cs := #[.int .i64 a0_0, .int .i64 a0_1, .string a0_2, .slice A0_3 l0_3.length c0_3]) (t := 29) ?hr ?_; (case hd => rfl); (case hg => rfl); (case hr => first | (go_simp; done) | (go_simp; rfl)); intro gb154 hg w3 hbox hb; have n0_ := Aside0.mk (below_step (by repeat (first | (with_reducible first | exact HB.out | apply below_alloc | apply pw_below_drewN | apply below_drew1) | exact HB.out)) hb); have n1_ := Aside0.mk (hbox); have n2_ := Aside0.mk ((by rw [hg]; exact (below_size (by repeat (first | (with_reducible first | exact HB.out | apply below_alloc | apply pw_below_drewN | apply below_drew1) | exact HB.out))) : w.heap.size ≤ gb154)); have n3_ := Aside0.mk ((by rw [hg]; exact (below_size (by repeat (first | (with_reducible first | exact HB.out | apply below_alloc | apply pw_below_drewN | apply below_drew1) | exact HB.out))) : w.heap.size ≤ gb154)); clear HB; have HB := n0_; have BK154 := n1_; have GW154 := n2_; have GE154 := n3_; clear n0_ n1_ n2_ n3_; clear hb hbox hg; have hcz4_0 : w3.cell? ⟨gb154, 0, none⟩ = some (.int .i64 a0_0) := (blk_cell BK154.out 0).trans rfl; have hcz4_1 : w3.cell? ⟨gb154, 1, none⟩ = some (.int .i64 a0_1) := (blk_cell BK154.out 1).trans rfl; have hcz4_2 : w3.cell? ⟨gb154, 2, none⟩ = some (.string a0_2) := (blk_cell BK154.out 2).trans rfl; have hcz4_3 : w3.cell? ⟨gb154, 3, none⟩ = some (.slice A0_3 l0_3.length c0_3) := (blk_cell BK154.out 3).trans rfl; have hfz4_0 := blk_frozen BK154.out 0; have hfz4_1 := blk_frozen BK154.out 1; have hfz4_2 := blk_frozen BK154.out 2; have hfz4_3 := blk_frozen BK154.out 3))
    go_loopg [3, 12] k (fun kq v3 v12 w' => ∃ (x3_1 : Int) (x12_1 : Int), v3 = .int .i64 x3_1 ∧ v12 = .int .i64 x12_1 ∧ Aside0 (codec_Depth.l0 kq x3_1 l0_3 (l0_3.length : Int) x12_1 = some r) ∧ Aside0 (kq ≤ k) ∧ Aside0 (w'.heap[gb154]? = some (.cells #[.int .i64 a0_0, .int .i64 a0_1, .string a0_2, (.slice A0_3 l0_3.length c0_3)] 29 (0, 0))) ∧ Aside0 (Below w.heap.size w w'))
    case atStart => exact ⟨(0), (0), (by first | rfl | (simp; done) | (simp [*]; done) | (simp [ne_nil_bool]; done)), (by first | rfl | (simp; done) | (simp [*]; done) | (simp [ne_nil_bool]; done)), H', ⟨Nat.le_refl _⟩, ⟨by (with_reducible repeat (first | refine blk_drewN ?_ _ | refine blk_drew ?_ | refine blk_alloc ?_ _)); exact BK154.out⟩, ⟨by repeat (first | (with_reducible first | exact HB.out | apply below_alloc | apply pw_below_drewN | apply below_drew1 | refine below_set ?_ GE154.out) | exact HB.out)⟩⟩
    case round =>
      clear H'
      try clear c1
      try clear c2
      try clear c2b0
      try clear c2b1
      try clear p2
      try clear hcz4_0
      try clear hcz4_1
      try clear hcz4_2
      try clear hcz4_3
      try clear hfz4_0
      try clear hfz4_1
      try clear hfz4_2
      try clear hfz4_3
      obtain ⟨x3_1, x12_1, rfl, rfl, HA, HK1, BK154, HB⟩ := hrel
      cases gk with
      | zero => exact absurd HA.out (by simp [codec_Depth.l0])
      | succ k1 =>
        have H := HA.out
        clear HA
        simp only [codec_Depth.l0] at H
        by_cases c5 : x12_1 < (l0_3.length : Int)
        · rw [if_pos c5] at H
          have c5b0 : decide (x12_1 < (l0_3.length : Int)) = true := decide_eq_true c5
          clear c5
          by_cases c6 : 0 ≤ x12_1
          · rw [if_pos c6] at H
            have c6b0 : decide (0 ≤ x12_1) = true := decide_eq_true c6
            clear c6
            by_cases c7 : x12_1 < (l0_3.length : Int)
            · rw [if_pos c7] at H
              have c7b0 : decide (x12_1 < (l0_3.length : Int)) = true := decide_eq_true c7
              clear c7
              replace H := Option.bind_eq_some_iff.mp H
              obtain ⟨t157, A80, H⟩ := H
              replace H : (codec_Depth.l0 k1 (mx x3_1 t157) l0_3 (l0_3.length : Int) (wrap64 (x12_1 + 1))) = some r := H
              have A8 := Aside0.mk A80
              clear A80
              obtain ⟨ji9, hji9⟩ : ∃ j_ : Int, (mx x3_1 t157) = j_ := ⟨_, rfl⟩
              replace H : (codec_Depth.l0 k1 ji9 l0_3 (l0_3.length : Int) (wrap64 (x12_1 + 1))) = some r := by first | (rw [hji9] at H; exact H) | (simp only [hji9] at H ⊢; exact H)
              (try rw [hji9] at A8)
              have hji9_ : (if x3_1 < t157 then t157 else x3_1) = ji9 := hji9
              have H' := Aside0.mk H
              clear H
              have p155 : 0 ≤ (x12_1 : Int) := of_decide_eq_true (by first | (with_reducible assumption) | assumption)
              have q155 : x12_1 < (l0_3.length : Int) := of_decide_eq_true (by first | (with_reducible assumption) | assumption)
              obtain ⟨ad155, A155_3, c155_3, e155, hx155_0, hx155_1, hx155_2, hx155_3, hl155_3, hi155_3⟩ := at_T29 HR0_3.out x12_1 p155 q155
              cases e155
              replace hx155_0 := (HB.out.cell (World.block_lt_of_cell? w _ hx155_0)).trans hx155_0
              replace hx155_1 := (HB.out.cell (World.block_lt_of_cell? w _ hx155_1)).trans hx155_1
              replace hx155_2 := (HB.out.cell (World.block_lt_of_cell? w _ hx155_2)).trans hx155_2
              replace hx155_3 := (HB.out.cell (World.block_lt_of_cell? w _ hx155_3)).trans hx155_3
              have HR155_3 := Aside0.mk hi155_3
              have HC155_3 := Aside0.mk hl155_3
              clear hi155_3 hl155_3
              replace p155 := eq_true p155
              replace q155 := eq_true q155
              go_wp2_with (first | ((with_reducible refine gate_dst (N := 5) rfl ?_); refine box_event ?hg (N := 5) ?hd (cs := #[.int .i64 0, .int .i64 0, .string (⟨#[]⟩ : ByteArray), .slice none 0 0]) (t := 29) ?hr ?_; (case hd => rfl); (case hg => rfl); (case hr => first | (go_simp; done) | (go_simp; rfl)); intro gb156 hg w10 hbox hb; have n0_ := Aside0.mk (blk_below (g := gb154) (o := .cells #[.int .i64 a0_0, .int .i64 a0_1, .string a0_2, .slice (some ad155) l0_3.length c0_3] 29 (0, 0)) (by (with_reducible repeat (first | refine blk_drewN ?_ _ | refine blk_drew ?_ | refine blk_alloc ?_ _)); exact BK154.out) hb); have n1_ := Aside0.mk (below_step (by repeat (first | (with_reducible first | exact HB.out | apply below_alloc | apply pw_below_drewN | apply below_drew1 | refine below_set ?_ GE154.out) | exact HB.out)) hb); have n2_ := Aside0.mk (hbox); have n3_ := Aside0.mk ((by rw [hg]; exact (below_size (by repeat (first | (with_reducible first | exact HB.out | apply below_alloc | apply pw_below_drewN | apply below_drew1 | refine below_set ?_ GE154.out) | exact HB.out))) : w.heap.size ≤ gb156)); have n4_ := Aside0.mk ((by rw [hg]; exact (below_size (by repeat (first | (with_reducible first | exact HB.out | apply below_alloc | apply pw_below_drewN | apply below_drew1 | refine below_set ?_ GE154.out) | exact HB.out))) : w.heap.size ≤ gb156)); have n5_ := Aside0.mk ((by rw [hg]; exact Nat.ne_of_lt (blk_lt (g := gb154) (o := .cells #[.int .i64 a0_0, .int .i64 a0_1, .string a0_2, .slice (some ad155) l0_3.length c0_3] 29 (0, 0)) (by (with_reducible repeat (first | refine blk_drewN ?_ _ | refine blk_drew ?_ | refine blk_alloc ?_ _)); exact BK154.out)) : gb154 ≠ gb156)); have n6_ := Aside0.mk ((by rw [hg]; exact Nat.ne_of_gt (blk_lt (g := gb154) (o := .cells #[.int .i64 a0_0, .int .i64 a0_1, .string a0_2, .slice (some ad155) l0_3.length c0_3] 29 (0, 0)) (by (with_reducible repeat (first | refine blk_drewN ?_ _ | refine blk_drew ?_ | refine blk_alloc ?_ _)); exact BK154.out)) : gb156 ≠ gb154)); clear BK154; clear HB; have BK154 := n0_; have HB := n1_; have BK156 := n2_; have GW156 := n3_; have GE156 := n4_; have NB154_156 := n5_; have NB156_154 := n6_; clear n0_ n1_ n2_ n3_ n4_ n5_ n6_; clear hb hbox hg; have hnb11 := NB156_154.out; have hnc11 := NB154_156.out; have hcz12_0 : w10.cell? ⟨gb156, 0, none⟩ = some (.int .i64 0) := (blk_cell BK156.out 0).trans rfl; have hcz12_1 : w10.cell? ⟨gb156, 1, none⟩ = some (.int .i64 0) := (blk_cell BK156.out 1).trans rfl; have hcz12_2 : w10.cell? ⟨gb156, 2, none⟩ = some (.string (⟨#[]⟩ : ByteArray)) := (blk_cell BK156.out 2).trans rfl; have hcz12_3 : w10.cell? ⟨gb156, 3, none⟩ = some (.slice none 0 0) := (blk_cell BK156.out 3).trans rfl; have hfz12_0 := blk_frozen BK156.out 0; have hfz12_1 := blk_frozen BK156.out 1; have hfz12_2 := blk_frozen BK156.out 2; have hfz12_3 := blk_frozen BK156.out 3) | ((with_reducible refine gate_callee (f := 17) rfl ?_); refine goesL_ (some 18) rfl rfl Try.func17 (by kernel_rfl) rfl #[.agg #[.int .i64 ((rd_T29 l0_3 x12_1).f0), .int .i64 ((rd_T29 l0_3 x12_1).f1), .string ((rd_T29 l0_3 x12_1).f2), .slice A155_3 ((rd_T29 l0_3 x12_1).f3).length c155_3]] rfl (by (try simp only [List.map_toArray, List.map_cons, List.map_nil]); first | done | rfl | (simp only [List.length_drop, List.length_take]; rfl)) ?_; (with_reducible refine (ih k1 (by have := HK1.out; omega) ((rd_T29 l0_3 x12_1).f0) ((rd_T29 l0_3 x12_1).f1) ((rd_T29 l0_3 x12_1).f2) _ _ ((rd_T29 l0_3 x12_1).f3) t157 _ ?side1 ?side2 A8.out).mono ?_); (case side1 => exact Kd.C_below HR155_3.out (by repeat (first | (with_reducible first | exact HB.out | apply below_alloc | apply pw_below_drewN | apply below_drew1 | refine below_set ?_ GE154.out | refine below_set ?_ GE156.out) | exact HB.out))); (case side2 => exact HC155_3.out); rintro e w13 ⟨rfl, hb⟩; refine ⟨_, rfl, ?_⟩; have n0_ := Aside0.mk (blk_below (g := gb154) (o := .cells #[.int .i64 a0_0, .int .i64 a0_1, .string a0_2, .slice (some ad155) l0_3.length c0_3] 29 (0, 0)) (by (with_reducible repeat (first | refine blk_drewN ?_ _ | refine blk_drew ?_ | refine blk_alloc ?_ _)); refine blk_far ?_ NB154_156.out _; (with_reducible repeat (first | refine blk_drewN ?_ _ | refine blk_drew ?_ | refine blk_alloc ?_ _)); refine blk_far ?_ NB154_156.out _; (with_reducible repeat (first | refine blk_drewN ?_ _ | refine blk_drew ?_ | refine blk_alloc ?_ _)); refine blk_far ?_ NB154_156.out _; (with_reducible repeat (first | refine blk_drewN ?_ _ | refine blk_drew ?_ | refine blk_alloc ?_ _)); refine blk_far ?_ NB154_156.out _; (with_reducible repeat (first | refine blk_drewN ?_ _ | refine blk_drew ?_ | refine blk_alloc ?_ _)); exact BK154.out) hb); have n1_ := Aside0.mk (blk_below (g := gb156) (o := .cells #[.int .i64 ((rd_T29 l0_3 x12_1).f0), .int .i64 ((rd_T29 l0_3 x12_1).f1), .string ((rd_T29 l0_3 x12_1).f2), .slice A155_3 ((rd_T29 l0_3 x12_1).f3).length c155_3] 29 (0, 0)) (by (with_reducible repeat (first | refine blk_drewN ?_ _ | refine blk_drew ?_ | refine blk_alloc ?_ _)); refine blk_put (cs := #[.int .i64 ((rd_T29 l0_3 x12_1).f0), .int .i64 ((rd_T29 l0_3 x12_1).f1), .string ((rd_T29 l0_3 x12_1).f2), .slice none 0 0]) ?_ 3 _ rfl; (with_reducible repeat (first | refine blk_drewN ?_ _ | refine blk_drew ?_ | refine blk_alloc ?_ _)); refine blk_put (cs := #[.int .i64 ((rd_T29 l0_3 x12_1).f0), .int .i64 ((rd_T29 l0_3 x12_1).f1), .string (⟨#[]⟩ : ByteArray), .slice none 0 0]) ?_ 2 _ rfl; (with_reducible repeat (first | refine blk_drewN ?_ _ | refine blk_drew ?_ | refine blk_alloc ?_ _)); refine blk_put (cs := #[.int .i64 ((rd_T29 l0_3 x12_1).f0), .int .i64 0, .string (⟨#[]⟩ : ByteArray), .slice none 0 0]) ?_ 1 _ rfl; (with_reducible repeat (first | refine blk_drewN ?_ _ | refine blk_drew ?_ | refine blk_alloc ?_ _)); refine blk_put (cs := #[.int .i64 0, .int .i64 0, .string (⟨#[]⟩ : ByteArray), .slice none 0 0]) ?_ 0 _ rfl; (with_reducible repeat (first | refine blk_drewN ?_ _ | refine blk_drew ?_ | refine blk_alloc ?_ _)); exact BK156.out) hb); have n2_ := Aside0.mk (below_step (by repeat (first | (with_reducible first | exact HB.out | apply below_alloc | apply pw_below_drewN | apply below_drew1 | refine below_set ?_ GE154.out | refine below_set ?_ GE156.out) | exact HB.out)) hb); clear BK154; clear BK156; clear HB; have BK154 := n0_; have BK156 := n1_; have HB := n2_; clear n0_ n1_ n2_; (try clear hb); (try clear hb2); (try clear hk); (try clear hi)))
              go_roundg k1
              case measure => have := HK1.out; omega
              case rel => exact ⟨(ji9), (wrap64 (x12_1 + 1)), (by first | rfl | (simp; done) | (simp only [← hji9] <;> (first | rfl | simp)) | (simp [*]; done)), (by first | rfl | (simp; done) | (simp [*]; done) | (simp [ne_nil_bool]; done)), H', ⟨by have := HK1.out; omega⟩, ⟨by (with_reducible repeat (first | refine blk_drewN ?_ _ | refine blk_drew ?_ | refine blk_alloc ?_ _)); exact BK154.out⟩, ⟨by repeat (first | (with_reducible first | exact HB.out | apply below_alloc | apply pw_below_drewN | apply below_drew1 | refine below_set ?_ GE154.out | refine below_set ?_ GE156.out) | exact HB.out)⟩⟩
            · rw [if_neg c7] at H
              exact absurd H (by simp)
          · rw [if_neg c6] at H
            exact absurd H (by simp)
        · rw [if_neg c5] at H
          have c5b0 : decide (x12_1 < (l0_3.length : Int)) = false := decide_eq_false c5
          clear c5
          obtain rfl := Option.some.inj H
          go_wp2
          go_ret
          exact ⟨by first | rfl | (simp [errW_none, errW_some] <;> rfl) | (simp [*, errW_none, errW_some] <;> rfl), by repeat (first | (with_reducible first | exact HB.out | apply below_alloc | apply pw_below_drewN | apply below_drew1 | refine below_set ?_ GE154.out) | exact HB.out)⟩
  · rw [if_neg c2] at H
    have c2b0 : (a0_0 == 3) = false := beq_eq_false_iff_ne.mpr c2
    have c2b1 : (a0_0 != 3) = true := bne_iff_ne.mpr c2
    obtain rfl := Option.some.inj H
    go_enter Try.func17, Try.ntmps17
    go_wp2_with (first | ((with_reducible refine gate_dst (N := 1) rfl ?_); refine box_event ?hg (N := 1) ?hd (cs := #[.int .i64 a0_0, .int .i64 a0_1, .string a0_2, .slice A0_3 l0_3.length c0_3]) (t := 29) ?hr ?_; (case hd => rfl); (case hg => rfl); (case hr => first | (go_simp; done) | (go_simp; rfl)); intro gb154 hg w14 hbox hb; have n0_ := Aside0.mk (below_step (by repeat (first | (with_reducible first | exact HB.out | apply below_alloc | apply pw_below_drewN | apply below_drew1) | exact HB.out)) hb); have n1_ := Aside0.mk (hbox); have n2_ := Aside0.mk ((by rw [hg]; exact (below_size (by repeat (first | (with_reducible first | exact HB.out | apply below_alloc | apply pw_below_drewN | apply below_drew1) | exact HB.out))) : w.heap.size ≤ gb154)); have n3_ := Aside0.mk ((by rw [hg]; exact (below_size (by repeat (first | (with_reducible first | exact HB.out | apply below_alloc | apply pw_below_drewN | apply below_drew1) | exact HB.out))) : w.heap.size ≤ gb154)); clear HB; have HB := n0_; have BK154 := n1_; have GW154 := n2_; have GE154 := n3_; clear n0_ n1_ n2_ n3_; clear hb hbox hg; have hcz15_0 : w14.cell? ⟨gb154, 0, none⟩ = some (.int .i64 a0_0) := (blk_cell BK154.out 0).trans rfl; have hcz15_1 : w14.cell? ⟨gb154, 1, none⟩ = some (.int .i64 a0_1) := (blk_cell BK154.out 1).trans rfl; have hcz15_2 : w14.cell? ⟨gb154, 2, none⟩ = some (.string a0_2) := (blk_cell BK154.out 2).trans rfl; have hcz15_3 : w14.cell? ⟨gb154, 3, none⟩ = some (.slice A0_3 l0_3.length c0_3) := (blk_cell BK154.out 3).trans rfl; have hfz15_0 := blk_frozen BK154.out 0; have hfz15_1 := blk_frozen BK154.out 1; have hfz15_2 := blk_frozen BK154.out 2; have hfz15_3 := blk_frozen BK154.out 3))
    go_ret
    exact ⟨by first | rfl | (simp [errW_none, errW_some] <;> rfl) | (simp [*, errW_none, errW_some] <;> rfl), by repeat (first | (with_reducible first | exact HB.out | apply below_alloc | apply pw_below_drewN | apply below_drew1 | refine below_set ?_ GE154.out) | exact HB.out)⟩

/-! ### vinculumref03_Number: function 25 -/
def vinculumref03_Number.f (a0_0 : Int) (a0_1 : Int) (a0_2 : ByteArray) (l0_3 : List (S24)) : Option (Int) := if a0_0 = 2 then (some (IntKind.u64.wrap ((a0_2.size : Int)))) else (if a0_0 = 3 then (some (IntKind.u64.wrap ((l0_3.length : Int)))) else (if a0_1 < 0 then (some (IntKind.u64.wrap ((IntKind.u64.wrap (2 * (IntKind.u64.wrap (wrap64 (-(wrap64 (a0_1 + 1))))))) + 1))) else (some (IntKind.u64.wrap (2 * (IntKind.u64.wrap (a0_1)))))))
set_option maxHeartbeats 8000000 in
set_option maxRecDepth 100000 in
theorem vinculumref03_Number.calls (a0_0 : Int) (a0_1 : Int) (a0_2 : ByteArray) (A0_3 : Option Addr) (c0_3 : Nat) (l0_3 : List (S24)) (r : Int) (w : World) (hr0_3 : Kd.C k24 w A0_3 l0_3.length l0_3) (hc0_3 : l0_3.length ≤ c0_3) (h : vinculumref03_Number.f a0_0 a0_1 a0_2 l0_3 = some r) :
    Calls Try.prog 25 #[.agg #[.int .i64 a0_0, .int .i64 a0_1, .string a0_2, .slice A0_3 l0_3.length c0_3]] w fun e w' => e = .returned (.int .u64 r) ∧ Below w.heap.size w w' := by
  have hu24 := Try.underlying24
  have HR0_3 := Aside0.mk hr0_3
  have HC0_3 := Aside0.mk hc0_3
  clear hr0_3 hc0_3
  have HB := Aside0.mk (Below.refl w.heap.size w)
  have H : (if a0_0 = 2 then (some (IntKind.u64.wrap ((a0_2.size : Int)))) else (if a0_0 = 3 then (some (IntKind.u64.wrap ((l0_3.length : Int)))) else (if a0_1 < 0 then (some (IntKind.u64.wrap ((IntKind.u64.wrap (2 * (IntKind.u64.wrap (wrap64 (-(wrap64 (a0_1 + 1))))))) + 1))) else (some (IntKind.u64.wrap (2 * (IntKind.u64.wrap (a0_1)))))))) = some r := h
  clear h
  by_cases c2 : a0_0 = 2
  · rw [if_pos c2] at H
    have c2b0 : (a0_0 == 2) = true := beq_iff_eq.mpr c2
    have c2b1 : (a0_0 != 2) = false := bne_eq_false_iff_eq.mpr c2
    clear c2
    obtain rfl := Option.some.inj H
    go_enter Try.func25, Try.ntmps25
    go_wp2_with (first | ((with_reducible refine gate_dst (N := 1) rfl ?_); refine box_event ?hg (N := 1) ?hd (cs := #[.int .i64 a0_0, .int .i64 a0_1, .string a0_2, .slice A0_3 l0_3.length c0_3]) (t := 24) ?hr ?_; (case hd => rfl); (case hg => rfl); (case hr => first | (go_simp; done) | (go_simp; rfl)); intro gb158 hg w3 hbox hb; have n0_ := Aside0.mk (below_step (by repeat (first | (with_reducible first | exact HB.out | apply below_alloc | apply pw_below_drewN | apply below_drew1) | exact HB.out)) hb); have n1_ := Aside0.mk (hbox); have n2_ := Aside0.mk ((by rw [hg]; exact (below_size (by repeat (first | (with_reducible first | exact HB.out | apply below_alloc | apply pw_below_drewN | apply below_drew1) | exact HB.out))) : w.heap.size ≤ gb158)); have n3_ := Aside0.mk ((by rw [hg]; exact (below_size (by repeat (first | (with_reducible first | exact HB.out | apply below_alloc | apply pw_below_drewN | apply below_drew1) | exact HB.out))) : w.heap.size ≤ gb158)); clear HB; have HB := n0_; have BK158 := n1_; have GW158 := n2_; have GE158 := n3_; clear n0_ n1_ n2_ n3_; clear hb hbox hg; have hcz4_0 : w3.cell? ⟨gb158, 0, none⟩ = some (.int .i64 a0_0) := (blk_cell BK158.out 0).trans rfl; have hcz4_1 : w3.cell? ⟨gb158, 1, none⟩ = some (.int .i64 a0_1) := (blk_cell BK158.out 1).trans rfl; have hcz4_2 : w3.cell? ⟨gb158, 2, none⟩ = some (.string a0_2) := (blk_cell BK158.out 2).trans rfl; have hcz4_3 : w3.cell? ⟨gb158, 3, none⟩ = some (.slice A0_3 l0_3.length c0_3) := (blk_cell BK158.out 3).trans rfl; have hfz4_0 := blk_frozen BK158.out 0; have hfz4_1 := blk_frozen BK158.out 1; have hfz4_2 := blk_frozen BK158.out 2; have hfz4_3 := blk_frozen BK158.out 3))
    go_ret
    exact ⟨by first | rfl | (simp [errW_none, errW_some] <;> rfl) | (simp [*, errW_none, errW_some] <;> rfl), by repeat (first | (with_reducible first | exact HB.out | apply below_alloc | apply pw_below_drewN | apply below_drew1 | refine below_set ?_ GE158.out) | exact HB.out)⟩
  · rw [if_neg c2] at H
    have c2b0 : (a0_0 == 2) = false := beq_eq_false_iff_ne.mpr c2
    have c2b1 : (a0_0 != 2) = true := bne_iff_ne.mpr c2
    by_cases c5 : a0_0 = 3
    · rw [if_pos c5] at H
      have c5b0 : (a0_0 == 3) = true := beq_iff_eq.mpr c5
      have c5b1 : (a0_0 != 3) = false := bne_eq_false_iff_eq.mpr c5
      clear c5
      obtain rfl := Option.some.inj H
      go_enter Try.func25, Try.ntmps25
      go_wp2_with (first | ((with_reducible refine gate_dst (N := 1) rfl ?_); refine box_event ?hg (N := 1) ?hd (cs := #[.int .i64 a0_0, .int .i64 a0_1, .string a0_2, .slice A0_3 l0_3.length c0_3]) (t := 24) ?hr ?_; (case hd => rfl); (case hg => rfl); (case hr => first | (go_simp; done) | (go_simp; rfl)); intro gb158 hg w6 hbox hb; have n0_ := Aside0.mk (below_step (by repeat (first | (with_reducible first | exact HB.out | apply below_alloc | apply pw_below_drewN | apply below_drew1) | exact HB.out)) hb); have n1_ := Aside0.mk (hbox); have n2_ := Aside0.mk ((by rw [hg]; exact (below_size (by repeat (first | (with_reducible first | exact HB.out | apply below_alloc | apply pw_below_drewN | apply below_drew1) | exact HB.out))) : w.heap.size ≤ gb158)); have n3_ := Aside0.mk ((by rw [hg]; exact (below_size (by repeat (first | (with_reducible first | exact HB.out | apply below_alloc | apply pw_below_drewN | apply below_drew1) | exact HB.out))) : w.heap.size ≤ gb158)); clear HB; have HB := n0_; have BK158 := n1_; have GW158 := n2_; have GE158 := n3_; clear n0_ n1_ n2_ n3_; clear hb hbox hg; have hcz7_0 : w6.cell? ⟨gb158, 0, none⟩ = some (.int .i64 a0_0) := (blk_cell BK158.out 0).trans rfl; have hcz7_1 : w6.cell? ⟨gb158, 1, none⟩ = some (.int .i64 a0_1) := (blk_cell BK158.out 1).trans rfl; have hcz7_2 : w6.cell? ⟨gb158, 2, none⟩ = some (.string a0_2) := (blk_cell BK158.out 2).trans rfl; have hcz7_3 : w6.cell? ⟨gb158, 3, none⟩ = some (.slice A0_3 l0_3.length c0_3) := (blk_cell BK158.out 3).trans rfl; have hfz7_0 := blk_frozen BK158.out 0; have hfz7_1 := blk_frozen BK158.out 1; have hfz7_2 := blk_frozen BK158.out 2; have hfz7_3 := blk_frozen BK158.out 3))
      go_ret
      exact ⟨by first | rfl | (simp [errW_none, errW_some] <;> rfl) | (simp [*, errW_none, errW_some] <;> rfl), by repeat (first | (with_reducible first | exact HB.out | apply below_alloc | apply pw_below_drewN | apply below_drew1 | refine below_set ?_ GE158.out) | exact HB.out)⟩
    · rw [if_neg c5] at H
      have c5b0 : (a0_0 == 3) = false := beq_eq_false_iff_ne.mpr c5
      have c5b1 : (a0_0 != 3) = true := bne_iff_ne.mpr c5
      by_cases c8 : a0_1 < 0
      · rw [if_pos c8] at H
        have c8b0 : decide (a0_1 < 0) = true := decide_eq_true c8
        clear c8
        obtain rfl := Option.some.inj H
        go_enter Try.func25, Try.ntmps25
        go_wp2_with (first | ((with_reducible refine gate_dst (N := 1) rfl ?_); refine box_event ?hg (N := 1) ?hd (cs := #[.int .i64 a0_0, .int .i64 a0_1, .string a0_2, .slice A0_3 l0_3.length c0_3]) (t := 24) ?hr ?_; (case hd => rfl); (case hg => rfl); (case hr => first | (go_simp; done) | (go_simp; rfl)); intro gb158 hg w9 hbox hb; have n0_ := Aside0.mk (below_step (by repeat (first | (with_reducible first | exact HB.out | apply below_alloc | apply pw_below_drewN | apply below_drew1) | exact HB.out)) hb); have n1_ := Aside0.mk (hbox); have n2_ := Aside0.mk ((by rw [hg]; exact (below_size (by repeat (first | (with_reducible first | exact HB.out | apply below_alloc | apply pw_below_drewN | apply below_drew1) | exact HB.out))) : w.heap.size ≤ gb158)); have n3_ := Aside0.mk ((by rw [hg]; exact (below_size (by repeat (first | (with_reducible first | exact HB.out | apply below_alloc | apply pw_below_drewN | apply below_drew1) | exact HB.out))) : w.heap.size ≤ gb158)); clear HB; have HB := n0_; have BK158 := n1_; have GW158 := n2_; have GE158 := n3_; clear n0_ n1_ n2_ n3_; clear hb hbox hg; have hcz10_0 : w9.cell? ⟨gb158, 0, none⟩ = some (.int .i64 a0_0) := (blk_cell BK158.out 0).trans rfl; have hcz10_1 : w9.cell? ⟨gb158, 1, none⟩ = some (.int .i64 a0_1) := (blk_cell BK158.out 1).trans rfl; have hcz10_2 : w9.cell? ⟨gb158, 2, none⟩ = some (.string a0_2) := (blk_cell BK158.out 2).trans rfl; have hcz10_3 : w9.cell? ⟨gb158, 3, none⟩ = some (.slice A0_3 l0_3.length c0_3) := (blk_cell BK158.out 3).trans rfl; have hfz10_0 := blk_frozen BK158.out 0; have hfz10_1 := blk_frozen BK158.out 1; have hfz10_2 := blk_frozen BK158.out 2; have hfz10_3 := blk_frozen BK158.out 3))
        go_ret
        exact ⟨by first | rfl | (simp [errW_none, errW_some] <;> rfl) | (simp [*, errW_none, errW_some] <;> rfl), by repeat (first | (with_reducible first | exact HB.out | apply below_alloc | apply pw_below_drewN | apply below_drew1 | refine below_set ?_ GE158.out) | exact HB.out)⟩
      · rw [if_neg c8] at H
        have c8b0 : decide (a0_1 < 0) = false := decide_eq_false c8
        clear c8
        obtain rfl := Option.some.inj H
        go_enter Try.func25, Try.ntmps25
        go_wp2_with (first | ((with_reducible refine gate_dst (N := 1) rfl ?_); refine box_event ?hg (N := 1) ?hd (cs := #[.int .i64 a0_0, .int .i64 a0_1, .string a0_2, .slice A0_3 l0_3.length c0_3]) (t := 24) ?hr ?_; (case hd => rfl); (case hg => rfl); (case hr => first | (go_simp; done) | (go_simp; rfl)); intro gb158 hg w11 hbox hb; have n0_ := Aside0.mk (below_step (by repeat (first | (with_reducible first | exact HB.out | apply below_alloc | apply pw_below_drewN | apply below_drew1) | exact HB.out)) hb); have n1_ := Aside0.mk (hbox); have n2_ := Aside0.mk ((by rw [hg]; exact (below_size (by repeat (first | (with_reducible first | exact HB.out | apply below_alloc | apply pw_below_drewN | apply below_drew1) | exact HB.out))) : w.heap.size ≤ gb158)); have n3_ := Aside0.mk ((by rw [hg]; exact (below_size (by repeat (first | (with_reducible first | exact HB.out | apply below_alloc | apply pw_below_drewN | apply below_drew1) | exact HB.out))) : w.heap.size ≤ gb158)); clear HB; have HB := n0_; have BK158 := n1_; have GW158 := n2_; have GE158 := n3_; clear n0_ n1_ n2_ n3_; clear hb hbox hg; have hcz12_0 : w11.cell? ⟨gb158, 0, none⟩ = some (.int .i64 a0_0) := (blk_cell BK158.out 0).trans rfl; have hcz12_1 : w11.cell? ⟨gb158, 1, none⟩ = some (.int .i64 a0_1) := (blk_cell BK158.out 1).trans rfl; have hcz12_2 : w11.cell? ⟨gb158, 2, none⟩ = some (.string a0_2) := (blk_cell BK158.out 2).trans rfl; have hcz12_3 : w11.cell? ⟨gb158, 3, none⟩ = some (.slice A0_3 l0_3.length c0_3) := (blk_cell BK158.out 3).trans rfl; have hfz12_0 := blk_frozen BK158.out 0; have hfz12_1 := blk_frozen BK158.out 1; have hfz12_2 := blk_frozen BK158.out 2; have hfz12_3 := blk_frozen BK158.out 3))
        go_ret
        exact ⟨by first | rfl | (simp [errW_none, errW_some] <;> rfl) | (simp [*, errW_none, errW_some] <;> rfl), by repeat (first | (with_reducible first | exact HB.out | apply below_alloc | apply pw_below_drewN | apply below_drew1 | refine below_set ?_ GE158.out) | exact HB.out)⟩

/-! ### vinculumref03_Head: function 33 -/
def vinculumref03_Head.l0 : Nat → Int → List Int → Int → Int → ByteArray → List (S24) → Option (List Int)
  | 0, _, _, _, _, _, _ => none
  | k + 1, x3, x4, x160000, x160001, x160002, x160003 => if x3 > 0 then ((some (([(Int.tmod x3 256) % 256] : List Int) : List Int)).bind fun y164 => (if y164.length + x4.length < 140737488355328 then (vinculumref03_Head.l0 k (IntKind.u64.wrap (Int.tdiv x3 256)) (y164 ++ x4) x160000 x160001 x160002 x160003) else (none))) else ((some (([(wrap64 ((wrap64 ((wrap64 (64 * x160000)) + 55)) + (x4.length : Int))) % 256] : List Int) : List Int)).bind fun y170 => (if y170.length + x4.length < 140737488355328 then (some (y170 ++ x4)) else (none)))
def vinculumref03_Head.f (k : Nat) (a0_0 : Int) (a0_1 : Int) (a0_2 : ByteArray) (l0_3 : List (S24)) : Option (List Int) := (vinculumref03_Number.f a0_0 a0_1 a0_2 l0_3).bind fun t160 => (if t160 < 56 then (some (([(wrap64 ((wrap64 (64 * a0_0)) + (wrap64 (t160)))) % 256] : List Int))) else (vinculumref03_Head.l0 k t160 ([] : List Int) a0_0 a0_1 a0_2 l0_3))
theorem vinculumref03_Head.mono_l : ∀ k, (∀ y0 y1 y2 y3 y4 y5, LeO (vinculumref03_Head.l0 k y0 y1 y2 y3 y4 y5) (vinculumref03_Head.l0 (k + 1) y0 y1 y2 y3 y4 y5))
  | 0 => fun _ _ _ _ _ _ r h => by simp [vinculumref03_Head.l0] at h
  | k + 1 => by
    have ih0 := vinculumref03_Head.mono_l k
    · intro y0 y1 y2 y3 y4 y5
      unfold vinculumref03_Head.l0
      repeat' first
      | (with_reducible exact ih0 _ _ _ _ _ _)
      | (with_reducible exact LeO.refl _)
      | (with_reducible exact LeO.none _)
      | (with_reducible refine LeO.ite ?_ ?_)
      | (with_reducible refine LeO.bind ?_ (fun _ => ?_))
      | exact ih0 _ _ _ _ _ _
      | exact LeO.none _
      | refine LeO.ite ?_ ?_
      | refine LeO.bind ?_ (fun _ => ?_)
theorem vinculumref03_Head.mono : ∀ a0 a1 a2 a3 k, LeO (vinculumref03_Head.f k a0 a1 a2 a3) (vinculumref03_Head.f (k + 1) a0 a1 a2 a3) := by
  intro a0 a1 a2 a3 k
  have ih0 := vinculumref03_Head.mono_l k
  unfold vinculumref03_Head.f
  repeat' first
      | (with_reducible exact ih0 _ _ _ _ _ _)
      | (with_reducible exact LeO.refl _)
      | (with_reducible exact LeO.none _)
      | (with_reducible refine LeO.ite ?_ ?_)
      | (with_reducible refine LeO.bind ?_ (fun _ => ?_))
      | exact ih0 _ _ _ _ _ _
      | exact LeO.none _
      | refine LeO.ite ?_ ?_
      | refine LeO.bind ?_ (fun _ => ?_)
set_option maxHeartbeats 8000000 in
set_option maxRecDepth 100000 in
theorem vinculumref03_Head.calls (k : Nat) (a0_0 : Int) (a0_1 : Int) (a0_2 : ByteArray) (A0_3 : Option Addr) (c0_3 : Nat) (l0_3 : List (S24)) (r : List Int) (w : World) (hr0_3 : Kd.C k24 w A0_3 l0_3.length l0_3) (hc0_3 : l0_3.length ≤ c0_3) (h : vinculumref03_Head.f k a0_0 a0_1 a0_2 l0_3 = some r) :
    Calls Try.prog 33 #[.agg #[.int .i64 a0_0, .int .i64 a0_1, .string a0_2, .slice A0_3 l0_3.length c0_3]] w fun e w' => ∃ v0_ : Value, e = .returned (v0_) ∧ Kd.R (Kd.int .u8) 5 w' w.heap.size (fun _ => True) v0_ r ∧ Below w.heap.size w w' := by
  have hu24 := Try.underlying24
  have HR0_3 := Aside0.mk hr0_3
  have HC0_3 := Aside0.mk hc0_3
  clear hr0_3 hc0_3
  have HB := Aside0.mk (Below.refl w.heap.size w)
  have H : ((vinculumref03_Number.f a0_0 a0_1 a0_2 l0_3).bind fun t160 => (if t160 < 56 then (some (([(wrap64 ((wrap64 (64 * a0_0)) + (wrap64 (t160)))) % 256] : List Int))) else (vinculumref03_Head.l0 k t160 ([] : List Int) a0_0 a0_1 a0_2 l0_3))) = some r := h
  clear h
  replace H := Option.bind_eq_some_iff.mp H
  obtain ⟨t160, A20, H⟩ := H
  replace H : (if t160 < 56 then (some (([(wrap64 ((wrap64 (64 * a0_0)) + (wrap64 (t160)))) % 256] : List Int))) else (vinculumref03_Head.l0 k t160 ([] : List Int) a0_0 a0_1 a0_2 l0_3)) = some r := H
  have A2 := Aside0.mk A20
  clear A20
  by_cases c3 : t160 < 56
  · rw [if_pos c3] at H
    have c3b0 : decide (t160 < 56) = true := decide_eq_true c3
    clear c3
    obtain ⟨y161, hy161⟩ : ∃ y_ : List Int, y_ = (([(wrap64 ((wrap64 (64 * a0_0)) + (wrap64 (t160)))) % 256] : List Int)) := ⟨_, rfl⟩
    replace H : (some y161) = some r := by first | (rw [hy161]; with_reducible exact H) | (have H2_ := (Option.bind_some _ _).symm.trans H; rw [hy161]; with_reducible exact H2_) | (have H2_ := (Option.bind_some _ _).symm.trans H; with_reducible exact H2_) | with_reducible exact H | (rw [hy161]; exact H) | exact H
    have Ny161 := Aside0.mk hy161
    clear hy161
    obtain rfl := Option.some.inj H
    go_enter Try.func33, Try.ntmps33
    go_wp2_with (first | ((with_reducible refine gate_dst (N := 1) rfl ?_); refine box_event ?hg (N := 1) ?hd (cs := #[.int .i64 a0_0, .int .i64 a0_1, .string a0_2, .slice A0_3 l0_3.length c0_3]) (t := 24) ?hr ?_; (case hd => rfl); (case hg => rfl); (case hr => first | (go_simp; done) | (go_simp; rfl)); intro gb159 hg w4 hbox hb; have n0_ := Aside0.mk (below_step (by repeat (first | (with_reducible first | exact HB.out | apply below_alloc | apply pw_below_drewN | apply below_drew1) | exact HB.out)) hb); have n1_ := Aside0.mk (hbox); have n2_ := Aside0.mk ((by rw [hg]; exact (below_size (by repeat (first | (with_reducible first | exact HB.out | apply below_alloc | apply pw_below_drewN | apply below_drew1) | exact HB.out))) : w.heap.size ≤ gb159)); have n3_ := Aside0.mk ((by rw [hg]; exact (below_size (by repeat (first | (with_reducible first | exact HB.out | apply below_alloc | apply pw_below_drewN | apply below_drew1) | exact HB.out))) : w.heap.size ≤ gb159)); clear HB; have HB := n0_; have BK159 := n1_; have GW159 := n2_; have GE159 := n3_; clear n0_ n1_ n2_ n3_; clear hb hbox hg; have hcz5_0 : w4.cell? ⟨gb159, 0, none⟩ = some (.int .i64 a0_0) := (blk_cell BK159.out 0).trans rfl; have hcz5_1 : w4.cell? ⟨gb159, 1, none⟩ = some (.int .i64 a0_1) := (blk_cell BK159.out 1).trans rfl; have hcz5_2 : w4.cell? ⟨gb159, 2, none⟩ = some (.string a0_2) := (blk_cell BK159.out 2).trans rfl; have hcz5_3 : w4.cell? ⟨gb159, 3, none⟩ = some (.slice A0_3 l0_3.length c0_3) := (blk_cell BK159.out 3).trans rfl; have hfz5_0 := blk_frozen BK159.out 0; have hfz5_1 := blk_frozen BK159.out 1; have hfz5_2 := blk_frozen BK159.out 2; have hfz5_3 := blk_frozen BK159.out 3) | ((with_reducible refine gate_callee (f := 25) rfl ?_); refine goesL_ (some 6) rfl rfl Try.func25 (by kernel_rfl) rfl #[.agg #[.int .i64 a0_0, .int .i64 a0_1, .string a0_2, .slice A0_3 l0_3.length c0_3]] rfl (by (try simp only [List.map_toArray, List.map_cons, List.map_nil]); first | done | rfl | (simp only [List.length_drop, List.length_take]; rfl)) ?_; (with_reducible refine (vinculumref03_Number.calls a0_0 a0_1 a0_2 _ _ l0_3 t160 _ ?side1 ?side2 A2.out).mono ?_); (case side1 => repeat (first | exact (Kd.C_below HR0_3.out HB.out) | (with_reducible refine Kd.C_alloc ?_ _) | (with_reducible refine Kd.C_drewN ?_ _) | (with_reducible refine Kd.C_drew ?_))); (case side2 => exact HC0_3.out); rintro e w6 ⟨rfl, hb⟩; refine ⟨_, rfl, ?_⟩; have n0_ := Aside0.mk (blk_below (g := gb159) (o := .cells #[.int .i64 a0_0, .int .i64 a0_1, .string a0_2, .slice A0_3 l0_3.length c0_3] 24 (0, 0)) (by (with_reducible repeat (first | refine blk_drewN ?_ _ | refine blk_drew ?_ | refine blk_alloc ?_ _)); exact BK159.out) hb); have n1_ := Aside0.mk (below_step (by repeat (first | (with_reducible first | exact HB.out | apply below_alloc | apply pw_below_drewN | apply below_drew1 | refine below_set ?_ GE159.out) | exact HB.out)) hb); clear BK159; clear HB; have BK159 := n0_; have HB := n1_; clear n0_ n1_; (try clear hb); (try clear hb2); (try clear hk); (try clear hi); have hcz7_0 : w6.cell? ⟨gb159, 0, none⟩ = some (.int .i64 a0_0) := (blk_cell BK159.out 0).trans rfl; have hcz7_1 : w6.cell? ⟨gb159, 1, none⟩ = some (.int .i64 a0_1) := (blk_cell BK159.out 1).trans rfl; have hcz7_2 : w6.cell? ⟨gb159, 2, none⟩ = some (.string a0_2) := (blk_cell BK159.out 2).trans rfl; have hcz7_3 : w6.cell? ⟨gb159, 3, none⟩ = some (.slice A0_3 l0_3.length c0_3) := (blk_cell BK159.out 3).trans rfl; have hfz7_0 := blk_frozen BK159.out 0; have hfz7_1 := blk_frozen BK159.out 1; have hfz7_2 := blk_frozen BK159.out 2; have hfz7_3 := blk_frozen BK159.out 3) | ((with_reducible refine gate_dst (N := 16) rfl ?_); refine Kd.R_lit (Kd.int .u8) _ 5 ?hg (N := 16) ?hd (xs := ([(wrap64 ((wrap64 (64 * a0_0)) + (wrap64 (t160)))) % 256] : List Int)) (inner := [.int .u8 ((wrap64 ((wrap64 (64 * a0_0)) + (wrap64 (t160)))) % 256)]) (ok := fun _ => True) (okp := fun _ => True) ?hr ?hp (fun _ hk => hk) trivial (Below.refl _ _) (Nat.le_refl _) (by simp) ?_; (case hd => rfl); (case hg => rfl); (case hr => first | (go_simp; done) | (go_simp; rfl)); (case hp => exact (Reps.one (show Kd.M (Kd.int .u8) _ _ _ ((wrap64 ((wrap64 (64 * a0_0)) + (wrap64 (t160)))) % 256) [.int .u8 ((wrap64 ((wrap64 (64 * a0_0)) + (wrap64 (t160)))) % 256)] from rfl) (Reps.none _ _))); intro v162 w8 ho9 hb hg_ hnew_; clear hg_ hnew_; (first | rw [← Ny161.out] at ho9 | (simp only [Int.reduceToNat] at ho9; rw [← Ny161.out] at ho9)); have n0_ := Aside0.mk (Kd.R_lower ho9 (below_size (by repeat (first | (with_reducible first | exact HB.out | apply below_alloc | apply pw_below_drewN | apply below_drew1 | refine below_set ?_ GE159.out) | exact HB.out)))); have n1_ := Aside0.mk (blk_below (g := gb159) (o := .cells #[.int .i64 a0_0, .int .i64 a0_1, .string a0_2, .slice A0_3 l0_3.length c0_3] 24 (0, 0)) (by (with_reducible repeat (first | refine blk_drewN ?_ _ | refine blk_drew ?_ | refine blk_alloc ?_ _)); exact BK159.out) hb); have n2_ := Aside0.mk (below_step (by repeat (first | (with_reducible first | exact HB.out | apply below_alloc | apply pw_below_drewN | apply below_drew1 | refine below_set ?_ GE159.out) | exact HB.out)) hb); clear BK159; clear HB; have HO163 := n0_; have BK159 := n1_; have HB := n2_; clear n0_ n1_ n2_; clear hb ho9))
    go_ret
    exact ⟨_, by first | rfl | (simp [errW_none, errW_some] <;> rfl) | (simp [*, errW_none, errW_some] <;> rfl), by (with_reducible repeat (first | apply Kd.R_alloc | apply Kd.R_drewN | apply Kd.R_drew)); exact HO163.out, by repeat (first | (with_reducible first | exact HB.out | apply below_alloc | apply pw_below_drewN | apply below_drew1 | refine below_set ?_ GE159.out) | exact HB.out)⟩
  · rw [if_neg c3] at H
    have c3b0 : decide (t160 < 56) = false := decide_eq_false c3
    clear c3
    have H' := Aside0.mk H
    clear H
    go_enter Try.func33, Try.ntmps33
    go_wp2_with (first | ((with_reducible refine gate_dst (N := 1) rfl ?_); refine box_event ?hg (N := 1) ?hd (cs := #[.int .i64 a0_0, .int .i64 a0_1, .string a0_2, .slice A0_3 l0_3.length c0_3]) (t := 24) ?hr ?_; (case hd => rfl); (case hg => rfl); (case hr => first | (go_simp; done) | (go_simp; rfl)); intro gb159 hg w10 hbox hb; have n0_ := Aside0.mk (below_step (by repeat (first | (with_reducible first | exact HB.out | apply below_alloc | apply pw_below_drewN | apply below_drew1) | exact HB.out)) hb); have n1_ := Aside0.mk (hbox); have n2_ := Aside0.mk ((by rw [hg]; exact (below_size (by repeat (first | (with_reducible first | exact HB.out | apply below_alloc | apply pw_below_drewN | apply below_drew1) | exact HB.out))) : w.heap.size ≤ gb159)); have n3_ := Aside0.mk ((by rw [hg]; exact (below_size (by repeat (first | (with_reducible first | exact HB.out | apply below_alloc | apply pw_below_drewN | apply below_drew1) | exact HB.out))) : w.heap.size ≤ gb159)); clear HB; have HB := n0_; have BK159 := n1_; have GW159 := n2_; have GE159 := n3_; clear n0_ n1_ n2_ n3_; clear hb hbox hg; have hcz11_0 : w10.cell? ⟨gb159, 0, none⟩ = some (.int .i64 a0_0) := (blk_cell BK159.out 0).trans rfl; have hcz11_1 : w10.cell? ⟨gb159, 1, none⟩ = some (.int .i64 a0_1) := (blk_cell BK159.out 1).trans rfl; have hcz11_2 : w10.cell? ⟨gb159, 2, none⟩ = some (.string a0_2) := (blk_cell BK159.out 2).trans rfl; have hcz11_3 : w10.cell? ⟨gb159, 3, none⟩ = some (.slice A0_3 l0_3.length c0_3) := (blk_cell BK159.out 3).trans rfl; have hfz11_0 := blk_frozen BK159.out 0; have hfz11_1 := blk_frozen BK159.out 1; have hfz11_2 := blk_frozen BK159.out 2; have hfz11_3 := blk_frozen BK159.out 3) | ((with_reducible refine gate_callee (f := 25) rfl ?_); refine goesL_ (some 6) rfl rfl Try.func25 (by kernel_rfl) rfl #[.agg #[.int .i64 a0_0, .int .i64 a0_1, .string a0_2, .slice A0_3 l0_3.length c0_3]] rfl (by (try simp only [List.map_toArray, List.map_cons, List.map_nil]); first | done | rfl | (simp only [List.length_drop, List.length_take]; rfl)) ?_; (with_reducible refine (vinculumref03_Number.calls a0_0 a0_1 a0_2 _ _ l0_3 t160 _ ?side1 ?side2 A2.out).mono ?_); (case side1 => repeat (first | exact (Kd.C_below HR0_3.out HB.out) | (with_reducible refine Kd.C_alloc ?_ _) | (with_reducible refine Kd.C_drewN ?_ _) | (with_reducible refine Kd.C_drew ?_))); (case side2 => exact HC0_3.out); rintro e w12 ⟨rfl, hb⟩; refine ⟨_, rfl, ?_⟩; have n0_ := Aside0.mk (blk_below (g := gb159) (o := .cells #[.int .i64 a0_0, .int .i64 a0_1, .string a0_2, .slice A0_3 l0_3.length c0_3] 24 (0, 0)) (by (with_reducible repeat (first | refine blk_drewN ?_ _ | refine blk_drew ?_ | refine blk_alloc ?_ _)); exact BK159.out) hb); have n1_ := Aside0.mk (below_step (by repeat (first | (with_reducible first | exact HB.out | apply below_alloc | apply pw_below_drewN | apply below_drew1 | refine below_set ?_ GE159.out) | exact HB.out)) hb); clear BK159; clear HB; have BK159 := n0_; have HB := n1_; clear n0_ n1_; (try clear hb); (try clear hb2); (try clear hk); (try clear hi)))
    go_loopg [3, 4] k (fun kq v3 v4 w' => ∃ (x3_1 : Int) (x4_1 : List Int), v3 = .int .u64 x3_1 ∧ Aside0 (vinculumref03_Head.l0 kq x3_1 x4_1 a0_0 a0_1 a0_2 l0_3 = some r) ∧ Aside0 (kq ≤ k) ∧ Aside0 (Kd.R (Kd.int .u8) 5 w' w.heap.size (fun _ => True) v4 x4_1) ∧ Aside0 (w'.heap[gb159]? = some (.cells #[.int .i64 a0_0, .int .i64 a0_1, .string a0_2, (.slice A0_3 l0_3.length c0_3)] 24 (0, 0))) ∧ Aside0 (Below w.heap.size w w'))
    case atStart => exact ⟨(t160), (([] : List Int)), (by first | rfl | (simp; done) | (simp [*]; done) | (simp [ne_nil_bool]; done)), H', ⟨Nat.le_refl _⟩, ⟨by first | exact Kd.R_nil _ _ _ _ _ | exact Kd.N_nil _ _ _ _ _ | exact Kd.V_nil _ _ _ _ _ | exact Kd.Q_nil _ _ _ _ _ | exact Kd.S_nil _ _ _ _ _⟩, ⟨by (with_reducible repeat (first | refine blk_drewN ?_ _ | refine blk_drew ?_ | refine blk_alloc ?_ _)); exact BK159.out⟩, ⟨by repeat (first | (with_reducible first | exact HB.out | apply below_alloc | apply pw_below_drewN | apply below_drew1 | refine below_set ?_ GE159.out) | exact HB.out)⟩⟩
    case round =>
      clear H'
      try clear c2
      try clear p2
      try clear c3
      try clear c3b0
      try clear p6
      try clear hcz11_0
      try clear hcz11_1
      try clear hcz11_2
      try clear hcz11_3
      try clear hcz5_0
      try clear hcz5_1
      try clear hcz5_2
      try clear hcz5_3
      try clear hcz7_0
      try clear hcz7_1
      try clear hcz7_2
      try clear hcz7_3
      try clear hfz11_0
      try clear hfz11_1
      try clear hfz11_2
      try clear hfz11_3
      try clear hfz5_0
      try clear hfz5_1
      try clear hfz5_2
      try clear hfz5_3
      try clear hfz7_0
      try clear hfz7_1
      try clear hfz7_2
      try clear hfz7_3
      obtain ⟨x3_1, x4_1, rfl, HA, HK1, HO_4, BK159, HB⟩ := hrel
      cases gk with
      | zero => exact absurd HA.out (by simp [vinculumref03_Head.l0])
      | succ k1 =>
        have H := HA.out
        clear HA
        simp only [vinculumref03_Head.l0] at H
        by_cases c13 : x3_1 > 0
        · rw [if_pos c13] at H
          have c13b0 : decide (0 < x3_1) = true := decide_eq_true c13
          clear c13
          obtain ⟨y164, hy164⟩ : ∃ y_ : List Int, y_ = (([(Int.tmod x3_1 256) % 256] : List Int)) := ⟨_, rfl⟩
          replace H : (if y164.length + x4_1.length < 140737488355328 then (vinculumref03_Head.l0 k1 (IntKind.u64.wrap (Int.tdiv x3_1 256)) (y164 ++ x4_1) a0_0 a0_1 a0_2 l0_3) else (none)) = some r := by first | (rw [hy164]; with_reducible exact H) | (have H2_ := (Option.bind_some _ _).symm.trans H; rw [hy164]; with_reducible exact H2_) | (have H2_ := (Option.bind_some _ _).symm.trans H; with_reducible exact H2_) | with_reducible exact H | (rw [hy164]; exact H) | exact H
          have Ny164 := Aside0.mk hy164
          clear hy164
          by_cases c14 : y164.length + x4_1.length < 140737488355328
          · rw [if_pos c14] at H
            have LMc14 := Aside0.mk c14
            clear c14
            obtain ⟨y167, hy167⟩ : ∃ y_ : List Int, y_ = (y164 ++ x4_1) := ⟨_, rfl⟩
            replace H : (vinculumref03_Head.l0 k1 (IntKind.u64.wrap (Int.tdiv x3_1 256)) y167 a0_0 a0_1 a0_2 l0_3) = some r := by first | (rw [hy167]; with_reducible exact H) | (have H2_ := (Option.bind_some _ _).symm.trans H; rw [hy167]; with_reducible exact H2_) | (have H2_ := (Option.bind_some _ _).symm.trans H; with_reducible exact H2_) | with_reducible exact H | (rw [hy167]; exact H) | exact H
            have Ny167 := Aside0.mk hy167
            clear hy167
            have H' := Aside0.mk H
            clear H
            go_wp2_with (first | ((with_reducible refine gate_dst (N := 22) rfl ?_); refine Kd.R_lit (Kd.int .u8) _ 5 ?hg (N := 22) ?hd (xs := ([(Int.tmod x3_1 256) % 256] : List Int)) (inner := [.int .u8 ((Int.tmod x3_1 256) % 256)]) (ok := fun _ => True) (okp := fun _ => True) ?hr ?hp (fun _ hk => hk) trivial (Below.refl _ _) (Nat.le_refl _) (by simp) ?_; (case hd => rfl); (case hg => rfl); (case hr => first | (go_simp; done) | (go_simp; rfl)); (case hp => exact (Reps.one (show Kd.M (Kd.int .u8) _ _ _ ((Int.tmod x3_1 256) % 256) [.int .u8 ((Int.tmod x3_1 256) % 256)] from rfl) (Reps.none _ _))); intro v165 w15 ho16 hb hg_ hnew_; clear hg_ hnew_; (first | rw [← Ny164.out] at ho16 | (simp only [Int.reduceToNat] at ho16; rw [← Ny164.out] at ho16)); have n0_ := Aside0.mk (Kd.R_elder' (by (with_reducible repeat (first | apply Kd.R_alloc | apply Kd.R_drewN | apply Kd.R_drew)); exact HO_4.out) (Kd.R_base ho16) hb); have n1_ := Aside0.mk (Kd.R_lower (Kd.R_new' ho16 (Kd.R_lt (by (with_reducible repeat (first | apply Kd.R_alloc | apply Kd.R_drewN | apply Kd.R_drew)); exact HO_4.out))) (below_size (by repeat (first | (with_reducible first | exact HB.out | apply below_alloc | apply pw_below_drewN | apply below_drew1 | refine below_set ?_ GE159.out) | exact HB.out)))); have n2_ := Aside0.mk (blk_below (g := gb159) (o := .cells #[.int .i64 a0_0, .int .i64 a0_1, .string a0_2, .slice A0_3 l0_3.length c0_3] 24 (0, 0)) (by (with_reducible repeat (first | refine blk_drewN ?_ _ | refine blk_drew ?_ | refine blk_alloc ?_ _)); exact BK159.out) hb); have n3_ := Aside0.mk (below_step (by repeat (first | (with_reducible first | exact HB.out | apply below_alloc | apply pw_below_drewN | apply below_drew1 | refine below_set ?_ GE159.out) | exact HB.out)) hb); clear HO_4; clear BK159; clear HB; have HO_4 := n0_; have HO166 := n1_; have BK159 := n2_; have HB := n3_; clear n0_ n1_ n2_ n3_; clear hb ho16; obtain ⟨Ao18, co18, eo18⟩ := Kd.R_slice HO_4.out; subst eo18) | ((with_reducible refine gate_builtin (b := .append) (xs := #[.tmp 22, .tmp 23]) rfl ?_); at_builtin; refine Kd.R_append_rows (Kd.int .u8) (w0 := w) w.heap.size rfl (.tmp 22) (.tmp 23) 31 5 (.int .u8 0) 1 rfl Try.underlying31 info5 rfl (by decide) (by omega) v165 y164 x4_1 _ _ _ (fun k_ => some k_ ≠ (.slice Ao18 x4_1.length co18 : Value).ownBlock) (fun _ => False) rfl rfl ?aO ?aR (fun _ _ h => h) (fun _ h => h.elim) ?aF ?aB ?aS ?aL ?_; (case aR => repeat (first | exact (Kd.R_reads' HO_4.out).2.2 | (with_reducible refine Kd.C_alloc ?_ _) | (with_reducible refine Kd.C_drewN ?_ _) | (with_reducible refine Kd.C_drew ?_))); (case aB => exact (by repeat (first | (with_reducible first | exact HB.out | apply below_alloc | apply pw_below_drewN | apply below_drew1 | refine below_set ?_ GE159.out) | exact HB.out))); (case aF => exact (fun k_ hk => Kd.fresh' (Kd.R_lt (by (with_reducible repeat (first | apply Kd.R_alloc | apply Kd.R_drewN | apply Kd.R_drew)); exact HO_4.out)) k_ hk)); (case aO => exact (by (with_reducible repeat (first | apply Kd.R_alloc | apply Kd.R_drewN | apply Kd.R_drew)); exact Kd.R_mono HO166.out (fun _ hk => hk.2))); (case aS => exact (below_size (by repeat (first | (with_reducible first | exact HB.out | apply below_alloc | apply pw_below_drewN | apply below_drew1 | refine below_set ?_ GE159.out) | exact HB.out)))); (case aL => have := LMc14.out; omega); intro v168 w17 ho hb hg hat; rw [← Ny167.out] at ho; have n0_ := Aside0.mk (Kd.R_after (ok := (fun _ => True)) (by (with_reducible repeat (first | apply Kd.R_alloc | apply Kd.R_drewN | apply Kd.R_drew)); exact HO_4.out) hg hat); have n1_ := Aside0.mk (blk_grown (g := gb159) (o := .cells #[.int .i64 a0_0, .int .i64 a0_1, .string a0_2, .slice A0_3 l0_3.length c0_3] 24 (0, 0)) (by (with_reducible repeat (first | refine blk_drewN ?_ _ | refine blk_drew ?_ | refine blk_alloc ?_ _)); exact BK159.out) hg (Kd.R_ne HO166.out BK159.out (by decide))); have n2_ := Aside0.mk (hb); have n3_ := Aside0.mk (ho); clear HO_4; clear BK159; clear HB; clear HO166; have HO_4 := n0_; have BK159 := n1_; have HB := n2_; have HO169 := n3_; clear n0_ n1_ n2_ n3_; clear ho hb hg hat))
            go_roundg k1
            case measure => have := HK1.out; omega
            case rel => exact ⟨(IntKind.u64.wrap (Int.tdiv x3_1 256)), (y167), (by first | rfl | (simp; done) | (simp [*]; done) | (simp [ne_nil_bool]; done)), H', ⟨by have := HK1.out; omega⟩, ⟨by (with_reducible repeat (first | apply Kd.R_alloc | apply Kd.R_drewN | apply Kd.R_drew)); exact Kd.R_mono HO169.out (fun _ hk => trivial)⟩, ⟨by (with_reducible repeat (first | refine blk_drewN ?_ _ | refine blk_drew ?_ | refine blk_alloc ?_ _)); exact BK159.out⟩, ⟨by repeat (first | (with_reducible first | exact HB.out | apply below_alloc | apply pw_below_drewN | apply below_drew1 | refine below_set ?_ GE159.out) | exact HB.out)⟩⟩
          · rw [if_neg c14] at H
            exact absurd H (by simp)
        · rw [if_neg c13] at H
          have c13b0 : decide (0 < x3_1) = false := decide_eq_false c13
          clear c13
          obtain ⟨y170, hy170⟩ : ∃ y_ : List Int, y_ = (([(wrap64 ((wrap64 ((wrap64 (64 * a0_0)) + 55)) + (x4_1.length : Int))) % 256] : List Int)) := ⟨_, rfl⟩
          replace H : (if y170.length + x4_1.length < 140737488355328 then (some (y170 ++ x4_1)) else (none)) = some r := by first | (rw [hy170]; with_reducible exact H) | (have H2_ := (Option.bind_some _ _).symm.trans H; rw [hy170]; with_reducible exact H2_) | (have H2_ := (Option.bind_some _ _).symm.trans H; with_reducible exact H2_) | with_reducible exact H | (rw [hy170]; exact H) | exact H
          have Ny170 := Aside0.mk hy170
          clear hy170
          by_cases c19 : y170.length + x4_1.length < 140737488355328
          · rw [if_pos c19] at H
            have LMc19 := Aside0.mk c19
            clear c19
            obtain ⟨y173, hy173⟩ : ∃ y_ : List Int, y_ = (y170 ++ x4_1) := ⟨_, rfl⟩
            replace H : (some y173) = some r := by first | (rw [hy173]; with_reducible exact H) | (have H2_ := (Option.bind_some _ _).symm.trans H; rw [hy173]; with_reducible exact H2_) | (have H2_ := (Option.bind_some _ _).symm.trans H; with_reducible exact H2_) | with_reducible exact H | (rw [hy173]; exact H) | exact H
            have Ny173 := Aside0.mk hy173
            clear hy173
            obtain rfl := Option.some.inj H
            have hcz20_0 : wr.cell? ⟨gb159, 0, none⟩ = some (.int .i64 a0_0) := (blk_cell BK159.out 0).trans rfl
            have hcz20_1 : wr.cell? ⟨gb159, 1, none⟩ = some (.int .i64 a0_1) := (blk_cell BK159.out 1).trans rfl
            have hcz20_2 : wr.cell? ⟨gb159, 2, none⟩ = some (.string a0_2) := (blk_cell BK159.out 2).trans rfl
            have hcz20_3 : wr.cell? ⟨gb159, 3, none⟩ = some (.slice A0_3 l0_3.length c0_3) := (blk_cell BK159.out 3).trans rfl
            have hfz20_0 := blk_frozen BK159.out 0
            have hfz20_1 := blk_frozen BK159.out 1
            have hfz20_2 := blk_frozen BK159.out 2
            have hfz20_3 := blk_frozen BK159.out 3
            obtain ⟨Ao21, co21, eo21⟩ := Kd.R_slice HO_4.out
            subst eo21
            go_wp2_with (first | ((with_reducible refine gate_dst (N := 35) rfl ?_); refine Kd.R_lit (Kd.int .u8) _ 5 ?hg (N := 35) ?hd (xs := ([(wrap64 ((wrap64 ((wrap64 (64 * a0_0)) + 55)) + (x4_1.length : Int))) % 256] : List Int)) (inner := [.int .u8 ((wrap64 ((wrap64 ((wrap64 (64 * a0_0)) + 55)) + (x4_1.length : Int))) % 256)]) (ok := fun _ => True) (okp := fun _ => True) ?hr ?hp (fun _ hk => hk) trivial (Below.refl _ _) (Nat.le_refl _) (by simp) ?_; (case hd => rfl); (case hg => rfl); (case hr => first | (go_simp; done) | (go_simp; rfl)); (case hp => exact (Reps.one (show Kd.M (Kd.int .u8) _ _ _ ((wrap64 ((wrap64 ((wrap64 (64 * a0_0)) + 55)) + (x4_1.length : Int))) % 256) [.int .u8 ((wrap64 ((wrap64 ((wrap64 (64 * a0_0)) + 55)) + (x4_1.length : Int))) % 256)] from rfl) (Reps.none _ _))); intro v171 w22 ho23 hb hg_ hnew_; clear hg_ hnew_; (first | rw [← Ny170.out] at ho23 | (simp only [Int.reduceToNat] at ho23; rw [← Ny170.out] at ho23)); have n0_ := Aside0.mk (Kd.R_elder' (by (with_reducible repeat (first | apply Kd.R_alloc | apply Kd.R_drewN | apply Kd.R_drew)); exact HO_4.out) (Kd.R_base ho23) hb); have n1_ := Aside0.mk (Kd.R_lower (Kd.R_new' ho23 (Kd.R_lt (by (with_reducible repeat (first | apply Kd.R_alloc | apply Kd.R_drewN | apply Kd.R_drew)); exact HO_4.out))) (below_size (by repeat (first | (with_reducible first | exact HB.out | apply below_alloc | apply pw_below_drewN | apply below_drew1 | refine below_set ?_ GE159.out) | exact HB.out)))); have n2_ := Aside0.mk (blk_below (g := gb159) (o := .cells #[.int .i64 a0_0, .int .i64 a0_1, .string a0_2, .slice A0_3 l0_3.length c0_3] 24 (0, 0)) (by (with_reducible repeat (first | refine blk_drewN ?_ _ | refine blk_drew ?_ | refine blk_alloc ?_ _)); exact BK159.out) hb); have n3_ := Aside0.mk (below_step (by repeat (first | (with_reducible first | exact HB.out | apply below_alloc | apply pw_below_drewN | apply below_drew1 | refine below_set ?_ GE159.out) | exact HB.out)) hb); clear HO_4; clear BK159; clear HB; have HO_4 := n0_; have HO172 := n1_; have BK159 := n2_; have HB := n3_; clear n0_ n1_ n2_ n3_; clear hb ho23) | ((with_reducible refine gate_builtin (b := .append) (xs := #[.tmp 35, .tmp 36]) rfl ?_); at_builtin; refine Kd.R_append_rows (Kd.int .u8) (w0 := w) w.heap.size rfl (.tmp 35) (.tmp 36) 31 5 (.int .u8 0) 1 rfl Try.underlying31 info5 rfl (by decide) (by omega) v171 y170 x4_1 _ _ _ (fun k_ => some k_ ≠ (.slice Ao21 x4_1.length co21 : Value).ownBlock) (fun _ => False) rfl rfl ?aO ?aR (fun _ _ h => h) (fun _ h => h.elim) ?aF ?aB ?aS ?aL ?_; (case aR => repeat (first | exact (Kd.R_reads' HO_4.out).2.2 | (with_reducible refine Kd.C_alloc ?_ _) | (with_reducible refine Kd.C_drewN ?_ _) | (with_reducible refine Kd.C_drew ?_))); (case aB => exact (by repeat (first | (with_reducible first | exact HB.out | apply below_alloc | apply pw_below_drewN | apply below_drew1 | refine below_set ?_ GE159.out) | exact HB.out))); (case aF => exact (fun k_ hk => Kd.fresh' (Kd.R_lt (by (with_reducible repeat (first | apply Kd.R_alloc | apply Kd.R_drewN | apply Kd.R_drew)); exact HO_4.out)) k_ hk)); (case aO => exact (by (with_reducible repeat (first | apply Kd.R_alloc | apply Kd.R_drewN | apply Kd.R_drew)); exact Kd.R_mono HO172.out (fun _ hk => hk.2))); (case aS => exact (below_size (by repeat (first | (with_reducible first | exact HB.out | apply below_alloc | apply pw_below_drewN | apply below_drew1 | refine below_set ?_ GE159.out) | exact HB.out)))); (case aL => have := LMc19.out; omega); intro v174 w24 ho hb hg hat; rw [← Ny173.out] at ho; have n0_ := Aside0.mk (Kd.R_after (ok := (fun _ => True)) (by (with_reducible repeat (first | apply Kd.R_alloc | apply Kd.R_drewN | apply Kd.R_drew)); exact HO_4.out) hg hat); have n1_ := Aside0.mk (blk_grown (g := gb159) (o := .cells #[.int .i64 a0_0, .int .i64 a0_1, .string a0_2, .slice A0_3 l0_3.length c0_3] 24 (0, 0)) (by (with_reducible repeat (first | refine blk_drewN ?_ _ | refine blk_drew ?_ | refine blk_alloc ?_ _)); exact BK159.out) hg (Kd.R_ne HO172.out BK159.out (by decide))); have n2_ := Aside0.mk (hb); have n3_ := Aside0.mk (ho); clear HO_4; clear BK159; clear HB; clear HO172; have HO_4 := n0_; have BK159 := n1_; have HB := n2_; have HO175 := n3_; clear n0_ n1_ n2_ n3_; clear ho hb hg hat))
            go_ret
            exact ⟨_, by first | rfl | (simp [errW_none, errW_some] <;> rfl) | (simp [*, errW_none, errW_some] <;> rfl), by (with_reducible repeat (first | apply Kd.R_alloc | apply Kd.R_drewN | apply Kd.R_drew)); exact Kd.R_mono HO175.out (fun _ hk => trivial), by repeat (first | (with_reducible first | exact HB.out | apply below_alloc | apply pw_below_drewN | apply below_drew1 | refine below_set ?_ GE159.out) | exact HB.out)⟩
          · rw [if_neg c19] at H
            exact absurd H (by simp)

/-! ### vinculumref03_Encode: function 19 -/
mutual
def vinculumref03_Encode.l0 : Nat → List Int → Int → Int → Int → ByteArray → List (S24) → Option (List Int)
  | 0, _, _, _, _, _, _ => none
  | k + 1, x3, x4, x177000, x177001, x177002, x177003 => if x4 < (x177003.length : Int) then (if 0 ≤ x4 then ((vinculumref03_Encode.f k ((rd_T24 x177003 x4).f0) ((rd_T24 x177003 x4).f1) ((rd_T24 x177003 x4).f2) ((rd_T24 x177003 x4).f3)).bind fun t184 => (if x3.length + t184.length < 140737488355328 then (vinculumref03_Encode.l0 k (x3 ++ t184) (wrap64 (x4 + 1)) x177000 x177001 x177002 x177003) else (none))) else (none)) else (some x3)
def vinculumref03_Encode.f : Nat → Int → Int → ByteArray → List (S24) → Option (List Int)
  | 0, _, _, _, _ => none
  | k + 1, a0_0, a0_1, a0_2, l0_3 => (vinculumref03_Head.f k a0_0 a0_1 a0_2 l0_3).bind fun t177 => (if t177.length + a0_2.size < 140737488355328 then (vinculumref03_Encode.l0 k (t177 ++ bytesOf a0_2) 0 a0_0 a0_1 a0_2 l0_3) else (none))
end
theorem vinculumref03_Encode.mono_l : ∀ k, (∀ y0 y1 y2 y3, LeO (vinculumref03_Encode.f k y0 y1 y2 y3) (vinculumref03_Encode.f (k + 1) y0 y1 y2 y3)) ∧ (∀ y0 y1 y2 y3 y4 y5, LeO (vinculumref03_Encode.l0 k y0 y1 y2 y3 y4 y5) (vinculumref03_Encode.l0 (k + 1) y0 y1 y2 y3 y4 y5))
  | 0 => ⟨fun _ _ _ _ r h => by simp [vinculumref03_Encode.f] at h, fun _ _ _ _ _ _ r h => by simp [vinculumref03_Encode.l0] at h⟩
  | k + 1 => by
    obtain ⟨ih0, ih1⟩ := vinculumref03_Encode.mono_l k
    refine ⟨?_, ?_⟩
    · intro y0 y1 y2 y3
      unfold vinculumref03_Encode.f
      repeat' first
      | (with_reducible exact ih0 _ _ _ _)
      | (with_reducible exact ih1 _ _ _ _ _ _)
      | (with_reducible exact vinculumref03_Head.mono _ _ _ _ _)
      | (with_reducible exact LeO.refl _)
      | (with_reducible exact LeO.none _)
      | (with_reducible refine LeO.ite ?_ ?_)
      | (with_reducible refine LeO.bind ?_ (fun _ => ?_))
      | exact ih0 _ _ _ _
      | exact ih1 _ _ _ _ _ _
      | exact vinculumref03_Head.mono _ _ _ _ _
      | exact LeO.none _
      | refine LeO.ite ?_ ?_
      | refine LeO.bind ?_ (fun _ => ?_)
    · intro y0 y1 y2 y3 y4 y5
      unfold vinculumref03_Encode.l0
      repeat' first
      | (with_reducible exact ih0 _ _ _ _)
      | (with_reducible exact ih1 _ _ _ _ _ _)
      | (with_reducible exact vinculumref03_Head.mono _ _ _ _ _)
      | (with_reducible exact LeO.refl _)
      | (with_reducible exact LeO.none _)
      | (with_reducible refine LeO.ite ?_ ?_)
      | (with_reducible refine LeO.bind ?_ (fun _ => ?_))
      | exact ih0 _ _ _ _
      | exact ih1 _ _ _ _ _ _
      | exact vinculumref03_Head.mono _ _ _ _ _
      | exact LeO.none _
      | refine LeO.ite ?_ ?_
      | refine LeO.bind ?_ (fun _ => ?_)
theorem vinculumref03_Encode.mono : ∀ a0 a1 a2 a3 k, LeO (vinculumref03_Encode.f k a0 a1 a2 a3) (vinculumref03_Encode.f (k + 1) a0 a1 a2 a3) := by
  intro a0 a1 a2 a3 k
  obtain ⟨ih0, ih1⟩ := vinculumref03_Encode.mono_l k
  exact ih0 a0 a1 a2 a3
set_option maxHeartbeats 8000000 in
set_option maxRecDepth 100000 in
theorem vinculumref03_Encode.calls (k : Nat) : ∀ (a0_0 : Int) (a0_1 : Int) (a0_2 : ByteArray) (A0_3 : Option Addr) (c0_3 : Nat) (l0_3 : List (S24)) (r : List Int) (w : World) (hr0_3 : Kd.C k24 w A0_3 l0_3.length l0_3) (hc0_3 : l0_3.length ≤ c0_3) (h : vinculumref03_Encode.f k a0_0 a0_1 a0_2 l0_3 = some r),
    Calls Try.prog 19 #[.agg #[.int .i64 a0_0, .int .i64 a0_1, .string a0_2, .slice A0_3 l0_3.length c0_3]] w fun e w' => ∃ v0_ : Value, e = .returned (v0_) ∧ Kd.R (Kd.int .u8) 5 w' w.heap.size (fun _ => True) v0_ r ∧ Below w.heap.size w w' := by
  induction k using Nat.strongRecOn with
  | _ k ih =>
  intro a0_0 a0_1 a0_2 A0_3 c0_3 l0_3 r w hr0_3 hc0_3 h
  cases k with
  | zero => exact absurd h (by simp [vinculumref03_Encode.f])
  | succ k =>
  simp only [vinculumref03_Encode.f] at h
  have hu24 := Try.underlying24
  have HR0_3 := Aside0.mk hr0_3
  have HC0_3 := Aside0.mk hc0_3
  clear hr0_3 hc0_3
  have HB := Aside0.mk (Below.refl w.heap.size w)
  have H : ((vinculumref03_Head.f k a0_0 a0_1 a0_2 l0_3).bind fun t177 => (if t177.length + a0_2.size < 140737488355328 then (vinculumref03_Encode.l0 k (t177 ++ bytesOf a0_2) 0 a0_0 a0_1 a0_2 l0_3) else (none))) = some r := h
  clear h
  replace H := Option.bind_eq_some_iff.mp H
  obtain ⟨t177, A20, H⟩ := H
  replace H : (if t177.length + a0_2.size < 140737488355328 then (vinculumref03_Encode.l0 k (t177 ++ bytesOf a0_2) 0 a0_0 a0_1 a0_2 l0_3) else (none)) = some r := H
  have A2 := Aside0.mk A20
  clear A20
  by_cases c3 : t177.length + a0_2.size < 140737488355328
  · rw [if_pos c3] at H
    have LMc3 := Aside0.mk c3
    clear c3
    obtain ⟨y180, hy180⟩ : ∃ y_ : List Int, y_ = (t177 ++ bytesOf a0_2) := ⟨_, rfl⟩
    replace H : (vinculumref03_Encode.l0 k y180 0 a0_0 a0_1 a0_2 l0_3) = some r := by first | (rw [hy180]; with_reducible exact H) | (have H2_ := (Option.bind_some _ _).symm.trans H; rw [hy180]; with_reducible exact H2_) | (have H2_ := (Option.bind_some _ _).symm.trans H; with_reducible exact H2_) | with_reducible exact H | (rw [hy180]; exact H) | exact H
    have Ny180 := Aside0.mk hy180
    clear hy180
    have H' := Aside0.mk H
    clear H
    go_enter Try.func19, Try.ntmps19
    try go_wp2_with (first | ((with_reducible refine gate_dst (N := 1) rfl ?_); refine box_event ?hg (N := 1) ?hd (cs := #[.int .i64 a0_0, .int .i64 a0_1, .string a0_2, .slice A0_3 l0_3.length c0_3]) (t := 24) ?hr ?_; (case hd => rfl); (case hg => rfl); (case hr => first | (go_simp; done) | (go_simp; rfl)); intro gb176 hg w4 hbox hb; have n0_ := Aside0.mk (below_step (by repeat (first | (with_reducible first | exact HB.out | apply below_alloc | apply pw_below_drewN | apply below_drew1) | exact HB.out)) hb); have n1_ := Aside0.mk (hbox); have n2_ := Aside0.mk ((by rw [hg]; exact (below_size (by repeat (first | (with_reducible first | exact HB.out | apply below_alloc | apply pw_below_drewN | apply below_drew1) | exact HB.out))) : w.heap.size ≤ gb176)); have n3_ := Aside0.mk ((by rw [hg]; exact (below_size (by repeat (first | (with_reducible first | exact HB.out | apply below_alloc | apply pw_below_drewN | apply below_drew1) | exact HB.out))) : w.heap.size ≤ gb176)); clear HB; have HB := n0_; have BK176 := n1_; have GW176 := n2_; have GE176 := n3_; clear n0_ n1_ n2_ n3_; clear hb hbox hg))
    have n0_ := Aside0.mk (blk_drew BK176.out)
    have n1_ := Aside0.mk (below_drew1 HB.out)
    clear BK176
    clear HB
    have BK176 := n0_
    have HB := n1_
    clear n0_ n1_
    refine start_ (n := 6) (S := fun w' => w'.cell? ⟨gb176, 0, none⟩ = some (.int .i64 a0_0) ∧ w'.cell? ⟨gb176, 1, none⟩ = some (.int .i64 a0_1) ∧ w'.cell? ⟨gb176, 2, none⟩ = some (.string a0_2) ∧ w'.cell? ⟨gb176, 3, none⟩ = some (.slice A0_3 l0_3.length c0_3)) (ds := []) #[false, false, false, false, false, false] (by kernel_rfl) rfl rfl ⟨(blk_cell BK176.out 0).trans rfl, (blk_cell BK176.out 1).trans rfl, (blk_cell BK176.out 2).trans rfl, (blk_cell BK176.out 3).trans rfl⟩ (fun hHeld => ?_)
    generalize w4.drew = w5 at BK176 HB hHeld ⊢
    refine pure_ (i := 2) (N := some 7) (v := ?_) (a' := ?_) #[false, false, true, false, false, false] rfl rfl (by kernel_rfl) (fun _ _ _ h => h) (Or.inl ⟨by rfl, ?_⟩) ?_ ?_
    rotate_left
    · intro w'
      go_simp
      with_reducible rfl
    rotate_left
    · simp only [Act.put, List.setIfInBounds_toArray, List.set_cons_zero, List.set_cons_succ, i64_w, i32_w]
      rfl
    refine take_ (i := 0) (N := some 5) (v := ?_) (a' := ?_) #[true, false, true, false, false, false] rfl rfl (by kernel_rfl) (fun _ _ _ h => h) (Or.inl ⟨by rfl, ?_⟩) hHeld ?_ ?_
    rotate_left
    · rintro w' ⟨s0, s1, s2, s3⟩
      go_simp
      with_reducible rfl
    rotate_left
    · simp only [Act.put, List.setIfInBounds_toArray, List.set_cons_zero, List.set_cons_succ, i64_w, i32_w]
      rfl
    refine take_ (i := 3) (N := some 8) (v := ?_) (a' := ?_) #[true, false, true, true, false, false] rfl rfl (by kernel_rfl) (fun _ _ _ h => h) (Or.inl ⟨by rfl, ?_⟩) hHeld ?_ ?_
    rotate_left
    · rintro w' ⟨s0, s1, s2, s3⟩
      go_simp
      with_reducible rfl
    rotate_left
    · simp only [Act.put, List.setIfInBounds_toArray, List.set_cons_zero, List.set_cons_succ, i64_w, i32_w]
      rfl
    refine one_ (i := 1) (N := some 6) #[true, true, true, true, false, false] rfl rfl (by kernel_rfl) (by decide) (fun K hK => ?_)
    refine goes_ Try.func33 (by kernel_rfl) rfl #[.agg #[.int .i64 a0_0, .int .i64 a0_1, .string a0_2, .slice A0_3 l0_3.length c0_3]] (by rfl) rfl rfl (by (try simp only [List.map_toArray, List.map_cons, List.map_nil]); first | done | rfl | (simp only [List.length_drop, List.length_take]; rfl)) ?_
    with_reducible refine (vinculumref03_Head.calls k a0_0 a0_1 a0_2 _ _ l0_3 t177 _ ?side1 ?side2 A2.out).mono ?_
    (case side1 => repeat (first | exact (Kd.C_below HR0_3.out HB.out) | (with_reducible refine Kd.C_alloc ?_ _) | (with_reducible refine Kd.C_drewN ?_ _) | (with_reducible refine Kd.C_drew ?_)))
    (case side2 => exact HC0_3.out)
    rintro e w6 ⟨v178, rfl, ho0, hb⟩
    refine ⟨_, rfl, ?_⟩
    have n0_ := Aside0.mk (Kd.R_lower ho0 (below_size (by repeat (first | (with_reducible first | exact HB.out | apply below_alloc | apply pw_below_drewN | apply below_drew1 | refine below_set ?_ GE176.out) | exact HB.out))))
    have n1_ := Aside0.mk (blk_below (g := gb176) (o := .cells #[.int .i64 a0_0, .int .i64 a0_1, .string a0_2, .slice A0_3 l0_3.length c0_3] 24 (0, 0)) (by (with_reducible repeat (first | refine blk_drewN ?_ _ | refine blk_drew ?_ | refine blk_alloc ?_ _)); exact BK176.out) hb)
    have n2_ := Aside0.mk (below_step (by repeat (first | (with_reducible first | exact HB.out | apply below_alloc | apply pw_below_drewN | apply below_drew1 | refine below_set ?_ GE176.out) | exact HB.out)) hb)
    clear BK176
    clear HB
    have HO179 := n0_
    have BK176 := n1_
    have HB := n2_
    clear n0_ n1_ n2_
    (try clear hb)
    (try clear hb2)
    (try clear hk)
    (try clear hi)
    (try clear ho0)
    refine hK.out _ _ ⟨(blk_cell BK176.out 0).trans rfl, (blk_cell BK176.out 1).trans rfl, (blk_cell BK176.out 2).trans rfl, (blk_cell BK176.out 3).trans rfl⟩ (fun hHeld => ?_)
    clear hK K
    refine norm_ (a' := ?_) ?_ ?_
    rotate_left
    · show Act.put _ (some 6) _ = _
      simp only [Act.put, List.setIfInBounds_toArray, List.set_cons_zero, List.set_cons_succ, i64_w, i32_w]
      rfl
    refine one_ (i := 4) (N := some 9) #[true, true, true, true, true, false] rfl rfl (by kernel_rfl) (by decide) (fun K hK => ?_)
    refine Kd.R_append_str_step (w0 := w) w.heap.size (by rfl) (.tmp 6) _ 31 9 5 rfl Try.underlying31 Try.underlying9 info5 v178 t177 a0_2 (fun _ => True) rfl rfl ?aO ?aF ?aB ?aS ?aL ?_
    (case aB => exact (by repeat (first | (with_reducible first | exact HB.out | apply below_alloc | apply pw_below_drewN | apply below_drew1 | refine below_set ?_ GE176.out) | exact HB.out)))
    (case aF => exact (fun _ _ => trivial))
    (case aO => exact (by (with_reducible repeat (first | apply Kd.R_alloc | apply Kd.R_drewN | apply Kd.R_drew)); exact HO179.out))
    (case aS => exact (below_size (by repeat (first | (with_reducible first | exact HB.out | apply below_alloc | apply pw_below_drewN | apply below_drew1 | refine below_set ?_ GE176.out) | exact HB.out))))
    (case aL => have := LMc3.out; omega)
    intro v181 w7 ho hb hg hat
    rw [← Ny180.out] at ho
    have n0_ := Aside0.mk (blk_grown (g := gb176) (o := .cells #[.int .i64 a0_0, .int .i64 a0_1, .string a0_2, .slice A0_3 l0_3.length c0_3] 24 (0, 0)) (by (with_reducible repeat (first | refine blk_drewN ?_ _ | refine blk_drew ?_ | refine blk_alloc ?_ _)); exact BK176.out) hg (Kd.R_ne HO179.out BK176.out (by decide)))
    have n1_ := Aside0.mk (hb)
    have n2_ := Aside0.mk (ho)
    clear BK176
    clear HB
    clear HO179
    have BK176 := n0_
    have HB := n1_
    have HO182 := n2_
    clear n0_ n1_ n2_
    clear ho hb hg hat
    refine hK.out _ _ ⟨(blk_cell BK176.out 0).trans rfl, (blk_cell BK176.out 1).trans rfl, (blk_cell BK176.out 2).trans rfl, (blk_cell BK176.out 3).trans rfl⟩ (fun hHeld => ?_)
    clear hK K
    refine norm_ (a' := ?_) ?_ ?_
    rotate_left
    · show Act.put _ (some 9) _ = _
      simp only [Act.put, List.setIfInBounds_toArray, List.set_cons_zero, List.set_cons_succ, i64_w, i32_w]
      rfl
    refine pure_ (i := 5) (N := some 3) (v := ?_) (a' := ?_) #[true, true, true, true, true, true] rfl rfl (by kernel_rfl) (fun _ _ _ h => h) (Or.inl ⟨by rfl, ?_⟩) ?_ ?_
    rotate_left
    · intro w'
      go_simp
      with_reducible rfl
    rotate_left
    · simp only [Act.put, List.setIfInBounds_toArray, List.set_cons_zero, List.set_cons_succ, i64_w, i32_w]
      rfl
    refine done_ (by kernel_rfl) ?_
    try go_wp2
    go_loopg [3, 4] k (fun kq v3 v4 w' => ∃ (x3_1 : List Int) (x4_1 : Int), v4 = .int .i64 x4_1 ∧ Aside0 (vinculumref03_Encode.l0 kq x3_1 x4_1 a0_0 a0_1 a0_2 l0_3 = some r) ∧ Aside0 (kq ≤ k) ∧ Aside0 (Kd.R (Kd.int .u8) 5 w' w.heap.size (fun _ => True) v3 x3_1) ∧ Aside0 (w'.heap[gb176]? = some (.cells #[.int .i64 a0_0, .int .i64 a0_1, .string a0_2, (.slice A0_3 l0_3.length c0_3)] 24 (0, 0))) ∧ Aside0 (Below w.heap.size w w'))
    case atStart => exact ⟨(y180), (0), (by first | rfl | (simp; done) | (simp [*]; done) | (simp [ne_nil_bool]; done)), H', ⟨Nat.le_refl _⟩, ⟨by (with_reducible repeat (first | apply Kd.R_alloc | apply Kd.R_drewN | apply Kd.R_drew)); exact HO182.out⟩, ⟨by (with_reducible repeat (first | refine blk_drewN ?_ _ | refine blk_drew ?_ | refine blk_alloc ?_ _)); exact BK176.out⟩, ⟨by repeat (first | (with_reducible first | exact HB.out | apply below_alloc | apply pw_below_drewN | apply below_drew1 | refine below_set ?_ GE176.out) | exact HB.out)⟩⟩
    case round =>
      clear H'
      try clear c1
      try clear p2
      try clear c3
      obtain ⟨x3_1, x4_1, rfl, HA, HK1, HO_3, BK176, HB⟩ := hrel
      cases gk with
      | zero => exact absurd HA.out (by simp [vinculumref03_Encode.l0])
      | succ k1 =>
        have H := HA.out
        clear HA
        simp only [vinculumref03_Encode.l0] at H
        by_cases c8 : x4_1 < (l0_3.length : Int)
        · rw [if_pos c8] at H
          have c8b0 : decide (x4_1 < (l0_3.length : Int)) = true := decide_eq_true c8
          clear c8
          by_cases c9 : 0 ≤ x4_1
          · rw [if_pos c9] at H
            have c9b0 : decide (0 ≤ x4_1) = true := decide_eq_true c9
            clear c9
            replace H := Option.bind_eq_some_iff.mp H
            obtain ⟨t184, A100, H⟩ := H
            replace H : (if x3_1.length + t184.length < 140737488355328 then (vinculumref03_Encode.l0 k1 (x3_1 ++ t184) (wrap64 (x4_1 + 1)) a0_0 a0_1 a0_2 l0_3) else (none)) = some r := H
            have A10 := Aside0.mk A100
            clear A100
            by_cases c11 : x3_1.length + t184.length < 140737488355328
            · rw [if_pos c11] at H
              have LMc11 := Aside0.mk c11
              clear c11
              obtain ⟨y187, hy187⟩ : ∃ y_ : List Int, y_ = (x3_1 ++ t184) := ⟨_, rfl⟩
              replace H : (vinculumref03_Encode.l0 k1 y187 (wrap64 (x4_1 + 1)) a0_0 a0_1 a0_2 l0_3) = some r := by first | (rw [hy187]; with_reducible exact H) | (have H2_ := (Option.bind_some _ _).symm.trans H; rw [hy187]; with_reducible exact H2_) | (have H2_ := (Option.bind_some _ _).symm.trans H; with_reducible exact H2_) | with_reducible exact H | (rw [hy187]; exact H) | exact H
              have Ny187 := Aside0.mk hy187
              clear hy187
              have H' := Aside0.mk H
              clear H
              have hcz12_0 : wr.cell? ⟨gb176, 0, none⟩ = some (.int .i64 a0_0) := (blk_cell BK176.out 0).trans rfl
              have hcz12_1 : wr.cell? ⟨gb176, 1, none⟩ = some (.int .i64 a0_1) := (blk_cell BK176.out 1).trans rfl
              have hcz12_2 : wr.cell? ⟨gb176, 2, none⟩ = some (.string a0_2) := (blk_cell BK176.out 2).trans rfl
              have hcz12_3 : wr.cell? ⟨gb176, 3, none⟩ = some (.slice A0_3 l0_3.length c0_3) := (blk_cell BK176.out 3).trans rfl
              have hfz12_0 := blk_frozen BK176.out 0
              have hfz12_1 := blk_frozen BK176.out 1
              have hfz12_2 := blk_frozen BK176.out 2
              have hfz12_3 := blk_frozen BK176.out 3
              have p183 : 0 ≤ (x4_1 : Int) := of_decide_eq_true (by first | (with_reducible assumption) | assumption)
              have q183 : x4_1 < (l0_3.length : Int) := of_decide_eq_true (by first | (with_reducible assumption) | assumption)
              obtain ⟨ad183, A183_3, c183_3, e183, hx183_0, hx183_1, hx183_2, hx183_3, hl183_3, hi183_3⟩ := at_T24 HR0_3.out x4_1 p183 q183
              cases e183
              replace hx183_0 := (HB.out.cell (World.block_lt_of_cell? w _ hx183_0)).trans hx183_0
              replace hx183_1 := (HB.out.cell (World.block_lt_of_cell? w _ hx183_1)).trans hx183_1
              replace hx183_2 := (HB.out.cell (World.block_lt_of_cell? w _ hx183_2)).trans hx183_2
              replace hx183_3 := (HB.out.cell (World.block_lt_of_cell? w _ hx183_3)).trans hx183_3
              have HR183_3 := Aside0.mk hi183_3
              have HC183_3 := Aside0.mk hl183_3
              clear hi183_3 hl183_3
              replace p183 := eq_true p183
              replace q183 := eq_true q183
              go_wp2_with (first | ((with_reducible refine gate_callee (f := 19) rfl ?_); refine goesL_ (some 23) rfl rfl Try.func19 (by kernel_rfl) rfl #[.agg #[.int .i64 ((rd_T24 l0_3 x4_1).f0), .int .i64 ((rd_T24 l0_3 x4_1).f1), .string ((rd_T24 l0_3 x4_1).f2), .slice A183_3 ((rd_T24 l0_3 x4_1).f3).length c183_3]] rfl (by (try simp only [List.map_toArray, List.map_cons, List.map_nil]); first | done | rfl | (simp only [List.length_drop, List.length_take]; rfl)) ?_; (with_reducible refine (ih k1 (by have := HK1.out; omega) ((rd_T24 l0_3 x4_1).f0) ((rd_T24 l0_3 x4_1).f1) ((rd_T24 l0_3 x4_1).f2) _ _ ((rd_T24 l0_3 x4_1).f3) t184 _ ?side1 ?side2 A10.out).mono ?_); (case side1 => repeat (first | exact (Kd.C_below HR183_3.out HB.out) | (with_reducible refine Kd.C_alloc ?_ _) | (with_reducible refine Kd.C_drewN ?_ _) | (with_reducible refine Kd.C_drew ?_))); (case side2 => exact HC183_3.out); rintro e w13 ⟨v185, rfl, ho0, hb⟩; refine ⟨_, rfl, ?_⟩; have n0_ := Aside0.mk (Kd.R_elder' (by (with_reducible repeat (first | apply Kd.R_alloc | apply Kd.R_drewN | apply Kd.R_drew)); exact HO_3.out) (Kd.R_base ho0) hb); have n1_ := Aside0.mk (Kd.R_lower (Kd.R_new' ho0 (Kd.R_lt (by (with_reducible repeat (first | apply Kd.R_alloc | apply Kd.R_drewN | apply Kd.R_drew)); exact HO_3.out))) (below_size (by repeat (first | (with_reducible first | exact HB.out | apply below_alloc | apply pw_below_drewN | apply below_drew1 | refine below_set ?_ GE176.out) | exact HB.out)))); have n2_ := Aside0.mk (blk_below (g := gb176) (o := .cells #[.int .i64 a0_0, .int .i64 a0_1, .string a0_2, .slice (some ad183) l0_3.length c0_3] 24 (0, 0)) (by (with_reducible repeat (first | refine blk_drewN ?_ _ | refine blk_drew ?_ | refine blk_alloc ?_ _)); exact BK176.out) hb); have n3_ := Aside0.mk (below_step (by repeat (first | (with_reducible first | exact HB.out | apply below_alloc | apply pw_below_drewN | apply below_drew1 | refine below_set ?_ GE176.out) | exact HB.out)) hb); clear HO_3; clear BK176; clear HB; have HO_3 := n0_; have HO186 := n1_; have BK176 := n2_; have HB := n3_; clear n0_ n1_ n2_ n3_; (try clear hb); (try clear hb2); (try clear hk); (try clear hi); (try clear ho0); obtain ⟨Ao15, co15, eo15⟩ := Kd.R_slice HO186.out; subst eo15) | ((with_reducible refine gate_builtin (b := .append) (xs := #[.tmp 17, .tmp 23]) rfl ?_); at_builtin; refine Kd.R_append_rows (Kd.int .u8) (w0 := w) w.heap.size rfl (.tmp 17) (.tmp 23) 31 5 (.int .u8 0) 1 rfl Try.underlying31 info5 rfl (by decide) (by omega) u3 x3_1 t184 _ _ _ (fun k_ => some k_ ≠ (.slice Ao15 t184.length co15 : Value).ownBlock) (fun _ => False) rfl rfl ?aO ?aR (fun _ _ h => h) (fun _ h => h.elim) ?aF ?aB ?aS ?aL ?_; (case aR => repeat (first | exact (Kd.R_reads' HO186.out).2.2 | (with_reducible refine Kd.C_alloc ?_ _) | (with_reducible refine Kd.C_drewN ?_ _) | (with_reducible refine Kd.C_drew ?_))); (case aB => exact (by repeat (first | (with_reducible first | exact HB.out | apply below_alloc | apply pw_below_drewN | apply below_drew1 | refine below_set ?_ GE176.out) | exact HB.out))); (case aF => exact (fun k_ hk => Kd.fresh' (Kd.R_lt (by (with_reducible repeat (first | apply Kd.R_alloc | apply Kd.R_drewN | apply Kd.R_drew)); exact HO186.out)) k_ hk)); (case aO => exact (by (with_reducible repeat (first | apply Kd.R_alloc | apply Kd.R_drewN | apply Kd.R_drew)); exact Kd.R_mono HO_3.out (fun _ hk => hk.2))); (case aS => exact (below_size (by repeat (first | (with_reducible first | exact HB.out | apply below_alloc | apply pw_below_drewN | apply below_drew1 | refine below_set ?_ GE176.out) | exact HB.out)))); (case aL => have := LMc11.out; omega); intro v188 w14 ho hb hg hat; rw [← Ny187.out] at ho; have n0_ := Aside0.mk (blk_grown (g := gb176) (o := .cells #[.int .i64 a0_0, .int .i64 a0_1, .string a0_2, .slice (some ad183) l0_3.length c0_3] 24 (0, 0)) (by (with_reducible repeat (first | refine blk_drewN ?_ _ | refine blk_drew ?_ | refine blk_alloc ?_ _)); exact BK176.out) hg (Kd.R_ne HO_3.out BK176.out (by decide))); have n1_ := Aside0.mk (Kd.R_after (ok := (fun _ => True)) (by (with_reducible repeat (first | apply Kd.R_alloc | apply Kd.R_drewN | apply Kd.R_drew)); exact HO186.out) hg hat); have n2_ := Aside0.mk (hb); have n3_ := Aside0.mk (ho); clear BK176; clear HO186; clear HB; clear HO_3; have BK176 := n0_; have HO186 := n1_; have HB := n2_; have HO189 := n3_; clear n0_ n1_ n2_ n3_; clear ho hb hg hat))
              go_roundg k1
              case measure => have := HK1.out; omega
              case rel => exact ⟨(y187), (wrap64 (x4_1 + 1)), (by first | rfl | (simp; done) | (simp [*]; done) | (simp [ne_nil_bool]; done)), H', ⟨by have := HK1.out; omega⟩, ⟨by (with_reducible repeat (first | apply Kd.R_alloc | apply Kd.R_drewN | apply Kd.R_drew)); exact Kd.R_mono HO189.out (fun _ hk => trivial)⟩, ⟨by (with_reducible repeat (first | refine blk_drewN ?_ _ | refine blk_drew ?_ | refine blk_alloc ?_ _)); exact BK176.out⟩, ⟨by repeat (first | (with_reducible first | exact HB.out | apply below_alloc | apply pw_below_drewN | apply below_drew1 | refine below_set ?_ GE176.out) | exact HB.out)⟩⟩
            · rw [if_neg c11] at H
              exact absurd H (by simp)
          · rw [if_neg c9] at H
            exact absurd H (by simp)
        · rw [if_neg c8] at H
          have c8b0 : decide (x4_1 < (l0_3.length : Int)) = false := decide_eq_false c8
          clear c8
          obtain rfl := Option.some.inj H
          have hcz16_0 : wr.cell? ⟨gb176, 0, none⟩ = some (.int .i64 a0_0) := (blk_cell BK176.out 0).trans rfl
          have hcz16_1 : wr.cell? ⟨gb176, 1, none⟩ = some (.int .i64 a0_1) := (blk_cell BK176.out 1).trans rfl
          have hcz16_2 : wr.cell? ⟨gb176, 2, none⟩ = some (.string a0_2) := (blk_cell BK176.out 2).trans rfl
          have hcz16_3 : wr.cell? ⟨gb176, 3, none⟩ = some (.slice A0_3 l0_3.length c0_3) := (blk_cell BK176.out 3).trans rfl
          have hfz16_0 := blk_frozen BK176.out 0
          have hfz16_1 := blk_frozen BK176.out 1
          have hfz16_2 := blk_frozen BK176.out 2
          have hfz16_3 := blk_frozen BK176.out 3
          go_wp2
          go_ret
          exact ⟨_, by first | rfl | (simp [errW_none, errW_some] <;> rfl) | (simp [*, errW_none, errW_some] <;> rfl), by (with_reducible repeat (first | apply Kd.R_alloc | apply Kd.R_drewN | apply Kd.R_drew)); exact HO_3.out, by repeat (first | (with_reducible first | exact HB.out | apply below_alloc | apply pw_below_drewN | apply below_drew1 | refine below_set ?_ GE176.out) | exact HB.out)⟩
  · rw [if_neg c3] at H
    exact absurd H (by simp)

end Go.Proofs.Ytploigkfnkgjiaa.PE
