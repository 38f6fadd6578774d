-- Written by a program of this place (wip/gen.py) with the kit's print; not trusted: Lean checks it.
import Derived.Test.YtploigkfnkgjiaaPCx0
namespace Go.Proofs.Ytploigkfnkgjiaa.PC
open Go.RowKit Go.Proofs.YtploigkfnkgjiaaW.PrintWords Go.Proofs.YtploigkfnkgjiaaW.PrintLast Go.Proofs.YtploigkfnkgjiaaW.PrintMore
attribute [local go_sem] max2_int min2_int max_two min_two max_three min_three max_four min_four   -- for this text's walks alone
set_option linter.unusedVariables false
set_option linter.unusedSimpArgs false

/-! ### vinculumref03_Size: function 28 -/
mutual
def vinculumref03_Size.l0 : Nat → Int → Int → Int → Int → Int → ByteArray → List (S24) → Option (Int)
  | 0, _, _, _, _, _, _, _ => none
  | k + 1, x1, x5, x6, x124000, x124001, x124002, x124003 => if x6 < (x124003.length : Int) then (if x5 < x1 then (if 0 ≤ x6 then ((vinculumref03_Size.f k ((rd_T24 x124003 x6).f0) ((rd_T24 x124003 x6).f1) ((rd_T24 x124003 x6).f2) ((rd_T24 x124003 x6).f3) (wrap64 (x1 - x5))).bind fun t125 => (vinculumref03_Size.l0 k x1 (wrap64 (x5 + t125)) (wrap64 (x6 + 1)) x124000 x124001 x124002 x124003)) else (none)) else (some x5)) else (some x5)
def vinculumref03_Size.f : Nat → Int → Int → ByteArray → List (S24) → Int → Option (Int)
  | 0, _, _, _, _, _ => none
  | k + 1, a0_0, a0_1, a0_2, l0_3, a1 => vinculumref03_Size.l0 k a1 1 0 a0_0 a0_1 a0_2 l0_3
end
theorem vinculumref03_Size.mono_l : ∀ k, (∀ y0 y1 y2 y3 y4, LeO (vinculumref03_Size.f k y0 y1 y2 y3 y4) (vinculumref03_Size.f (k + 1) y0 y1 y2 y3 y4)) ∧ (∀ y0 y1 y2 y3 y4 y5 y6, LeO (vinculumref03_Size.l0 k y0 y1 y2 y3 y4 y5 y6) (vinculumref03_Size.l0 (k + 1) y0 y1 y2 y3 y4 y5 y6))
  | 0 => ⟨fun _ _ _ _ _ r h => by simp [vinculumref03_Size.f] at h, fun _ _ _ _ _ _ _ r h => by simp [vinculumref03_Size.l0] at h⟩
  | k + 1 => by
    obtain ⟨ih0, ih1⟩ := vinculumref03_Size.mono_l k
    refine ⟨?_, ?_⟩
    · intro y0 y1 y2 y3 y4
      unfold vinculumref03_Size.f
      repeat' first
      | (with_reducible exact ih0 _ _ _ _ _)
      | (with_reducible exact ih1 _ _ _ _ _ _ _)
      | (with_reducible exact LeO.refl _)
      | (with_reducible exact LeO.none _)
      | (with_reducible refine LeO.ite ?_ ?_)
      | (with_reducible refine LeO.bind ?_ (fun _ => ?_))
      | exact ih0 _ _ _ _ _
      | exact ih1 _ _ _ _ _ _ _
      | exact LeO.none _
      | refine LeO.ite ?_ ?_
      | refine LeO.bind ?_ (fun _ => ?_)
    · intro y0 y1 y2 y3 y4 y5 y6
      unfold vinculumref03_Size.l0
      repeat' first
      | (with_reducible exact ih0 _ _ _ _ _)
      | (with_reducible exact ih1 _ _ _ _ _ _ _)
      | (with_reducible exact LeO.refl _)
      | (with_reducible exact LeO.none _)
      | (with_reducible refine LeO.ite ?_ ?_)
      | (with_reducible refine LeO.bind ?_ (fun _ => ?_))
      | exact ih0 _ _ _ _ _
      | exact ih1 _ _ _ _ _ _ _
      | exact LeO.none _
      | refine LeO.ite ?_ ?_
      | refine LeO.bind ?_ (fun _ => ?_)
theorem vinculumref03_Size.mono : ∀ a0 a1 a2 a3 a4 k, LeO (vinculumref03_Size.f k a0 a1 a2 a3 a4) (vinculumref03_Size.f (k + 1) a0 a1 a2 a3 a4) := by
  intro a0 a1 a2 a3 a4 k
  obtain ⟨ih0, ih1⟩ := vinculumref03_Size.mono_l k
  exact ih0 a0 a1 a2 a3 a4
set_option maxHeartbeats 8000000 in
set_option maxRecDepth 100000 in
theorem vinculumref03_Size.calls (k : Nat) : ∀ (a0_0 : Int) (a0_1 : Int) (a0_2 : ByteArray) (A0_3 : Option Addr) (c0_3 : Nat) (l0_3 : List (S24)) (a1 : Int) (r : Int) (w : World) (hr0_3 : Kd.C k24 w A0_3 l0_3.length l0_3) (hc0_3 : l0_3.length ≤ c0_3) (h : vinculumref03_Size.f k a0_0 a0_1 a0_2 l0_3 a1 = some r),
    Calls Try.prog 28 #[.agg #[.int .i64 a0_0, .int .i64 a0_1, .string a0_2, .slice A0_3 l0_3.length c0_3], .int .i64 a1] w fun e w' => e = .returned (.int .i64 r) ∧ Below w.heap.size w w' := by
  induction k using Nat.strongRecOn with
  | _ k ih =>
  intro a0_0 a0_1 a0_2 A0_3 c0_3 l0_3 a1 r w hr0_3 hc0_3 h
  cases k with
  | zero => exact absurd h (by simp [vinculumref03_Size.f])
  | succ k =>
  simp only [vinculumref03_Size.f] at h
  have hu24 := Try.underlying24
  have HR0_3 := Aside0.mk hr0_3
  have HC0_3 := Aside0.mk hc0_3
  clear hr0_3 hc0_3
  have HB := Aside0.mk (Below.refl w.heap.size w)
  have H : (vinculumref03_Size.l0 k a1 1 0 a0_0 a0_1 a0_2 l0_3) = some r := h
  clear h
  have H' := Aside0.mk H
  clear H
  go_enter Try.func28, Try.ntmps28
  go_wp2_with (first | ((with_reducible refine gate_dst (N := 2) rfl ?_); refine box_event ?hg (N := 2) ?hd (cs := #[.int .i64 a0_0, .int .i64 a0_1, .string a0_2, .slice A0_3 l0_3.length c0_3]) (t := 24) ?hr ?_; (case hd => rfl); (case hg => rfl); (case hr => first | (go_simp; done) | (go_simp; rfl)); intro gb123 hg w3 hbox hb; have n0_ := Aside0.mk (below_step (by repeat (first | (with_reducible first | exact HB.out | apply below_alloc | apply pw_below_drewN | apply below_drew1) | exact HB.out)) hb); have n1_ := Aside0.mk (hbox); have n2_ := Aside0.mk ((by rw [hg]; exact (below_size (by repeat (first | (with_reducible first | exact HB.out | apply below_alloc | apply pw_below_drewN | apply below_drew1) | exact HB.out))) : w.heap.size ≤ gb123)); have n3_ := Aside0.mk ((by rw [hg]; exact (below_size (by repeat (first | (with_reducible first | exact HB.out | apply below_alloc | apply pw_below_drewN | apply below_drew1) | exact HB.out))) : w.heap.size ≤ gb123)); clear HB; have HB := n0_; have BK123 := n1_; have GW123 := n2_; have GE123 := n3_; clear n0_ n1_ n2_ n3_; clear hb hbox hg))
  go_loopg [5, 6] k (fun kq v5 v6 w' => ∃ (x5_1 : Int) (x6_1 : Int), v5 = .int .i64 x5_1 ∧ v6 = .int .i64 x6_1 ∧ Aside0 (vinculumref03_Size.l0 kq a1 x5_1 x6_1 a0_0 a0_1 a0_2 l0_3 = some r) ∧ Aside0 (kq ≤ k) ∧ Aside0 (w'.heap[gb123]? = some (.cells #[.int .i64 a0_0, .int .i64 a0_1, .string a0_2, (.slice A0_3 l0_3.length c0_3)] 24 (0, 0))) ∧ Aside0 (Below w.heap.size w w'))
  case atStart => exact ⟨(1), (0), (by first | rfl | (simp; done) | (simp [*]; done) | (simp [ne_nil_bool]; done)), (by first | rfl | (simp; done) | (simp [*]; done) | (simp [ne_nil_bool]; done)), H', ⟨Nat.le_refl _⟩, ⟨by (with_reducible repeat (first | refine blk_drewN ?_ _ | refine blk_drew ?_ | refine blk_alloc ?_ _)); exact BK123.out⟩, ⟨by repeat (first | (with_reducible first | exact HB.out | apply below_alloc | apply pw_below_drewN | apply below_drew1 | refine below_set ?_ GE123.out) | exact HB.out)⟩⟩
  case round =>
    clear H'
    try clear c2
    try clear p2
    obtain ⟨x5_1, x6_1, rfl, rfl, HA, HK1, BK123, HB⟩ := hrel
    cases gk with
    | zero => exact absurd HA.out (by simp [vinculumref03_Size.l0])
    | succ k1 =>
      have H := HA.out
      clear HA
      simp only [vinculumref03_Size.l0] at H
      by_cases c4 : x6_1 < (l0_3.length : Int)
      · rw [if_pos c4] at H
        have c4b0 : decide (x6_1 < (l0_3.length : Int)) = true := decide_eq_true c4
        clear c4
        by_cases c5 : x5_1 < a1
        · rw [if_pos c5] at H
          have c5b0 : decide (x5_1 < a1) = true := decide_eq_true c5
          clear c5
          by_cases c6 : 0 ≤ x6_1
          · rw [if_pos c6] at H
            have c6b0 : decide (0 ≤ x6_1) = true := decide_eq_true c6
            clear c6
            replace H := Option.bind_eq_some_iff.mp H
            obtain ⟨t125, A70, H⟩ := H
            replace H : (vinculumref03_Size.l0 k1 a1 (wrap64 (x5_1 + t125)) (wrap64 (x6_1 + 1)) a0_0 a0_1 a0_2 l0_3) = some r := H
            have A7 := Aside0.mk A70
            clear A70
            have H' := Aside0.mk H
            clear H
            have hcz8_0 : wr.cell? ⟨gb123, 0, none⟩ = some (.int .i64 a0_0) := (blk_cell BK123.out 0).trans rfl
            have hcz8_1 : wr.cell? ⟨gb123, 1, none⟩ = some (.int .i64 a0_1) := (blk_cell BK123.out 1).trans rfl
            have hcz8_2 : wr.cell? ⟨gb123, 2, none⟩ = some (.string a0_2) := (blk_cell BK123.out 2).trans rfl
            have hcz8_3 : wr.cell? ⟨gb123, 3, none⟩ = some (.slice A0_3 l0_3.length c0_3) := (blk_cell BK123.out 3).trans rfl
            have hfz8_0 := blk_frozen BK123.out 0
            have hfz8_1 := blk_frozen BK123.out 1
            have hfz8_2 := blk_frozen BK123.out 2
            have hfz8_3 := blk_frozen BK123.out 3
            have p124 : 0 ≤ (x6_1 : Int) := of_decide_eq_true (by first | (with_reducible assumption) | assumption)
            have q124 : x6_1 < (l0_3.length : Int) := of_decide_eq_true (by first | (with_reducible assumption) | assumption)
            obtain ⟨ad124, A124_3, c124_3, e124, hx124_0, hx124_1, hx124_2, hx124_3, hl124_3, hi124_3⟩ := at_T24 HR0_3.out x6_1 p124 q124
            cases e124
            replace hx124_0 := (HB.out.cell (World.block_lt_of_cell? w _ hx124_0)).trans hx124_0
            replace hx124_1 := (HB.out.cell (World.block_lt_of_cell? w _ hx124_1)).trans hx124_1
            replace hx124_2 := (HB.out.cell (World.block_lt_of_cell? w _ hx124_2)).trans hx124_2
            replace hx124_3 := (HB.out.cell (World.block_lt_of_cell? w _ hx124_3)).trans hx124_3
            have HR124_3 := Aside0.mk hi124_3
            have HC124_3 := Aside0.mk hl124_3
            clear hi124_3 hl124_3
            replace p124 := eq_true p124
            replace q124 := eq_true q124
            go_wp2_with (first | ((with_reducible refine gate_callee (f := 28) rfl ?_); refine goesL_ (some 28) rfl rfl Try.func28 (by kernel_rfl) rfl #[.agg #[.int .i64 ((rd_T24 l0_3 x6_1).f0), .int .i64 ((rd_T24 l0_3 x6_1).f1), .string ((rd_T24 l0_3 x6_1).f2), .slice A124_3 ((rd_T24 l0_3 x6_1).f3).length c124_3], .int .i64 (wrap64 (a1 - x5_1))] rfl (by (try simp only [List.map_toArray, List.map_cons, List.map_nil]); first | done | rfl | (simp only [List.length_drop, List.length_take]; rfl)) ?_; (with_reducible refine (ih k1 (by have := HK1.out; omega) ((rd_T24 l0_3 x6_1).f0) ((rd_T24 l0_3 x6_1).f1) ((rd_T24 l0_3 x6_1).f2) _ _ ((rd_T24 l0_3 x6_1).f3) (wrap64 (a1 - x5_1)) t125 _ ?side1 ?side2 A7.out).mono ?_); (case side1 => repeat (first | exact (Kd.C_below HR124_3.out HB.out) | (with_reducible refine Kd.C_alloc ?_ _) | (with_reducible refine Kd.C_drewN ?_ _) | (with_reducible refine Kd.C_drew ?_))); (case side2 => exact HC124_3.out); rintro e w9 ⟨rfl, hb⟩; refine ⟨_, rfl, ?_⟩; have n0_ := Aside0.mk (blk_below (g := gb123) (o := .cells #[.int .i64 a0_0, .int .i64 a0_1, .string a0_2, .slice (some ad124) l0_3.length c0_3] 24 (0, 0)) (by (with_reducible repeat (first | refine blk_drewN ?_ _ | refine blk_drew ?_ | refine blk_alloc ?_ _)); exact BK123.out) hb); have n1_ := Aside0.mk (below_step (by repeat (first | (with_reducible first | exact HB.out | apply below_alloc | apply pw_below_drewN | apply below_drew1 | refine below_set ?_ GE123.out) | exact HB.out)) hb); clear BK123; clear HB; have BK123 := n0_; have HB := n1_; clear n0_ n1_; (try clear hb); (try clear hb2); (try clear hk); (try clear hi)))
            go_roundg k1
            case measure => have := HK1.out; omega
            case rel => exact ⟨(wrap64 (x5_1 + t125)), (wrap64 (x6_1 + 1)), (by first | rfl | (simp; done) | (simp [*]; done) | (simp [ne_nil_bool]; done)), (by first | rfl | (simp; done) | (simp [*]; done) | (simp [ne_nil_bool]; done)), H', ⟨by have := HK1.out; omega⟩, ⟨by (with_reducible repeat (first | refine blk_drewN ?_ _ | refine blk_drew ?_ | refine blk_alloc ?_ _)); exact BK123.out⟩, ⟨by repeat (first | (with_reducible first | exact HB.out | apply below_alloc | apply pw_below_drewN | apply below_drew1 | refine below_set ?_ GE123.out) | exact HB.out)⟩⟩
          · rw [if_neg c6] at H
            exact absurd H (by simp)
        · rw [if_neg c5] at H
          have c5b0 : decide (x5_1 < a1) = false := decide_eq_false c5
          clear c5
          obtain rfl := Option.some.inj H
          have hcz10_0 : wr.cell? ⟨gb123, 0, none⟩ = some (.int .i64 a0_0) := (blk_cell BK123.out 0).trans rfl
          have hcz10_1 : wr.cell? ⟨gb123, 1, none⟩ = some (.int .i64 a0_1) := (blk_cell BK123.out 1).trans rfl
          have hcz10_2 : wr.cell? ⟨gb123, 2, none⟩ = some (.string a0_2) := (blk_cell BK123.out 2).trans rfl
          have hcz10_3 : wr.cell? ⟨gb123, 3, none⟩ = some (.slice A0_3 l0_3.length c0_3) := (blk_cell BK123.out 3).trans rfl
          have hfz10_0 := blk_frozen BK123.out 0
          have hfz10_1 := blk_frozen BK123.out 1
          have hfz10_2 := blk_frozen BK123.out 2
          have hfz10_3 := blk_frozen BK123.out 3
          go_wp2
          go_ret
          exact ⟨by first | rfl | (simp [errW_none, errW_some] <;> rfl) | (simp [*, errW_none, errW_some] <;> rfl), by repeat (first | (with_reducible first | exact HB.out | apply below_alloc | apply pw_below_drewN | apply below_drew1 | refine below_set ?_ GE123.out) | exact HB.out)⟩
      · rw [if_neg c4] at H
        have c4b0 : decide (x6_1 < (l0_3.length : Int)) = false := decide_eq_false c4
        clear c4
        obtain rfl := Option.some.inj H
        have hcz11_0 : wr.cell? ⟨gb123, 0, none⟩ = some (.int .i64 a0_0) := (blk_cell BK123.out 0).trans rfl
        have hcz11_1 : wr.cell? ⟨gb123, 1, none⟩ = some (.int .i64 a0_1) := (blk_cell BK123.out 1).trans rfl
        have hcz11_2 : wr.cell? ⟨gb123, 2, none⟩ = some (.string a0_2) := (blk_cell BK123.out 2).trans rfl
        have hcz11_3 : wr.cell? ⟨gb123, 3, none⟩ = some (.slice A0_3 l0_3.length c0_3) := (blk_cell BK123.out 3).trans rfl
        have hfz11_0 := blk_frozen BK123.out 0
        have hfz11_1 := blk_frozen BK123.out 1
        have hfz11_2 := blk_frozen BK123.out 2
        have hfz11_3 := blk_frozen BK123.out 3
        go_wp2
        go_ret
        exact ⟨by first | rfl | (simp [errW_none, errW_some] <;> rfl) | (simp [*, errW_none, errW_some] <;> rfl), by repeat (first | (with_reducible first | exact HB.out | apply below_alloc | apply pw_below_drewN | apply below_drew1 | refine below_set ?_ GE123.out) | exact HB.out)⟩

/-! ### vinculumlaw03_short: function 29 -/
mutual
def vinculumlaw03_short.l0 : Nat → Int → Int → Int → ByteArray → List (S24) → Option (Bool)
  | 0, _, _, _, _, _ => none
  | k + 1, x3, x127000, x127001, x127002, x127003 => if x3 < (x127003.length : Int) then (if 0 ≤ x3 then ((vinculumlaw03_short.f k ((rd_T24 x127003 x3).f0) ((rd_T24 x127003 x3).f1) ((rd_T24 x127003 x3).f2) ((rd_T24 x127003 x3).f3)).bind fun t128 => (if t128 = true then (vinculumlaw03_short.l0 k (wrap64 (x3 + 1)) x127000 x127001 x127002 x127003) else (some false))) else (none)) else (some (decide ((x127002.size : Int) ≤ 5000)))
def vinculumlaw03_short.f : Nat → Int → Int → ByteArray → List (S24) → Option (Bool)
  | 0, _, _, _, _ => none
  | k + 1, a0_0, a0_1, a0_2, l0_3 => vinculumlaw03_short.l0 k 0 a0_0 a0_1 a0_2 l0_3
end
theorem vinculumlaw03_short.mono_l : ∀ k, (∀ y0 y1 y2 y3, LeO (vinculumlaw03_short.f k y0 y1 y2 y3) (vinculumlaw03_short.f (k + 1) y0 y1 y2 y3)) ∧ (∀ y0 y1 y2 y3 y4, LeO (vinculumlaw03_short.l0 k y0 y1 y2 y3 y4) (vinculumlaw03_short.l0 (k + 1) y0 y1 y2 y3 y4))
  | 0 => ⟨fun _ _ _ _ r h => by simp [vinculumlaw03_short.f] at h, fun _ _ _ _ _ r h => by simp [vinculumlaw03_short.l0] at h⟩
  | k + 1 => by
    obtain ⟨ih0, ih1⟩ := vinculumlaw03_short.mono_l k
    refine ⟨?_, ?_⟩
    · intro y0 y1 y2 y3
      unfold vinculumlaw03_short.f
      repeat' first
      | (with_reducible exact ih0 _ _ _ _)
      | (with_reducible exact ih1 _ _ _ _ _)
      | (with_reducible exact LeO.refl _)
      | (with_reducible exact LeO.none _)
      | (with_reducible refine LeO.ite ?_ ?_)
      | (with_reducible refine LeO.bind ?_ (fun _ => ?_))
      | exact ih0 _ _ _ _
      | exact ih1 _ _ _ _ _
      | exact LeO.none _
      | refine LeO.ite ?_ ?_
      | refine LeO.bind ?_ (fun _ => ?_)
    · intro y0 y1 y2 y3 y4
      unfold vinculumlaw03_short.l0
      repeat' first
      | (with_reducible exact ih0 _ _ _ _)
      | (with_reducible exact ih1 _ _ _ _ _)
      | (with_reducible exact LeO.refl _)
      | (with_reducible exact LeO.none _)
      | (with_reducible refine LeO.ite ?_ ?_)
      | (with_reducible refine LeO.bind ?_ (fun _ => ?_))
      | exact ih0 _ _ _ _
      | exact ih1 _ _ _ _ _
      | exact LeO.none _
      | refine LeO.ite ?_ ?_
      | refine LeO.bind ?_ (fun _ => ?_)
theorem vinculumlaw03_short.mono : ∀ a0 a1 a2 a3 k, LeO (vinculumlaw03_short.f k a0 a1 a2 a3) (vinculumlaw03_short.f (k + 1) a0 a1 a2 a3) := by
  intro a0 a1 a2 a3 k
  obtain ⟨ih0, ih1⟩ := vinculumlaw03_short.mono_l k
  exact ih0 a0 a1 a2 a3
set_option maxHeartbeats 8000000 in
set_option maxRecDepth 100000 in
theorem vinculumlaw03_short.calls (k : Nat) : ∀ (a0_0 : Int) (a0_1 : Int) (a0_2 : ByteArray) (A0_3 : Option Addr) (c0_3 : Nat) (l0_3 : List (S24)) (r : Bool) (w : World) (hr0_3 : Kd.C k24 w A0_3 l0_3.length l0_3) (hc0_3 : l0_3.length ≤ c0_3) (h : vinculumlaw03_short.f k a0_0 a0_1 a0_2 l0_3 = some r),
    Calls Try.prog 29 #[.agg #[.int .i64 a0_0, .int .i64 a0_1, .string a0_2, .slice A0_3 l0_3.length c0_3]] w fun e w' => e = .returned (.bool r) ∧ Below w.heap.size w w' := by
  induction k using Nat.strongRecOn with
  | _ k ih =>
  intro a0_0 a0_1 a0_2 A0_3 c0_3 l0_3 r w hr0_3 hc0_3 h
  cases k with
  | zero => exact absurd h (by simp [vinculumlaw03_short.f])
  | succ k =>
  simp only [vinculumlaw03_short.f] at h
  have hu24 := Try.underlying24
  have HR0_3 := Aside0.mk hr0_3
  have HC0_3 := Aside0.mk hc0_3
  clear hr0_3 hc0_3
  have HB := Aside0.mk (Below.refl w.heap.size w)
  have H : (vinculumlaw03_short.l0 k 0 a0_0 a0_1 a0_2 l0_3) = some r := h
  clear h
  have H' := Aside0.mk H
  clear H
  go_enter Try.func29, Try.ntmps29
  go_wp2_with (first | ((with_reducible refine gate_dst (N := 1) rfl ?_); refine box_event ?hg (N := 1) ?hd (cs := #[.int .i64 a0_0, .int .i64 a0_1, .string a0_2, .slice A0_3 l0_3.length c0_3]) (t := 24) ?hr ?_; (case hd => rfl); (case hg => rfl); (case hr => first | (go_simp; done) | (go_simp; rfl)); intro gb126 hg w2 hbox hb; have n0_ := Aside0.mk (below_step (by repeat (first | (with_reducible first | exact HB.out | apply below_alloc | apply pw_below_drewN | apply below_drew1) | exact HB.out)) hb); have n1_ := Aside0.mk (hbox); have n2_ := Aside0.mk ((by rw [hg]; exact (below_size (by repeat (first | (with_reducible first | exact HB.out | apply below_alloc | apply pw_below_drewN | apply below_drew1) | exact HB.out))) : w.heap.size ≤ gb126)); have n3_ := Aside0.mk ((by rw [hg]; exact (below_size (by repeat (first | (with_reducible first | exact HB.out | apply below_alloc | apply pw_below_drewN | apply below_drew1) | exact HB.out))) : w.heap.size ≤ gb126)); clear HB; have HB := n0_; have BK126 := n1_; have GW126 := n2_; have GE126 := n3_; clear n0_ n1_ n2_ n3_; clear hb hbox hg))
  go_loopg [3] k (fun kq v3 w' => ∃ (x3_1 : Int), v3 = .int .i64 x3_1 ∧ Aside0 (vinculumlaw03_short.l0 kq x3_1 a0_0 a0_1 a0_2 l0_3 = some r) ∧ Aside0 (kq ≤ k) ∧ Aside0 (w'.heap[gb126]? = some (.cells #[.int .i64 a0_0, .int .i64 a0_1, .string a0_2, (.slice A0_3 l0_3.length c0_3)] 24 (0, 0))) ∧ Aside0 (Below w.heap.size w w'))
  case atStart => exact ⟨(0), (by first | rfl | (simp; done) | (simp [*]; done) | (simp [ne_nil_bool]; done)), H', ⟨Nat.le_refl _⟩, ⟨by (with_reducible repeat (first | refine blk_drewN ?_ _ | refine blk_drew ?_ | refine blk_alloc ?_ _)); exact BK126.out⟩, ⟨by repeat (first | (with_reducible first | exact HB.out | apply below_alloc | apply pw_below_drewN | apply below_drew1 | refine below_set ?_ GE126.out) | exact HB.out)⟩⟩
  case round =>
    clear H'
    try clear c2
    try clear p2
    obtain ⟨x3_1, rfl, HA, HK1, BK126, HB⟩ := hrel
    cases gk with
    | zero => exact absurd HA.out (by simp [vinculumlaw03_short.l0])
    | succ k1 =>
      have H := HA.out
      clear HA
      simp only [vinculumlaw03_short.l0] at H
      by_cases c3 : x3_1 < (l0_3.length : Int)
      · rw [if_pos c3] at H
        have c3b0 : decide (x3_1 < (l0_3.length : Int)) = true := decide_eq_true c3
        clear c3
        by_cases c4 : 0 ≤ x3_1
        · rw [if_pos c4] at H
          have c4b0 : decide (0 ≤ x3_1) = true := decide_eq_true c4
          clear c4
          replace H := Option.bind_eq_some_iff.mp H
          obtain ⟨t128, A50, H⟩ := H
          replace H : (if t128 = true then (vinculumlaw03_short.l0 k1 (wrap64 (x3_1 + 1)) a0_0 a0_1 a0_2 l0_3) else (some false)) = some r := H
          have A5 := Aside0.mk A50
          clear A50
          by_cases c6 : t128 = true
          · subst c6
            have H1 : (vinculumlaw03_short.l0 k1 (wrap64 (x3_1 + 1)) a0_0 a0_1 a0_2 l0_3) = some r := by rw [if_pos rfl] at H; exact H
            clear H
            have H := H1
            clear H1
            have H' := Aside0.mk H
            clear H
            have hcz7_0 : wr.cell? ⟨gb126, 0, none⟩ = some (.int .i64 a0_0) := (blk_cell BK126.out 0).trans rfl
            have hcz7_1 : wr.cell? ⟨gb126, 1, none⟩ = some (.int .i64 a0_1) := (blk_cell BK126.out 1).trans rfl
            have hcz7_2 : wr.cell? ⟨gb126, 2, none⟩ = some (.string a0_2) := (blk_cell BK126.out 2).trans rfl
            have hcz7_3 : wr.cell? ⟨gb126, 3, none⟩ = some (.slice A0_3 l0_3.length c0_3) := (blk_cell BK126.out 3).trans rfl
            have hfz7_0 := blk_frozen BK126.out 0
            have hfz7_1 := blk_frozen BK126.out 1
            have hfz7_2 := blk_frozen BK126.out 2
            have hfz7_3 := blk_frozen BK126.out 3
            have p127 : 0 ≤ (x3_1 : Int) := of_decide_eq_true (by first | (with_reducible assumption) | assumption)
            have q127 : x3_1 < (l0_3.length : Int) := of_decide_eq_true (by first | (with_reducible assumption) | assumption)
            obtain ⟨ad127, A127_3, c127_3, e127, hx127_0, hx127_1, hx127_2, hx127_3, hl127_3, hi127_3⟩ := at_T24 HR0_3.out x3_1 p127 q127
            cases e127
            replace hx127_0 := (HB.out.cell (World.block_lt_of_cell? w _ hx127_0)).trans hx127_0
            replace hx127_1 := (HB.out.cell (World.block_lt_of_cell? w _ hx127_1)).trans hx127_1
            replace hx127_2 := (HB.out.cell (World.block_lt_of_cell? w _ hx127_2)).trans hx127_2
            replace hx127_3 := (HB.out.cell (World.block_lt_of_cell? w _ hx127_3)).trans hx127_3
            have HR127_3 := Aside0.mk hi127_3
            have HC127_3 := Aside0.mk hl127_3
            clear hi127_3 hl127_3
            replace p127 := eq_true p127
            replace q127 := eq_true q127
            go_wp2_with (first | ((with_reducible refine gate_callee (f := 29) rfl ?_); refine goesL_ (some 16) rfl rfl Try.func29 (by kernel_rfl) rfl #[.agg #[.int .i64 ((rd_T24 l0_3 x3_1).f0), .int .i64 ((rd_T24 l0_3 x3_1).f1), .string ((rd_T24 l0_3 x3_1).f2), .slice A127_3 ((rd_T24 l0_3 x3_1).f3).length c127_3]] rfl (by (try simp only [List.map_toArray, List.map_cons, List.map_nil]); first | done | rfl | (simp only [List.length_drop, List.length_take]; rfl)) ?_; (with_reducible refine (ih k1 (by have := HK1.out; omega) ((rd_T24 l0_3 x3_1).f0) ((rd_T24 l0_3 x3_1).f1) ((rd_T24 l0_3 x3_1).f2) _ _ ((rd_T24 l0_3 x3_1).f3) true _ ?side1 ?side2 A5.out).mono ?_); (case side1 => repeat (first | exact (Kd.C_below HR127_3.out HB.out) | (with_reducible refine Kd.C_alloc ?_ _) | (with_reducible refine Kd.C_drewN ?_ _) | (with_reducible refine Kd.C_drew ?_))); (case side2 => exact HC127_3.out); rintro e w8 ⟨rfl, hb⟩; refine ⟨_, rfl, ?_⟩; have n0_ := Aside0.mk (blk_below (g := gb126) (o := .cells #[.int .i64 a0_0, .int .i64 a0_1, .string a0_2, .slice (some ad127) l0_3.length c0_3] 24 (0, 0)) (by (with_reducible repeat (first | refine blk_drewN ?_ _ | refine blk_drew ?_ | refine blk_alloc ?_ _)); exact BK126.out) hb); have n1_ := Aside0.mk (below_step (by repeat (first | (with_reducible first | exact HB.out | apply below_alloc | apply pw_below_drewN | apply below_drew1 | refine below_set ?_ GE126.out) | exact HB.out)) hb); clear BK126; clear HB; have BK126 := n0_; have HB := n1_; clear n0_ n1_; (try clear hb); (try clear hb2); (try clear hk); (try clear hi)))
            go_roundg k1
            case measure => have := HK1.out; omega
            case rel => exact ⟨(wrap64 (x3_1 + 1)), (by first | rfl | (simp; done) | (simp [*]; done) | (simp [ne_nil_bool]; done)), H', ⟨by have := HK1.out; omega⟩, ⟨by (with_reducible repeat (first | refine blk_drewN ?_ _ | refine blk_drew ?_ | refine blk_alloc ?_ _)); exact BK126.out⟩, ⟨by repeat (first | (with_reducible first | exact HB.out | apply below_alloc | apply pw_below_drewN | apply below_drew1 | refine below_set ?_ GE126.out) | exact HB.out)⟩⟩
          · replace c6 := Bool.eq_false_iff.mpr c6
            subst c6
            have H1 : (some false) = some r := by rw [if_neg (show ¬ (false = true) by decide)] at H; exact H
            clear H
            have H := H1
            clear H1
            obtain rfl := Option.some.inj H
            have hcz9_0 : wr.cell? ⟨gb126, 0, none⟩ = some (.int .i64 a0_0) := (blk_cell BK126.out 0).trans rfl
            have hcz9_1 : wr.cell? ⟨gb126, 1, none⟩ = some (.int .i64 a0_1) := (blk_cell BK126.out 1).trans rfl
            have hcz9_2 : wr.cell? ⟨gb126, 2, none⟩ = some (.string a0_2) := (blk_cell BK126.out 2).trans rfl
            have hcz9_3 : wr.cell? ⟨gb126, 3, none⟩ = some (.slice A0_3 l0_3.length c0_3) := (blk_cell BK126.out 3).trans rfl
            have hfz9_0 := blk_frozen BK126.out 0
            have hfz9_1 := blk_frozen BK126.out 1
            have hfz9_2 := blk_frozen BK126.out 2
            have hfz9_3 := blk_frozen BK126.out 3
            have p127 : 0 ≤ (x3_1 : Int) := of_decide_eq_true (by first | (with_reducible assumption) | assumption)
            have q127 : x3_1 < (l0_3.length : Int) := of_decide_eq_true (by first | (with_reducible assumption) | assumption)
            obtain ⟨ad127, A127_3, c127_3, e127, hx127_0, hx127_1, hx127_2, hx127_3, hl127_3, hi127_3⟩ := at_T24 HR0_3.out x3_1 p127 q127
            cases e127
            replace hx127_0 := (HB.out.cell (World.block_lt_of_cell? w _ hx127_0)).trans hx127_0
            replace hx127_1 := (HB.out.cell (World.block_lt_of_cell? w _ hx127_1)).trans hx127_1
            replace hx127_2 := (HB.out.cell (World.block_lt_of_cell? w _ hx127_2)).trans hx127_2
            replace hx127_3 := (HB.out.cell (World.block_lt_of_cell? w _ hx127_3)).trans hx127_3
            have HR127_3 := Aside0.mk hi127_3
            have HC127_3 := Aside0.mk hl127_3
            clear hi127_3 hl127_3
            replace p127 := eq_true p127
            replace q127 := eq_true q127
            go_wp2_with (first | ((with_reducible refine gate_callee (f := 29) rfl ?_); refine goesL_ (some 16) rfl rfl Try.func29 (by kernel_rfl) rfl #[.agg #[.int .i64 ((rd_T24 l0_3 x3_1).f0), .int .i64 ((rd_T24 l0_3 x3_1).f1), .string ((rd_T24 l0_3 x3_1).f2), .slice A127_3 ((rd_T24 l0_3 x3_1).f3).length c127_3]] rfl (by (try simp only [List.map_toArray, List.map_cons, List.map_nil]); first | done | rfl | (simp only [List.length_drop, List.length_take]; rfl)) ?_; (with_reducible refine (ih k1 (by have := HK1.out; omega) ((rd_T24 l0_3 x3_1).f0) ((rd_T24 l0_3 x3_1).f1) ((rd_T24 l0_3 x3_1).f2) _ _ ((rd_T24 l0_3 x3_1).f3) false _ ?side1 ?side2 A5.out).mono ?_); (case side1 => repeat (first | exact (Kd.C_below HR127_3.out HB.out) | (with_reducible refine Kd.C_alloc ?_ _) | (with_reducible refine Kd.C_drewN ?_ _) | (with_reducible refine Kd.C_drew ?_))); (case side2 => exact HC127_3.out); rintro e w10 ⟨rfl, hb⟩; refine ⟨_, rfl, ?_⟩; have n0_ := Aside0.mk (blk_below (g := gb126) (o := .cells #[.int .i64 a0_0, .int .i64 a0_1, .string a0_2, .slice (some ad127) l0_3.length c0_3] 24 (0, 0)) (by (with_reducible repeat (first | refine blk_drewN ?_ _ | refine blk_drew ?_ | refine blk_alloc ?_ _)); exact BK126.out) hb); have n1_ := Aside0.mk (below_step (by repeat (first | (with_reducible first | exact HB.out | apply below_alloc | apply pw_below_drewN | apply below_drew1 | refine below_set ?_ GE126.out) | exact HB.out)) hb); clear BK126; clear HB; have BK126 := n0_; have HB := n1_; clear n0_ n1_; (try clear hb); (try clear hb2); (try clear hk); (try clear hi)))
            go_ret
            exact ⟨by first | rfl | (simp [errW_none, errW_some] <;> rfl) | (simp [*, errW_none, errW_some] <;> rfl), by repeat (first | (with_reducible first | exact HB.out | apply below_alloc | apply pw_below_drewN | apply below_drew1 | refine below_set ?_ GE126.out) | exact HB.out)⟩
        · rw [if_neg c4] at H
          exact absurd H (by simp)
      · rw [if_neg c3] at H
        have c3b0 : decide (x3_1 < (l0_3.length : Int)) = false := decide_eq_false c3
        clear c3
        obtain rfl := Option.some.inj H
        have hcz11_0 : wr.cell? ⟨gb126, 0, none⟩ = some (.int .i64 a0_0) := (blk_cell BK126.out 0).trans rfl
        have hcz11_1 : wr.cell? ⟨gb126, 1, none⟩ = some (.int .i64 a0_1) := (blk_cell BK126.out 1).trans rfl
        have hcz11_2 : wr.cell? ⟨gb126, 2, none⟩ = some (.string a0_2) := (blk_cell BK126.out 2).trans rfl
        have hcz11_3 : wr.cell? ⟨gb126, 3, none⟩ = some (.slice A0_3 l0_3.length c0_3) := (blk_cell BK126.out 3).trans rfl
        have hfz11_0 := blk_frozen BK126.out 0
        have hfz11_1 := blk_frozen BK126.out 1
        have hfz11_2 := blk_frozen BK126.out 2
        have hfz11_3 := blk_frozen BK126.out 3
        go_wp2
        go_ret
        exact ⟨by first | rfl | (simp [errW_none, errW_some] <;> rfl) | (simp [*, errW_none, errW_some] <;> rfl), by repeat (first | (with_reducible first | exact HB.out | apply below_alloc | apply pw_below_drewN | apply below_drew1 | refine below_set ?_ GE126.out) | exact HB.out)⟩

/-! ### vinculumlaw03_few: function 12 -/
def vinculumlaw03_few.f (k : Nat) (a0_0 : Int) (a0_1 : Int) (a0_2 : ByteArray) (l0_3 : List (S24)) : Option (Bool) := (vinculumref03_Size.f k a0_0 a0_1 a0_2 l0_3 301).bind fun t130 => (if t130 ≤ 300 then ((vinculumlaw03_short.f k a0_0 a0_1 a0_2 l0_3).bind fun t131 => (some t131)) else (some false))
theorem vinculumlaw03_few.mono : ∀ a0 a1 a2 a3 k, LeO (vinculumlaw03_few.f k a0 a1 a2 a3) (vinculumlaw03_few.f (k + 1) a0 a1 a2 a3) := by
  intro a0 a1 a2 a3 k
  unfold vinculumlaw03_few.f
  repeat' first
      | (with_reducible exact vinculumlaw03_short.mono _ _ _ _ _)
      | (with_reducible exact vinculumref03_Size.mono _ _ _ _ _ _)
      | (with_reducible exact LeO.refl _)
      | (with_reducible exact LeO.none _)
      | (with_reducible refine LeO.ite ?_ ?_)
      | (with_reducible refine LeO.bind ?_ (fun _ => ?_))
      | exact vinculumlaw03_short.mono _ _ _ _ _
      | exact vinculumref03_Size.mono _ _ _ _ _ _
      | exact LeO.none _
      | refine LeO.ite ?_ ?_
      | refine LeO.bind ?_ (fun _ => ?_)
set_option maxHeartbeats 8000000 in
set_option maxRecDepth 100000 in
theorem vinculumlaw03_few.calls (k : Nat) (a0_0 : Int) (a0_1 : Int) (a0_2 : ByteArray) (A0_3 : Option Addr) (c0_3 : Nat) (l0_3 : List (S24)) (r : Bool) (w : World) (hr0_3 : Kd.C k24 w A0_3 l0_3.length l0_3) (hc0_3 : l0_3.length ≤ c0_3) (h : vinculumlaw03_few.f k a0_0 a0_1 a0_2 l0_3 = some r) :
    Calls Try.prog 12 #[.agg #[.int .i64 a0_0, .int .i64 a0_1, .string a0_2, .slice A0_3 l0_3.length c0_3]] w fun e w' => e = .returned (.bool r) ∧ Below w.heap.size w w' := by
  have hu24 := Try.underlying24
  have HR0_3 := Aside0.mk hr0_3
  have HC0_3 := Aside0.mk hc0_3
  clear hr0_3 hc0_3
  have HB := Aside0.mk (Below.refl w.heap.size w)
  have H : ((vinculumref03_Size.f k a0_0 a0_1 a0_2 l0_3 301).bind fun t130 => (if t130 ≤ 300 then ((vinculumlaw03_short.f k a0_0 a0_1 a0_2 l0_3).bind fun t131 => (some t131)) else (some false))) = some r := h
  clear h
  replace H := Option.bind_eq_some_iff.mp H
  obtain ⟨t130, A20, H⟩ := H
  replace H : (if t130 ≤ 300 then ((vinculumlaw03_short.f k a0_0 a0_1 a0_2 l0_3).bind fun t131 => (some t131)) else (some false)) = some r := H
  have A2 := Aside0.mk A20
  clear A20
  by_cases c3 : t130 ≤ 300
  · rw [if_pos c3] at H
    have c3b0 : decide (t130 ≤ 300) = true := decide_eq_true c3
    clear c3
    replace H := Option.bind_eq_some_iff.mp H
    obtain ⟨t131, A40, H⟩ := H
    replace H : (some t131) = some r := H
    have A4 := Aside0.mk A40
    clear A40
    obtain rfl := Option.some.inj H
    go_enter Try.func12, Try.ntmps12
    go_wp2_with (first | ((with_reducible refine gate_dst (N := 1) rfl ?_); refine box_event ?hg (N := 1) ?hd (cs := #[.int .i64 a0_0, .int .i64 a0_1, .string a0_2, .slice A0_3 l0_3.length c0_3]) (t := 24) ?hr ?_; (case hd => rfl); (case hg => rfl); (case hr => first | (go_simp; done) | (go_simp; rfl)); intro gb129 hg w5 hbox hb; have n0_ := Aside0.mk (below_step (by repeat (first | (with_reducible first | exact HB.out | apply below_alloc | apply pw_below_drewN | apply below_drew1) | exact HB.out)) hb); have n1_ := Aside0.mk (hbox); have n2_ := Aside0.mk ((by rw [hg]; exact (below_size (by repeat (first | (with_reducible first | exact HB.out | apply below_alloc | apply pw_below_drewN | apply below_drew1) | exact HB.out))) : w.heap.size ≤ gb129)); have n3_ := Aside0.mk ((by rw [hg]; exact (below_size (by repeat (first | (with_reducible first | exact HB.out | apply below_alloc | apply pw_below_drewN | apply below_drew1) | exact HB.out))) : w.heap.size ≤ gb129)); clear HB; have HB := n0_; have BK129 := n1_; have GW129 := n2_; have GE129 := n3_; clear n0_ n1_ n2_ n3_; clear hb hbox hg; have hcz6_0 : w5.cell? ⟨gb129, 0, none⟩ = some (.int .i64 a0_0) := (blk_cell BK129.out 0).trans rfl; have hcz6_1 : w5.cell? ⟨gb129, 1, none⟩ = some (.int .i64 a0_1) := (blk_cell BK129.out 1).trans rfl; have hcz6_2 : w5.cell? ⟨gb129, 2, none⟩ = some (.string a0_2) := (blk_cell BK129.out 2).trans rfl; have hcz6_3 : w5.cell? ⟨gb129, 3, none⟩ = some (.slice A0_3 l0_3.length c0_3) := (blk_cell BK129.out 3).trans rfl; have hfz6_0 := blk_frozen BK129.out 0; have hfz6_1 := blk_frozen BK129.out 1; have hfz6_2 := blk_frozen BK129.out 2; have hfz6_3 := blk_frozen BK129.out 3) | ((with_reducible refine gate_callee (f := 28) rfl ?_); refine goesL_ (some 4) rfl rfl Try.func28 (by kernel_rfl) rfl #[.agg #[.int .i64 a0_0, .int .i64 a0_1, .string a0_2, .slice A0_3 l0_3.length c0_3], .int .i64 301] rfl (by (try simp only [List.map_toArray, List.map_cons, List.map_nil]); first | done | rfl | (simp only [List.length_drop, List.length_take]; rfl)) ?_; (with_reducible refine (vinculumref03_Size.calls k a0_0 a0_1 a0_2 _ _ l0_3 301 t130 _ ?side1 ?side2 A2.out).mono ?_); (case side1 => repeat (first | exact (Kd.C_below HR0_3.out HB.out) | (with_reducible refine Kd.C_alloc ?_ _) | (with_reducible refine Kd.C_drewN ?_ _) | (with_reducible refine Kd.C_drew ?_))); (case side2 => exact HC0_3.out); rintro e w7 ⟨rfl, hb⟩; refine ⟨_, rfl, ?_⟩; have n0_ := Aside0.mk (blk_below (g := gb129) (o := .cells #[.int .i64 a0_0, .int .i64 a0_1, .string a0_2, .slice A0_3 l0_3.length c0_3] 24 (0, 0)) (by (with_reducible repeat (first | refine blk_drewN ?_ _ | refine blk_drew ?_ | refine blk_alloc ?_ _)); exact BK129.out) hb); have n1_ := Aside0.mk (below_step (by repeat (first | (with_reducible first | exact HB.out | apply below_alloc | apply pw_below_drewN | apply below_drew1 | refine below_set ?_ GE129.out) | exact HB.out)) hb); clear BK129; clear HB; have BK129 := n0_; have HB := n1_; clear n0_ n1_; (try clear hb); (try clear hb2); (try clear hk); (try clear hi); have hcz8_0 : w7.cell? ⟨gb129, 0, none⟩ = some (.int .i64 a0_0) := (blk_cell BK129.out 0).trans rfl; have hcz8_1 : w7.cell? ⟨gb129, 1, none⟩ = some (.int .i64 a0_1) := (blk_cell BK129.out 1).trans rfl; have hcz8_2 : w7.cell? ⟨gb129, 2, none⟩ = some (.string a0_2) := (blk_cell BK129.out 2).trans rfl; have hcz8_3 : w7.cell? ⟨gb129, 3, none⟩ = some (.slice A0_3 l0_3.length c0_3) := (blk_cell BK129.out 3).trans rfl; have hfz8_0 := blk_frozen BK129.out 0; have hfz8_1 := blk_frozen BK129.out 1; have hfz8_2 := blk_frozen BK129.out 2; have hfz8_3 := blk_frozen BK129.out 3) | (go_at_call 29; (with_reducible refine (vinculumlaw03_short.calls k a0_0 a0_1 a0_2 _ _ l0_3 t131 _ ?side1 ?side2 A4.out).mono ?_); (case side1 => repeat (first | exact (Kd.C_below HR0_3.out HB.out) | (with_reducible refine Kd.C_alloc ?_ _) | (with_reducible refine Kd.C_drewN ?_ _) | (with_reducible refine Kd.C_drew ?_))); (case side2 => exact HC0_3.out); rintro e w9 ⟨rfl, hb⟩; have n0_ := Aside0.mk (blk_below (g := gb129) (o := .cells #[.int .i64 a0_0, .int .i64 a0_1, .string a0_2, .slice A0_3 l0_3.length c0_3] 24 (0, 0)) (by (with_reducible repeat (first | refine blk_drewN ?_ _ | refine blk_drew ?_ | refine blk_alloc ?_ _)); exact BK129.out) hb); have n1_ := Aside0.mk (below_step (by repeat (first | (with_reducible first | exact HB.out | apply below_alloc | apply pw_below_drewN | apply below_drew1 | refine below_set ?_ GE129.out) | exact HB.out)) hb); clear BK129; clear HB; have BK129 := n0_; have HB := n1_; clear n0_ n1_; (try clear hb); (try clear hb2); (try clear hk); (try clear hi)))
    go_ret
    exact ⟨by first | rfl | (simp [errW_none, errW_some] <;> rfl) | (simp [*, errW_none, errW_some] <;> rfl), by repeat (first | (with_reducible first | exact HB.out | apply below_alloc | apply pw_below_drewN | apply below_drew1 | refine below_set ?_ GE129.out) | exact HB.out)⟩
  · rw [if_neg c3] at H
    have c3b0 : decide (t130 ≤ 300) = false := decide_eq_false c3
    clear c3
    obtain rfl := Option.some.inj H
    go_enter Try.func12, Try.ntmps12
    go_wp2_with (first | ((with_reducible refine gate_dst (N := 1) rfl ?_); refine box_event ?hg (N := 1) ?hd (cs := #[.int .i64 a0_0, .int .i64 a0_1, .string a0_2, .slice A0_3 l0_3.length c0_3]) (t := 24) ?hr ?_; (case hd => rfl); (case hg => rfl); (case hr => first | (go_simp; done) | (go_simp; rfl)); intro gb129 hg w10 hbox hb; have n0_ := Aside0.mk (below_step (by repeat (first | (with_reducible first | exact HB.out | apply below_alloc | apply pw_below_drewN | apply below_drew1) | exact HB.out)) hb); have n1_ := Aside0.mk (hbox); have n2_ := Aside0.mk ((by rw [hg]; exact (below_size (by repeat (first | (with_reducible first | exact HB.out | apply below_alloc | apply pw_below_drewN | apply below_drew1) | exact HB.out))) : w.heap.size ≤ gb129)); have n3_ := Aside0.mk ((by rw [hg]; exact (below_size (by repeat (first | (with_reducible first | exact HB.out | apply below_alloc | apply pw_below_drewN | apply below_drew1) | exact HB.out))) : w.heap.size ≤ gb129)); clear HB; have HB := n0_; have BK129 := n1_; have GW129 := n2_; have GE129 := n3_; clear n0_ n1_ n2_ n3_; clear hb hbox hg; have hcz11_0 : w10.cell? ⟨gb129, 0, none⟩ = some (.int .i64 a0_0) := (blk_cell BK129.out 0).trans rfl; have hcz11_1 : w10.cell? ⟨gb129, 1, none⟩ = some (.int .i64 a0_1) := (blk_cell BK129.out 1).trans rfl; have hcz11_2 : w10.cell? ⟨gb129, 2, none⟩ = some (.string a0_2) := (blk_cell BK129.out 2).trans rfl; have hcz11_3 : w10.cell? ⟨gb129, 3, none⟩ = some (.slice A0_3 l0_3.length c0_3) := (blk_cell BK129.out 3).trans rfl; have hfz11_0 := blk_frozen BK129.out 0; have hfz11_1 := blk_frozen BK129.out 1; have hfz11_2 := blk_frozen BK129.out 2; have hfz11_3 := blk_frozen BK129.out 3) | ((with_reducible refine gate_callee (f := 28) rfl ?_); refine goesL_ (some 4) rfl rfl Try.func28 (by kernel_rfl) rfl #[.agg #[.int .i64 a0_0, .int .i64 a0_1, .string a0_2, .slice A0_3 l0_3.length c0_3], .int .i64 301] rfl (by (try simp only [List.map_toArray, List.map_cons, List.map_nil]); first | done | rfl | (simp only [List.length_drop, List.length_take]; rfl)) ?_; (with_reducible refine (vinculumref03_Size.calls k a0_0 a0_1 a0_2 _ _ l0_3 301 t130 _ ?side1 ?side2 A2.out).mono ?_); (case side1 => repeat (first | exact (Kd.C_below HR0_3.out HB.out) | (with_reducible refine Kd.C_alloc ?_ _) | (with_reducible refine Kd.C_drewN ?_ _) | (with_reducible refine Kd.C_drew ?_))); (case side2 => exact HC0_3.out); rintro e w12 ⟨rfl, hb⟩; refine ⟨_, rfl, ?_⟩; have n0_ := Aside0.mk (blk_below (g := gb129) (o := .cells #[.int .i64 a0_0, .int .i64 a0_1, .string a0_2, .slice A0_3 l0_3.length c0_3] 24 (0, 0)) (by (with_reducible repeat (first | refine blk_drewN ?_ _ | refine blk_drew ?_ | refine blk_alloc ?_ _)); exact BK129.out) hb); have n1_ := Aside0.mk (below_step (by repeat (first | (with_reducible first | exact HB.out | apply below_alloc | apply pw_below_drewN | apply below_drew1 | refine below_set ?_ GE129.out) | exact HB.out)) hb); clear BK129; clear HB; have BK129 := n0_; have HB := n1_; clear n0_ n1_; (try clear hb); (try clear hb2); (try clear hk); (try clear hi)))
    go_ret
    exact ⟨by first | rfl | (simp [errW_none, errW_some] <;> rfl) | (simp [*, errW_none, errW_some] <;> rfl), by repeat (first | (with_reducible first | exact HB.out | apply below_alloc | apply pw_below_drewN | apply below_drew1 | refine below_set ?_ GE129.out) | exact HB.out)⟩

/-! ### vinculumlaw03_own: function 13 -/
mutual
def vinculumlaw03_own.l0 : Nat → Int → Int → Int → ByteArray → List (S24) → Int → Int → ByteArray → List (S29) → Option (Int × Int × ByteArray × (List (S29)))
  | 0, _, _, _, _, _, _, _, _, _ => none
  | k + 1, x4, x133000, x133001, x133002, x133003, x135000, x135001, x135002, x135003 => if x4 < (x133003.length : Int) then (if 0 ≤ x4 then ((vinculumlaw03_own.f k ((rd_T24 x133003 x4).f0) ((rd_T24 x133003 x4).f1) ((rd_T24 x133003 x4).f2) ((rd_T24 x133003 x4).f3)).bind fun bt136 => (if x135003.length < 2513169434916 then (vinculumlaw03_own.l0 k (wrap64 (x4 + 1)) x133000 x133001 x133002 x133003 x135000 x135001 x135002 (x135003 ++ [(⟨bt136.1, bt136.2.1, bt136.2.2.1, bt136.2.2.2⟩ : S29)])) else (none))) else (none)) else (some (x135000, x135001, x135002, x135003))
def vinculumlaw03_own.f : Nat → Int → Int → ByteArray → List (S24) → Option (Int × Int × ByteArray × (List (S29)))
  | 0, _, _, _, _ => none
  | k + 1, a0_0, a0_1, a0_2, l0_3 => vinculumlaw03_own.l0 k 0 a0_0 a0_1 a0_2 l0_3 a0_0 a0_1 a0_2 ([] : List (S29))
end
theorem vinculumlaw03_own.mono_l : ∀ k, (∀ y0 y1 y2 y3, LeO (vinculumlaw03_own.f k y0 y1 y2 y3) (vinculumlaw03_own.f (k + 1) y0 y1 y2 y3)) ∧ (∀ y0 y1 y2 y3 y4 y5 y6 y7 y8, LeO (vinculumlaw03_own.l0 k y0 y1 y2 y3 y4 y5 y6 y7 y8) (vinculumlaw03_own.l0 (k + 1) y0 y1 y2 y3 y4 y5 y6 y7 y8))
  | 0 => ⟨fun _ _ _ _ r h => by simp [vinculumlaw03_own.f] at h, fun _ _ _ _ _ _ _ _ _ r h => by simp [vinculumlaw03_own.l0] at h⟩
  | k + 1 => by
    obtain ⟨ih0, ih1⟩ := vinculumlaw03_own.mono_l k
    refine ⟨?_, ?_⟩
    · intro y0 y1 y2 y3
      unfold vinculumlaw03_own.f
      repeat' first
      | (with_reducible exact ih0 _ _ _ _)
      | (with_reducible exact ih1 _ _ _ _ _ _ _ _ _)
      | (with_reducible exact LeO.refl _)
      | (with_reducible exact LeO.none _)
      | (with_reducible refine LeO.ite ?_ ?_)
      | (with_reducible refine LeO.bind ?_ (fun _ => ?_))
      | exact ih0 _ _ _ _
      | exact ih1 _ _ _ _ _ _ _ _ _
      | exact LeO.none _
      | refine LeO.ite ?_ ?_
      | refine LeO.bind ?_ (fun _ => ?_)
    · intro y0 y1 y2 y3 y4 y5 y6 y7 y8
      unfold vinculumlaw03_own.l0
      repeat' first
      | (with_reducible exact ih0 _ _ _ _)
      | (with_reducible exact ih1 _ _ _ _ _ _ _ _ _)
      | (with_reducible exact LeO.refl _)
      | (with_reducible exact LeO.none _)
      | (with_reducible refine LeO.ite ?_ ?_)
      | (with_reducible refine LeO.bind ?_ (fun _ => ?_))
      | exact ih0 _ _ _ _
      | exact ih1 _ _ _ _ _ _ _ _ _
      | exact LeO.none _
      | refine LeO.ite ?_ ?_
      | refine LeO.bind ?_ (fun _ => ?_)
theorem vinculumlaw03_own.mono : ∀ a0 a1 a2 a3 k, LeO (vinculumlaw03_own.f k a0 a1 a2 a3) (vinculumlaw03_own.f (k + 1) a0 a1 a2 a3) := by
  intro a0 a1 a2 a3 k
  obtain ⟨ih0, ih1⟩ := vinculumlaw03_own.mono_l k
  exact ih0 a0 a1 a2 a3
def vinculumlaw03_own.T5 : Bool × List (List Nat × List Nat) := (true, [([], []), ([0], [0]), ([], []), ([2], [2]), ([], []), ([3, 4], [3, 4]), ([5], [5]), ([6], [6]), ([7], [7]), ([1, 8, 7], [1, 8]), ([0, 1, 2, 3, 4, 5, 6, 7, 8, 9], []), ([10, 9, 9, 0, 1, 2, 3, 4, 5, 6, 7, 8, 9], [9, 10])])
def vinculumlaw03_own.B5 : List Nat := [0, 1, 0, 4, 0, 28, 60, 124, 252, 511, 1023, 2047]
theorem vinculumlaw03_own.tab5 : rtab .any (opsOf Try.f13 5) = vinculumlaw03_own.T5 := by kernel_rfl
theorem vinculumlaw03_own.bits5 : waitsOk vinculumlaw03_own.T5.2 vinculumlaw03_own.B5 = true := by kernel_rfl
set_option maxHeartbeats 8000000 in
set_option maxRecDepth 100000 in
theorem vinculumlaw03_own.calls (k : Nat) : ∀ (a0_0 : Int) (a0_1 : Int) (a0_2 : ByteArray) (A0_3 : Option Addr) (c0_3 : Nat) (l0_3 : List (S24)) (r1 : Int) (r2 : Int) (r3 : ByteArray) (r4 : List (S29)) (w : World) (hr0_3 : Kd.C k24 w A0_3 l0_3.length l0_3) (hc0_3 : l0_3.length ≤ c0_3) (h : vinculumlaw03_own.f k a0_0 a0_1 a0_2 l0_3 = some (r1, r2, r3, r4)),
    Calls Try.prog 13 #[.agg #[.int .i64 a0_0, .int .i64 a0_1, .string a0_2, .slice A0_3 l0_3.length c0_3]] w fun e w' => ∃ v3_ : Value, e = .returned (.agg #[.int .i64 r1, .int .i64 r2, .string r3, v3_]) ∧ Kd.R k29 29 w' w.heap.size (fun _ => True) v3_ r4 ∧ Below w.heap.size w w' := by
  induction k using Nat.strongRecOn with
  | _ k ih =>
  intro a0_0 a0_1 a0_2 A0_3 c0_3 l0_3 r1 r2 r3 r4 w hr0_3 hc0_3 h
  cases k with
  | zero => exact absurd h (by simp [vinculumlaw03_own.f])
  | succ k =>
  simp only [vinculumlaw03_own.f] at h
  have hu24 := Try.underlying24
  have hu29 := Try.underlying29
  have HR0_3 := Aside0.mk hr0_3
  have HC0_3 := Aside0.mk hc0_3
  clear hr0_3 hc0_3
  have HB := Aside0.mk (Below.refl w.heap.size w)
  have H : (vinculumlaw03_own.l0 k 0 a0_0 a0_1 a0_2 l0_3 a0_0 a0_1 a0_2 ([] : List (S29))) = some (r1, r2, r3, r4) := h
  clear h
  have H' := Aside0.mk H
  clear H
  go_enter Try.func13, Try.ntmps13
  go_wp2_with (first | ((with_reducible refine gate_dst (N := 1) rfl ?_); refine box_event ?hg (N := 1) ?hd (cs := #[.int .i64 a0_0, .int .i64 a0_1, .string a0_2, .slice A0_3 l0_3.length c0_3]) (t := 24) ?hr ?_; (case hd => rfl); (case hg => rfl); (case hr => first | (go_simp; done) | (go_simp; rfl)); intro gb132 hg w2 hbox hb; have n0_ := Aside0.mk (below_step (by repeat (first | (with_reducible first | exact HB.out | apply below_alloc | apply pw_below_drewN | apply below_drew1) | exact HB.out)) hb); have n1_ := Aside0.mk (hbox); have n2_ := Aside0.mk ((by rw [hg]; exact (below_size (by repeat (first | (with_reducible first | exact HB.out | apply below_alloc | apply pw_below_drewN | apply below_drew1) | exact HB.out))) : w.heap.size ≤ gb132)); have n3_ := Aside0.mk ((by rw [hg]; exact (below_size (by repeat (first | (with_reducible first | exact HB.out | apply below_alloc | apply pw_below_drewN | apply below_drew1) | exact HB.out))) : w.heap.size ≤ gb132)); clear HB; have HB := n0_; have BK132 := n1_; have GW132 := n2_; have GE132 := n3_; clear n0_ n1_ n2_ n3_; clear hb hbox hg) | ((with_reducible refine gate_dst (N := 2) rfl ?_); refine box_event ?hg (N := 2) ?hd (cs := #[.int .i64 0, .int .i64 0, .string (⟨#[]⟩ : ByteArray), .slice none 0 0]) (t := 29) ?hr ?_; (case hd => rfl); (case hg => rfl); (case hr => first | (go_simp; done) | (go_simp; rfl)); intro gb133 hg w3 hbox hb; have n0_ := Aside0.mk (blk_below (g := gb132) (o := .cells #[.int .i64 a0_0, .int .i64 a0_1, .string a0_2, .slice A0_3 l0_3.length c0_3] 24 (0, 0)) (by (with_reducible repeat (first | refine blk_drewN ?_ _ | refine blk_drew ?_ | refine blk_alloc ?_ _)); exact BK132.out) hb); have n1_ := Aside0.mk (below_step (by repeat (first | (with_reducible first | exact HB.out | apply below_alloc | apply pw_below_drewN | apply below_drew1 | refine below_set ?_ GE132.out) | exact HB.out)) hb); have n2_ := Aside0.mk (hbox); have n3_ := Aside0.mk ((by rw [hg]; exact (below_size (by repeat (first | (with_reducible first | exact HB.out | apply below_alloc | apply pw_below_drewN | apply below_drew1 | refine below_set ?_ GE132.out) | exact HB.out))) : w.heap.size ≤ gb133)); have n4_ := Aside0.mk ((by rw [hg]; exact (below_size (by repeat (first | (with_reducible first | exact HB.out | apply below_alloc | apply pw_below_drewN | apply below_drew1 | refine below_set ?_ GE132.out) | exact HB.out))) : w.heap.size ≤ gb133)); have n5_ := Aside0.mk ((by rw [hg]; exact Nat.ne_of_lt (blk_lt (g := gb132) (o := .cells #[.int .i64 a0_0, .int .i64 a0_1, .string a0_2, .slice A0_3 l0_3.length c0_3] 24 (0, 0)) (by (with_reducible repeat (first | refine blk_drewN ?_ _ | refine blk_drew ?_ | refine blk_alloc ?_ _)); exact BK132.out)) : gb132 ≠ gb133)); have n6_ := Aside0.mk ((by rw [hg]; exact Nat.ne_of_gt (blk_lt (g := gb132) (o := .cells #[.int .i64 a0_0, .int .i64 a0_1, .string a0_2, .slice A0_3 l0_3.length c0_3] 24 (0, 0)) (by (with_reducible repeat (first | refine blk_drewN ?_ _ | refine blk_drew ?_ | refine blk_alloc ?_ _)); exact BK132.out)) : gb133 ≠ gb132)); clear BK132; clear HB; have BK132 := n0_; have HB := n1_; have BK133 := n2_; have GW133 := n3_; have GE133 := n4_; have NB132_133 := n5_; have NB133_132 := n6_; clear n0_ n1_ n2_ n3_ n4_ n5_ n6_; clear hb hbox hg; have hnb4 := NB132_133.out; have hnc4 := NB133_132.out; have hcz5_0 : w3.cell? ⟨gb132, 0, none⟩ = some (.int .i64 a0_0) := (blk_cell BK132.out 0).trans rfl; have hcz5_1 : w3.cell? ⟨gb132, 1, none⟩ = some (.int .i64 a0_1) := (blk_cell BK132.out 1).trans rfl; have hcz5_2 : w3.cell? ⟨gb132, 2, none⟩ = some (.string a0_2) := (blk_cell BK132.out 2).trans rfl; have hcz5_3 : w3.cell? ⟨gb132, 3, none⟩ = some (.slice A0_3 l0_3.length c0_3) := (blk_cell BK132.out 3).trans rfl; have hfz5_0 := blk_frozen BK132.out 0; have hfz5_1 := blk_frozen BK132.out 1; have hfz5_2 := blk_frozen BK132.out 2; have hfz5_3 := blk_frozen BK132.out 3) | ((with_reducible refine gate_dst (N := 3) rfl ?_); refine box_event ?hg (N := 3) ?hd (cs := #[.int .i64 0, .int .i64 0, .string (⟨#[]⟩ : ByteArray), .slice none 0 0]) (t := 29) ?hr ?_; (case hd => rfl); (case hg => rfl); (case hr => first | (go_simp; done) | (go_simp; rfl)); intro gb134 hg w6 hbox hb; have n0_ := Aside0.mk (blk_below (g := gb132) (o := .cells #[.int .i64 a0_0, .int .i64 a0_1, .string a0_2, .slice A0_3 l0_3.length c0_3] 24 (0, 0)) (by (with_reducible repeat (first | refine blk_drewN ?_ _ | refine blk_drew ?_ | refine blk_alloc ?_ _)); exact BK132.out) hb); have n1_ := Aside0.mk (blk_below (g := gb133) (o := .cells #[.int .i64 0, .int .i64 0, .string (⟨#[]⟩ : ByteArray), .slice none 0 0] 29 (0, 0)) (by (with_reducible repeat (first | refine blk_drewN ?_ _ | refine blk_drew ?_ | refine blk_alloc ?_ _)); exact BK133.out) hb); have n2_ := Aside0.mk (below_step (by repeat (first | (with_reducible first | exact HB.out | apply below_alloc | apply pw_below_drewN | apply below_drew1 | refine below_set ?_ GE132.out | refine below_set ?_ GE133.out) | exact HB.out)) hb); have n3_ := Aside0.mk (hbox); have n4_ := Aside0.mk ((by rw [hg]; exact (below_size (by repeat (first | (with_reducible first | exact HB.out | apply below_alloc | apply pw_below_drewN | apply below_drew1 | refine below_set ?_ GE132.out | refine below_set ?_ GE133.out) | exact HB.out))) : w.heap.size ≤ gb134)); have n5_ := Aside0.mk ((by rw [hg]; exact (below_size (by repeat (first | (with_reducible first | exact HB.out | apply below_alloc | apply pw_below_drewN | apply below_drew1 | refine below_set ?_ GE132.out | refine below_set ?_ GE133.out) | exact HB.out))) : w.heap.size ≤ gb134)); have n6_ := Aside0.mk ((by rw [hg]; exact Nat.ne_of_lt (blk_lt (g := gb132) (o := .cells #[.int .i64 a0_0, .int .i64 a0_1, .string a0_2, .slice A0_3 l0_3.length c0_3] 24 (0, 0)) (by (with_reducible repeat (first | refine blk_drewN ?_ _ | refine blk_drew ?_ | refine blk_alloc ?_ _)); exact BK132.out)) : gb132 ≠ gb134)); have n7_ := Aside0.mk ((by rw [hg]; exact Nat.ne_of_gt (blk_lt (g := gb132) (o := .cells #[.int .i64 a0_0, .int .i64 a0_1, .string a0_2, .slice A0_3 l0_3.length c0_3] 24 (0, 0)) (by (with_reducible repeat (first | refine blk_drewN ?_ _ | refine blk_drew ?_ | refine blk_alloc ?_ _)); exact BK132.out)) : gb134 ≠ gb132)); have n8_ := Aside0.mk ((by rw [hg]; exact Nat.ne_of_lt (blk_lt (g := gb133) (o := .cells #[.int .i64 0, .int .i64 0, .string (⟨#[]⟩ : ByteArray), .slice none 0 0] 29 (0, 0)) (by (with_reducible repeat (first | refine blk_drewN ?_ _ | refine blk_drew ?_ | refine blk_alloc ?_ _)); exact BK133.out)) : gb133 ≠ gb134)); have n9_ := Aside0.mk ((by rw [hg]; exact Nat.ne_of_gt (blk_lt (g := gb133) (o := .cells #[.int .i64 0, .int .i64 0, .string (⟨#[]⟩ : ByteArray), .slice none 0 0] 29 (0, 0)) (by (with_reducible repeat (first | refine blk_drewN ?_ _ | refine blk_drew ?_ | refine blk_alloc ?_ _)); exact BK133.out)) : gb134 ≠ gb133)); clear BK132; clear BK133; clear HB; have BK132 := n0_; have BK133 := n1_; have HB := n2_; have BK134 := n3_; have GW134 := n4_; have GE134 := n5_; have NB132_134 := n6_; have NB134_132 := n7_; have NB133_134 := n8_; have NB134_133 := n9_; clear n0_ n1_ n2_ n3_ n4_ n5_ n6_ n7_ n8_ n9_; clear hb hbox hg; have hnb7 := NB134_132.out; have hnc7 := NB132_134.out; have hnb8 := NB134_133.out; have hnc8 := NB133_134.out; have hcz9_0 : w6.cell? ⟨gb134, 0, none⟩ = some (.int .i64 0) := (blk_cell BK134.out 0).trans rfl; have hcz9_1 : w6.cell? ⟨gb134, 1, none⟩ = some (.int .i64 0) := (blk_cell BK134.out 1).trans rfl; have hcz9_2 : w6.cell? ⟨gb134, 2, none⟩ = some (.string (⟨#[]⟩ : ByteArray)) := (blk_cell BK134.out 2).trans rfl; have hcz9_3 : w6.cell? ⟨gb134, 3, none⟩ = some (.slice none 0 0) := (blk_cell BK134.out 3).trans rfl; have hfz9_0 := blk_frozen BK134.out 0; have hfz9_1 := blk_frozen BK134.out 1; have hfz9_2 := blk_frozen BK134.out 2; have hfz9_3 := blk_frozen BK134.out 3))
  go_loopg [4] k (fun kq v4 w' => ∃ (x4_1 : Int) (x135003_1 : List (S29)) (u135003 : Value), v4 = .int .i64 x4_1 ∧ Aside0 (vinculumlaw03_own.l0 kq x4_1 a0_0 a0_1 a0_2 l0_3 a0_0 a0_1 a0_2 x135003_1 = some (r1, r2, r3, r4)) ∧ Aside0 (kq ≤ k) ∧ Aside0 (Kd.R k29 29 w' w.heap.size (fun k_ => k_ ≠ gb133 ∧ k_ ≠ gb134) u135003 x135003_1) ∧ Aside0 (w'.heap[gb132]? = some (.cells #[.int .i64 a0_0, .int .i64 a0_1, .string a0_2, (.slice A0_3 l0_3.length c0_3)] 24 (0, 0))) ∧ Aside0 (w'.heap[gb133]? = some (.cells #[.int .i64 0, .int .i64 0, .string (⟨#[]⟩ : ByteArray), (.slice none 0 0)] 29 (0, 0))) ∧ Aside0 (w'.heap[gb134]? = some (.cells #[.int .i64 a0_0, .int .i64 a0_1, .string a0_2, u135003] 29 (0, 0))) ∧ Aside0 (Below w.heap.size w w'))
  case atStart => exact ⟨(0), (([] : List (S29))), (.slice none 0 0), (by first | rfl | (simp; done) | (simp [*]; done) | (simp [ne_nil_bool]; done)), H', ⟨Nat.le_refl _⟩, ⟨by first | exact Kd.R_nil _ _ _ _ _ | exact Kd.N_nil _ _ _ _ _ | exact Kd.V_nil _ _ _ _ _ | exact Kd.Q_nil _ _ _ _ _ | exact Kd.S_nil _ _ _ _ _⟩, ⟨by (with_reducible repeat (first | refine blk_drewN ?_ _ | refine blk_drew ?_ | refine blk_alloc ?_ _)); refine blk_far ?_ NB132_134.out _; (with_reducible repeat (first | refine blk_drewN ?_ _ | refine blk_drew ?_ | refine blk_alloc ?_ _)); refine blk_far ?_ NB132_134.out _; (with_reducible repeat (first | refine blk_drewN ?_ _ | refine blk_drew ?_ | refine blk_alloc ?_ _)); refine blk_far ?_ NB132_134.out _; (with_reducible repeat (first | refine blk_drewN ?_ _ | refine blk_drew ?_ | refine blk_alloc ?_ _)); refine blk_far ?_ NB132_134.out _; (with_reducible repeat (first | refine blk_drewN ?_ _ | refine blk_drew ?_ | refine blk_alloc ?_ _)); exact BK132.out⟩, ⟨by (with_reducible repeat (first | refine blk_drewN ?_ _ | refine blk_drew ?_ | refine blk_alloc ?_ _)); refine blk_far ?_ NB133_134.out _; (with_reducible repeat (first | refine blk_drewN ?_ _ | refine blk_drew ?_ | refine blk_alloc ?_ _)); refine blk_far ?_ NB133_134.out _; (with_reducible repeat (first | refine blk_drewN ?_ _ | refine blk_drew ?_ | refine blk_alloc ?_ _)); refine blk_far ?_ NB133_134.out _; (with_reducible repeat (first | refine blk_drewN ?_ _ | refine blk_drew ?_ | refine blk_alloc ?_ _)); refine blk_far ?_ NB133_134.out _; (with_reducible repeat (first | refine blk_drewN ?_ _ | refine blk_drew ?_ | refine blk_alloc ?_ _)); exact BK133.out⟩, ⟨by (with_reducible repeat (first | refine blk_drewN ?_ _ | refine blk_drew ?_ | refine blk_alloc ?_ _)); refine blk_put (cs := #[.int .i64 a0_0, .int .i64 a0_1, .string a0_2, .slice none 0 0]) ?_ 3 _ rfl; (with_reducible repeat (first | refine blk_drewN ?_ _ | refine blk_drew ?_ | refine blk_alloc ?_ _)); refine blk_put (cs := #[.int .i64 a0_0, .int .i64 a0_1, .string (⟨#[]⟩ : ByteArray), .slice none 0 0]) ?_ 2 _ rfl; (with_reducible repeat (first | refine blk_drewN ?_ _ | refine blk_drew ?_ | refine blk_alloc ?_ _)); refine blk_put (cs := #[.int .i64 a0_0, .int .i64 0, .string (⟨#[]⟩ : ByteArray), .slice none 0 0]) ?_ 1 _ rfl; (with_reducible repeat (first | refine blk_drewN ?_ _ | refine blk_drew ?_ | refine blk_alloc ?_ _)); refine blk_put (cs := #[.int .i64 0, .int .i64 0, .string (⟨#[]⟩ : ByteArray), .slice none 0 0]) ?_ 0 _ rfl; (with_reducible repeat (first | refine blk_drewN ?_ _ | refine blk_drew ?_ | refine blk_alloc ?_ _)); exact BK134.out⟩, ⟨by repeat (first | (with_reducible first | exact HB.out | apply below_alloc | apply pw_below_drewN | apply below_drew1 | refine below_set ?_ GE132.out | refine below_set ?_ GE133.out | refine below_set ?_ GE134.out) | exact HB.out)⟩⟩
  case round =>
    clear H'
    try clear c1
    try clear p2
    try clear c4
    try clear c7
    try clear c8
    try clear hcz5_0
    try clear hcz5_1
    try clear hcz5_2
    try clear hcz5_3
    try clear hcz9_0
    try clear hcz9_1
    try clear hcz9_2
    try clear hcz9_3
    try clear hfz5_0
    try clear hfz5_1
    try clear hfz5_2
    try clear hfz5_3
    try clear hfz9_0
    try clear hfz9_1
    try clear hfz9_2
    try clear hfz9_3
    obtain ⟨x4_1, x135003_1, u135003, rfl, HA, HK1, HO_135003, BK132, BK133, BK134, HB⟩ := hrel
    cases gk with
    | zero => exact absurd HA.out (by simp [vinculumlaw03_own.l0])
    | succ k1 =>
      have H := HA.out
      clear HA
      simp only [vinculumlaw03_own.l0] at H
      by_cases c10 : x4_1 < (l0_3.length : Int)
      · rw [if_pos c10] at H
        have c10b0 : decide (x4_1 < (l0_3.length : Int)) = true := decide_eq_true c10
        clear c10
        by_cases c11 : 0 ≤ x4_1
        · rw [if_pos c11] at H
          have c11b0 : decide (0 ≤ x4_1) = true := decide_eq_true c11
          clear c11
          replace H := Option.bind_eq_some_iff.mp H
          obtain ⟨⟨t136, t137, t138, t139⟩, A120, H⟩ := H
          replace H : (if x135003_1.length < 2513169434916 then (vinculumlaw03_own.l0 k1 (wrap64 (x4_1 + 1)) a0_0 a0_1 a0_2 l0_3 a0_0 a0_1 a0_2 (x135003_1 ++ [(⟨t136, t137, t138, t139⟩ : S29)])) else (none)) = some (r1, r2, r3, r4) := H
          have A12 := Aside0.mk A120
          clear A120
          by_cases c13 : x135003_1.length < 2513169434916
          · rw [if_pos c13] at H
            have LMc13 := Aside0.mk c13
            clear c13
            obtain ⟨y142, hy142⟩ : ∃ y_ : List (S29), y_ = (x135003_1 ++ [(⟨t136, t137, t138, t139⟩ : S29)]) := ⟨_, rfl⟩
            replace H : (vinculumlaw03_own.l0 k1 (wrap64 (x4_1 + 1)) a0_0 a0_1 a0_2 l0_3 a0_0 a0_1 a0_2 y142) = some (r1, r2, r3, r4) := by first | (rw [hy142]; with_reducible exact H) | (have H2_ := (Option.bind_some _ _).symm.trans H; rw [hy142]; with_reducible exact H2_) | (have H2_ := (Option.bind_some _ _).symm.trans H; with_reducible exact H2_) | with_reducible exact H | (rw [hy142]; exact H) | exact H
            have Ny142 := Aside0.mk hy142
            clear hy142
            have H' := Aside0.mk H
            clear H
            have hnb14 := NB132_133.out
            have hnc14 := NB133_132.out
            have hnb15 := NB132_134.out
            have hnc15 := NB134_132.out
            have hcz16_0 : wr.cell? ⟨gb132, 0, none⟩ = some (.int .i64 a0_0) := (blk_cell BK132.out 0).trans rfl
            have hcz16_1 : wr.cell? ⟨gb132, 1, none⟩ = some (.int .i64 a0_1) := (blk_cell BK132.out 1).trans rfl
            have hcz16_2 : wr.cell? ⟨gb132, 2, none⟩ = some (.string a0_2) := (blk_cell BK132.out 2).trans rfl
            have hcz16_3 : wr.cell? ⟨gb132, 3, none⟩ = some (.slice A0_3 l0_3.length c0_3) := (blk_cell BK132.out 3).trans rfl
            have hfz16_0 := blk_frozen BK132.out 0
            have hfz16_1 := blk_frozen BK132.out 1
            have hfz16_2 := blk_frozen BK132.out 2
            have hfz16_3 := blk_frozen BK132.out 3
            try go_wp2
            have n0_ := Aside0.mk (Kd.R_drew HO_135003.out)
            have n1_ := Aside0.mk (blk_drew BK132.out)
            have n2_ := Aside0.mk (blk_drew BK133.out)
            have n3_ := Aside0.mk (blk_drew BK134.out)
            have n4_ := Aside0.mk (below_drew1 HB.out)
            clear HO_135003
            clear BK132
            clear BK133
            clear BK134
            clear HB
            have HO_135003 := n0_
            have BK132 := n1_
            have BK133 := n2_
            have BK134 := n3_
            have HB := n4_
            clear n0_ n1_ n2_ n3_ n4_
            have p135 : 0 ≤ (x4_1 : Int) := of_decide_eq_true (by first | (with_reducible assumption) | assumption)
            have q135 : x4_1 < (l0_3.length : Int) := of_decide_eq_true (by first | (with_reducible assumption) | assumption)
            obtain ⟨ad135, A135_3, c135_3, e135, hx135_0, hx135_1, hx135_2, hx135_3, hl135_3, hi135_3⟩ := at_T24 HR0_3.out x4_1 p135 q135
            have hw135_3 := hx135_3
            have hw135_2 := hx135_2
            have hw135_1 := hx135_1
            have hw135_0 := hx135_0
            cases e135
            replace hx135_0 := (HB.out.cell (World.block_lt_of_cell? w _ hx135_0)).trans hx135_0
            replace hx135_1 := (HB.out.cell (World.block_lt_of_cell? w _ hx135_1)).trans hx135_1
            replace hx135_2 := (HB.out.cell (World.block_lt_of_cell? w _ hx135_2)).trans hx135_2
            replace hx135_3 := (HB.out.cell (World.block_lt_of_cell? w _ hx135_3)).trans hx135_3
            have HR135_3 := Aside0.mk hi135_3
            have HC135_3 := Aside0.mk hl135_3
            clear hi135_3 hl135_3
            replace p135 := eq_true p135
            replace q135 := eq_true q135
            refine start_ (n := 12) (S := fun w' => w'.cell? ⟨gb134, 0, none⟩ = some (.int .i64 a0_0) ∧ w'.cell? ⟨gb134, 1, none⟩ = some (.int .i64 a0_1) ∧ w'.cell? ⟨gb134, 2, none⟩ = some (.string a0_2) ∧ w'.cell? ⟨gb134, 3, none⟩ = some (u135003) ∧ w'.cell? ⟨gb132, 0, none⟩ = some (.int .i64 a0_0) ∧ w'.cell? ⟨gb132, 1, none⟩ = some (.int .i64 a0_1) ∧ w'.cell? ⟨gb132, 2, none⟩ = some (.string a0_2) ∧ w'.cell? ⟨gb132, 3, none⟩ = some (.slice (some ad135) l0_3.length c0_3) ∧ w'.cell? (ad135.add ((x4_1).toNat * 4)) = some (.int .i64 ((rd_T24 l0_3 x4_1).f0)) ∧ w'.cell? ⟨(ad135.add ((x4_1).toNat * 4)).block, (ad135.add ((x4_1).toNat * 4)).off + 1, none⟩ = some (.int .i64 ((rd_T24 l0_3 x4_1).f1)) ∧ w'.cell? ⟨(ad135.add ((x4_1).toNat * 4)).block, (ad135.add ((x4_1).toNat * 4)).off + 2, none⟩ = some (.string ((rd_T24 l0_3 x4_1).f2)) ∧ w'.cell? ⟨(ad135.add ((x4_1).toNat * 4)).block, (ad135.add ((x4_1).toNat * 4)).off + 3, none⟩ = some (.slice A135_3 ((rd_T24 l0_3 x4_1).f3).length c135_3)) (ds := [11]) #[false, false, false, false, false, false, false, false, false, false, false, false] (by kernel_rfl) rfl rfl ⟨(blk_cell BK134.out 0).trans rfl, (blk_cell BK134.out 1).trans rfl, (blk_cell BK134.out 2).trans rfl, (blk_cell BK134.out 3).trans rfl, (blk_cell BK132.out 0).trans rfl, (blk_cell BK132.out 1).trans rfl, (blk_cell BK132.out 2).trans rfl, (blk_cell BK132.out 3).trans rfl, ((HB.out.cell (World.block_lt_of_cell? w _ hw135_0)).trans hw135_0), ((HB.out.cell (World.block_lt_of_cell? w _ hw135_1)).trans hw135_1), ((HB.out.cell (World.block_lt_of_cell? w _ hw135_2)).trans hw135_2), ((HB.out.cell (World.block_lt_of_cell? w _ hw135_3)).trans hw135_3)⟩ (fun hHeld => ?_); refine with_tabW vinculumlaw03_own.tab5 vinculumlaw03_own.bits5 (fun HT_ HW_ => ?_)
            generalize wr.drew = w17 at HO_135003 BK132 BK133 BK134 HB HR135_3 hx135_0 hx135_1 hx135_2 hx135_3 hHeld ⊢
            refine pure_ (i := 0) (N := some 19) (v := ?_) (a' := ?_) #[true, false, false, false, false, false, false, false, false, false, false, false] rfl rfl (any_of HT_.out (by kernel_rfl)) (fun _ _ _ h => h) (Or.inl ⟨by rfl, ?_⟩) ?_ ?_
            rotate_left
            · intro w'
              go_simp
              with_reducible rfl
            rotate_left
            · simp only [Act.put, List.setIfInBounds_toArray, List.set_cons_zero, List.set_cons_succ, i64_w, i32_w]
              rfl
            refine pure_ (i := 2) (N := some 21) (v := ?_) (a' := ?_) #[true, false, true, false, false, false, false, false, false, false, false, false] rfl rfl (any_of HT_.out (by kernel_rfl)) (fun _ _ _ h => h) (Or.inl ⟨by rfl, ?_⟩) ?_ ?_
            rotate_left
            · intro w'
              go_simp
              with_reducible rfl
            rotate_left
            · simp only [Act.put, List.setIfInBounds_toArray, List.set_cons_zero, List.set_cons_succ, i64_w, i32_w]
              rfl
            refine pure_ (i := 4) (N := some 23) (v := ?_) (a' := ?_) #[true, false, true, false, true, false, false, false, false, false, false, false] rfl rfl (any_of HT_.out (by kernel_rfl)) (fun _ _ _ h => h) (Or.inl ⟨by rfl, ?_⟩) ?_ ?_
            rotate_left
            · intro w'
              go_simp
              with_reducible rfl
            rotate_left
            · simp only [Act.put, List.setIfInBounds_toArray, List.set_cons_zero, List.set_cons_succ, i64_w, i32_w]
              rfl
            refine take_ (i := 1) (N := some 20) (v := ?_) (a' := ?_) #[true, true, true, false, true, false, false, false, false, false, false, false] rfl rfl (take_ofW HT_.out HW_.out (by kernel_rfl)) (fun _ _ _ h => h) (Or.inl ⟨by rfl, ?_⟩) hHeld ?_ ?_
            rotate_left
            · rintro w' ⟨s0, s1, s2, s3, s4, s5, s6, s7, s8, s9, s10, s11⟩
              go_simp
              with_reducible rfl
            rotate_left
            · simp only [Act.put, List.setIfInBounds_toArray, List.set_cons_zero, List.set_cons_succ, i64_w, i32_w]
              rfl
            refine take_ (i := 3) (N := some 22) (v := ?_) (a' := ?_) #[true, true, true, true, true, false, false, false, false, false, false, false] rfl rfl (take_ofW HT_.out HW_.out (by kernel_rfl)) (fun _ _ _ h => h) (Or.inl ⟨by rfl, ?_⟩) hHeld ?_ ?_
            rotate_left
            · rintro w' ⟨s0, s1, s2, s3, s4, s5, s6, s7, s8, s9, s10, s11⟩
              go_simp
              with_reducible rfl
            rotate_left
            · simp only [Act.put, List.setIfInBounds_toArray, List.set_cons_zero, List.set_cons_succ, i64_w, i32_w]
              rfl
            refine pure_ (i := 5) (N := some 24) (v := ?_) (a' := ?_) #[true, true, true, true, true, true, false, false, false, false, false, false] rfl rfl (any_of HT_.out (by kernel_rfl)) (fun _ _ _ h => h) (Or.inl ⟨by rfl, ?_⟩) ?_ ?_
            rotate_left
            · intro w'
              go_simp
              with_reducible rfl
            rotate_left
            · simp only [Act.put, List.setIfInBounds_toArray, List.set_cons_zero, List.set_cons_succ, i64_w, i32_w]
              rfl
            refine take_ (i := 6) (N := some 25) (v := ?_) (a' := ?_) #[true, true, true, true, true, true, true, false, false, false, false, false] rfl rfl (take_ofW HT_.out HW_.out (by kernel_rfl)) (fun _ _ _ h => h) (Or.inl ⟨by rfl, ?_⟩) hHeld ?_ ?_
            rotate_left
            · rintro w' ⟨s0, s1, s2, s3, s4, s5, s6, s7, s8, s9, s10, s11⟩
              go_simp
              with_reducible rfl
            rotate_left
            · simp only [Act.put, List.setIfInBounds_toArray, List.set_cons_zero, List.set_cons_succ, i64_w, i32_w]
              rfl
            refine one_ (i := 7) (N := some 26) #[true, true, true, true, true, true, true, true, false, false, false, false] rfl rfl (one_of HT_.out (by kernel_rfl)) (by decide) (fun K hK => ?_)
            refine goes_ Try.func13 (by kernel_rfl) rfl #[.agg #[.int .i64 ((rd_T24 l0_3 x4_1).f0), .int .i64 ((rd_T24 l0_3 x4_1).f1), .string ((rd_T24 l0_3 x4_1).f2), .slice A135_3 ((rd_T24 l0_3 x4_1).f3).length c135_3]] (by rfl) rfl rfl (by (try simp only [List.map_toArray, List.map_cons, List.map_nil]); first | done | rfl | (simp only [List.length_drop, List.length_take]; rfl)) ?_
            with_reducible refine (ih k1 (by have := HK1.out; omega) ((rd_T24 l0_3 x4_1).f0) ((rd_T24 l0_3 x4_1).f1) ((rd_T24 l0_3 x4_1).f2) _ _ ((rd_T24 l0_3 x4_1).f3) t136 t137 t138 t139 _ ?side1 ?side2 A12.out).mono ?_
            (case side1 => repeat (first | exact (Kd.C_below HR135_3.out HB.out) | (with_reducible refine Kd.C_alloc ?_ _) | (with_reducible refine Kd.C_drewN ?_ _) | (with_reducible refine Kd.C_drew ?_)))
            (case side2 => exact HC135_3.out)
            rintro e w18 ⟨v140, rfl, ho0, hb⟩
            refine ⟨_, rfl, ?_⟩
            have n0_ := Aside0.mk (Kd.R_elder' (by (with_reducible repeat (first | apply Kd.R_alloc | apply Kd.R_drewN | apply Kd.R_drew)); exact HO_135003.out) (Kd.R_base ho0) hb)
            have n1_ := Aside0.mk (Kd.R_lower (Kd.R_newB (Kd.R_newB (Kd.R_new' ho0 (Kd.R_lt (by (with_reducible repeat (first | apply Kd.R_alloc | apply Kd.R_drewN | apply Kd.R_drew)); exact HO_135003.out))) (g := gb133) (o := .cells #[.int .i64 0, .int .i64 0, .string (⟨#[]⟩ : ByteArray), .slice none 0 0] 29 (0, 0)) (by (with_reducible repeat (first | refine blk_drewN ?_ _ | refine blk_drew ?_ | refine blk_alloc ?_ _)); exact BK133.out)) (g := gb134) (o := .cells #[.int .i64 a0_0, .int .i64 a0_1, .string a0_2, u135003] 29 (0, 0)) (by (with_reducible repeat (first | refine blk_drewN ?_ _ | refine blk_drew ?_ | refine blk_alloc ?_ _)); exact BK134.out)) (below_size (by repeat (first | (with_reducible first | exact HB.out | apply below_alloc | apply pw_below_drewN | apply below_drew1 | refine below_set ?_ GE132.out | refine below_set ?_ GE133.out | refine below_set ?_ GE134.out) | exact HB.out))))
            have n2_ := Aside0.mk (blk_below (g := gb132) (o := .cells #[.int .i64 a0_0, .int .i64 a0_1, .string a0_2, .slice (some ad135) l0_3.length c0_3] 24 (0, 0)) (by (with_reducible repeat (first | refine blk_drewN ?_ _ | refine blk_drew ?_ | refine blk_alloc ?_ _)); exact BK132.out) hb)
            have n3_ := Aside0.mk (blk_below (g := gb133) (o := .cells #[.int .i64 0, .int .i64 0, .string (⟨#[]⟩ : ByteArray), .slice none 0 0] 29 (0, 0)) (by (with_reducible repeat (first | refine blk_drewN ?_ _ | refine blk_drew ?_ | refine blk_alloc ?_ _)); exact BK133.out) hb)
            have n4_ := Aside0.mk (blk_below (g := gb134) (o := .cells #[.int .i64 a0_0, .int .i64 a0_1, .string a0_2, u135003] 29 (0, 0)) (by (with_reducible repeat (first | refine blk_drewN ?_ _ | refine blk_drew ?_ | refine blk_alloc ?_ _)); exact BK134.out) hb)
            have n5_ := Aside0.mk (below_step (by repeat (first | (with_reducible first | exact HB.out | apply below_alloc | apply pw_below_drewN | apply below_drew1 | refine below_set ?_ GE132.out | refine below_set ?_ GE133.out | refine below_set ?_ GE134.out) | exact HB.out)) hb)
            clear HO_135003
            clear BK132
            clear BK133
            clear BK134
            clear HB
            have HO_135003 := n0_
            have HO141 := n1_
            have BK132 := n2_
            have BK133 := n3_
            have BK134 := n4_
            have HB := n5_
            clear n0_ n1_ n2_ n3_ n4_ n5_
            (try clear hb)
            (try clear hb2)
            (try clear hk)
            (try clear hi)
            (try clear ho0)
            obtain ⟨Ao20, co20, eo20⟩ := Kd.R_slice HO141.out
            (first | subst eo20 | (injection eo20 with f1_ f2_ f3_; have f4_ := f1_.symm; have f5_ := f3_.symm; clear f1_ f2_ f3_; subst f4_; subst f5_))
            refine hK.out _ _ ⟨(blk_cell BK134.out 0).trans rfl, (blk_cell BK134.out 1).trans rfl, (blk_cell BK134.out 2).trans rfl, (blk_cell BK134.out 3).trans rfl, (blk_cell BK132.out 0).trans rfl, (blk_cell BK132.out 1).trans rfl, (blk_cell BK132.out 2).trans rfl, (blk_cell BK132.out 3).trans rfl, ((HB.out.cell (World.block_lt_of_cell? w _ hw135_0)).trans hw135_0), ((HB.out.cell (World.block_lt_of_cell? w _ hw135_1)).trans hw135_1), ((HB.out.cell (World.block_lt_of_cell? w _ hw135_2)).trans hw135_2), ((HB.out.cell (World.block_lt_of_cell? w _ hw135_3)).trans hw135_3)⟩ (fun hHeld => ?_)
            clear hK K
            refine norm_ (a' := ?_) ?_ ?_
            rotate_left
            · show Act.put _ (some 26) _ = _
              simp only [Act.put, List.setIfInBounds_toArray, List.set_cons_zero, List.set_cons_succ, i64_w, i32_w]
              rfl
            refine one_ (i := 8) (N := some 27) #[true, true, true, true, true, true, true, true, true, false, false, false] rfl rfl (one_of HT_.out (by kernel_rfl)) (by decide) (fun K hK => ?_)
            refine value_ (w1 := ?_) (v := ?_) (by rfl) rfl ?_ ?_
            rotate_left 2
            · go_simp
              constructor
              · rfl
              · rfl
            refine hK.out _ _ ⟨(blk_cell (blk_alloc BK134.out _) 0).trans rfl, (blk_cell (blk_alloc BK134.out _) 1).trans rfl, (blk_cell (blk_alloc BK134.out _) 2).trans rfl, (blk_cell (blk_alloc BK134.out _) 3).trans rfl, (blk_cell (blk_alloc BK132.out _) 0).trans rfl, (blk_cell (blk_alloc BK132.out _) 1).trans rfl, (blk_cell (blk_alloc BK132.out _) 2).trans rfl, (blk_cell (blk_alloc BK132.out _) 3).trans rfl, (World.cell?_alloc_lt _ _ _ (World.block_lt_of_cell? _ _ (((HB.out.cell (World.block_lt_of_cell? w _ hw135_0)).trans hw135_0)))).trans (((HB.out.cell (World.block_lt_of_cell? w _ hw135_0)).trans hw135_0)), (World.cell?_alloc_lt _ _ _ (World.block_lt_of_cell? _ _ (((HB.out.cell (World.block_lt_of_cell? w _ hw135_1)).trans hw135_1)))).trans (((HB.out.cell (World.block_lt_of_cell? w _ hw135_1)).trans hw135_1)), (World.cell?_alloc_lt _ _ _ (World.block_lt_of_cell? _ _ (((HB.out.cell (World.block_lt_of_cell? w _ hw135_2)).trans hw135_2)))).trans (((HB.out.cell (World.block_lt_of_cell? w _ hw135_2)).trans hw135_2)), (World.cell?_alloc_lt _ _ _ (World.block_lt_of_cell? _ _ (((HB.out.cell (World.block_lt_of_cell? w _ hw135_3)).trans hw135_3)))).trans (((HB.out.cell (World.block_lt_of_cell? w _ hw135_3)).trans hw135_3))⟩ (fun hHeld => ?_)
            clear hK K
            refine norm_ (a' := ?_) ?_ ?_
            rotate_left
            · show Act.put _ (some 27) _ = _
              simp only [Act.put, List.setIfInBounds_toArray, List.set_cons_zero, List.set_cons_succ, i64_w, i32_w]
              rfl
            refine one_ (i := 9) (N := some 28) #[true, true, true, true, true, true, true, true, true, true, false, false] rfl rfl (one_of HT_.out (by kernel_rfl)) (by decide) (fun K hK => ?_)
            refine Kd.R_append_step k29 (w0 := w) w.heap.size (by rfl) (.tmp 20) (.tmp 27) 27 29 (.agg #[(.int .i64 0), (.int .i64 0), (.string ⟨#[]⟩), (.slice none 0 0)]) 56 rfl Try.underlying27 info29 rfl (by decide) (by omega) u135003 x135003_1 (⟨t136, t137, t138, t139⟩ : S29) [.int .i64 t136, .int .i64 t137, .string t138, .slice Ao20 t139.length co20] (fun k_ => k_ ≠ gb133 ∧ k_ ≠ gb134) (fun k_ => ((fun k_ => k_ ≠ gb133 ∧ k_ ≠ gb134)) k_ ∧ some k_ ≠ (u135003 : Value).ownBlock) rfl rfl ?aP (fun _ hk => hk) ?aF ?aO ?aB ?aS ?aL ?_
            (case aP => exact k29_mkM _ _ _ (⟨t136, t137, t138, t139⟩ : S29) (Kd.R_mono (HO141.out) (fun k_ hk => ⟨⟨hk.1.2, hk.2⟩, hk.1.1.2⟩)))
            (case aB => exact (by repeat (first | (with_reducible first | exact HB.out | apply below_alloc | apply pw_below_drewN | apply below_drew1 | refine below_set ?_ GE132.out | refine below_set ?_ GE133.out | refine below_set ?_ GE134.out) | exact HB.out)))
            (case aF => exact (fun k_ hk => ⟨Kd.freshB (g := gb133) (o := .cells #[.int .i64 0, .int .i64 0, .string (⟨#[]⟩ : ByteArray), .slice none 0 0] 29 (0, 0)) (by (with_reducible repeat (first | refine blk_drewN ?_ _ | refine blk_drew ?_ | refine blk_alloc ?_ _)); exact BK133.out) k_ hk, Kd.freshB (g := gb134) (o := .cells #[.int .i64 a0_0, .int .i64 a0_1, .string a0_2, u135003] 29 (0, 0)) (by (with_reducible repeat (first | refine blk_drewN ?_ _ | refine blk_drew ?_ | refine blk_alloc ?_ _)); exact BK134.out) k_ hk⟩))
            (case aO => exact (by (with_reducible repeat (first | apply Kd.R_alloc | apply Kd.R_drewN | apply Kd.R_drew)); exact Kd.R_mono HO_135003.out (fun _ hk => ⟨hk.1.1, hk.1.2⟩)))
            (case aS => exact (below_size (by repeat (first | (with_reducible first | exact HB.out | apply below_alloc | apply pw_below_drewN | apply below_drew1 | refine below_set ?_ GE132.out | refine below_set ?_ GE133.out | refine below_set ?_ GE134.out) | exact HB.out))))
            (case aL => have := LMc13.out; omega)
            intro v143 w19 ho hb hg hat
            rw [← Ny142.out] at ho
            have n0_ := Aside0.mk (blk_grown (g := gb132) (o := .cells #[.int .i64 a0_0, .int .i64 a0_1, .string a0_2, .slice (some ad135) l0_3.length c0_3] 24 (0, 0)) (by (with_reducible repeat (first | refine blk_drewN ?_ _ | refine blk_drew ?_ | refine blk_alloc ?_ _)); exact BK132.out) hg (Kd.R_ne HO_135003.out BK132.out (by decide)))
            have n1_ := Aside0.mk (blk_grown (g := gb133) (o := .cells #[.int .i64 0, .int .i64 0, .string (⟨#[]⟩ : ByteArray), .slice none 0 0] 29 (0, 0)) (by (with_reducible repeat (first | refine blk_drewN ?_ _ | refine blk_drew ?_ | refine blk_alloc ?_ _)); exact BK133.out) hg (Kd.R_away HO_135003.out (fun _ hk => hk.1.1)))
            have n2_ := Aside0.mk (blk_grown (g := gb134) (o := .cells #[.int .i64 a0_0, .int .i64 a0_1, .string a0_2, u135003] 29 (0, 0)) (by (with_reducible repeat (first | refine blk_drewN ?_ _ | refine blk_drew ?_ | refine blk_alloc ?_ _)); exact BK134.out) hg (Kd.R_away HO_135003.out (fun _ hk => hk.1.2)))
            have n3_ := Aside0.mk (hb)
            have n4_ := Aside0.mk (ho)
            clear BK132
            clear BK133
            clear BK134
            clear HB
            clear HO_135003
            clear HO141
            have BK132 := n0_
            have BK133 := n1_
            have BK134 := n2_
            have HB := n3_
            have HO144 := n4_
            clear n0_ n1_ n2_ n3_ n4_
            clear ho hb hg hat
            obtain ⟨Ao21, co21, eo21⟩ := Kd.R_slice HO144.out
            (first | subst eo21 | (injection eo21 with f1_ f2_ f3_; have f4_ := f1_.symm; have f5_ := f3_.symm; clear f1_ f2_ f3_; subst f4_; subst f5_))
            refine hK.out _ _ ⟨(blk_cell BK134.out 0).trans rfl, (blk_cell BK134.out 1).trans rfl, (blk_cell BK134.out 2).trans rfl, (blk_cell BK134.out 3).trans rfl, (blk_cell BK132.out 0).trans rfl, (blk_cell BK132.out 1).trans rfl, (blk_cell BK132.out 2).trans rfl, (blk_cell BK132.out 3).trans rfl, ((HB.out.cell (World.block_lt_of_cell? w _ hw135_0)).trans hw135_0), ((HB.out.cell (World.block_lt_of_cell? w _ hw135_1)).trans hw135_1), ((HB.out.cell (World.block_lt_of_cell? w _ hw135_2)).trans hw135_2), ((HB.out.cell (World.block_lt_of_cell? w _ hw135_3)).trans hw135_3)⟩ (fun hHeld => ?_)
            clear hK K
            refine norm_ (a' := ?_) ?_ ?_
            rotate_left
            · show Act.put _ (some 28) _ = _
              simp only [Act.put, List.setIfInBounds_toArray, List.set_cons_zero, List.set_cons_succ, i64_w, i32_w]
              rfl
            refine pure_ (i := 10) (N := some 29) (v := ?_) (a' := ?_) #[true, true, true, true, true, true, true, true, true, true, true, false] rfl rfl (any_of HT_.out (by kernel_rfl)) (fun _ _ _ h => h) (Or.inl ⟨by rfl, ?_⟩) ?_ ?_
            rotate_left
            · intro w'
              go_simp
              with_reducible rfl
            rotate_left
            · simp only [Act.put, List.setIfInBounds_toArray, List.set_cons_zero, List.set_cons_succ, i64_w, i32_w]
              rfl
            refine last_ (i := 11) (N := none) #[true, true, true, true, true, true, true, true, true, true, true, true] rfl rfl (one_of HT_.out (by kernel_rfl)) (by decide) (fun K hK => ?_)
            have hs22 : w19.cell? ⟨gb134, 3, none⟩ = some (u135003) := (blk_cell BK134.out 3).trans rfl
            have hfs22 := blk_frozen BK134.out 3
            have hns22_0 := NB132_134.out
            have hns22_1 := NB133_134.out
            have hms22_0 := NB134_132.out
            have hms22_1 := NB134_133.out
            refine skip_ (w1 := ?_) (by rfl) rfl ?_ ?_
            rotate_left
            · go_simp
              rfl
            refine hK.out _ _ ?_
            clear hK K
            refine done_ (done_of HT_.out (by kernel_rfl)) ?_
            try go_wp2
            go_roundg k1
            case measure => have := HK1.out; omega
            case rel => exact ⟨(wrap64 (x4_1 + 1)), (y142), (.slice Ao21 y142.length co21), (by first | rfl | (simp; done) | (simp [*]; done) | (simp [ne_nil_bool]; done)), H', ⟨by have := HK1.out; omega⟩, ⟨by (with_reducible repeat (first | apply Kd.R_alloc | apply Kd.R_drewN | apply Kd.R_drew)); exact Kd.R_mono (Kd.R_far (p := ⟨gb134, 3, none⟩) (Kd.R_mono HO144.out (fun k_ hk => (⟨hk, hk.2⟩ : _ ∧ k_ ≠ gb134))) (fun _ hk => hk.2) (.slice Ao21 y142.length co21)) (fun _ hk => ⟨hk.1.1, hk.1.2⟩)⟩, ⟨by (with_reducible repeat (first | refine blk_drewN ?_ _ | refine blk_drew ?_ | refine blk_alloc ?_ _)); refine blk_far ?_ NB132_134.out _; (with_reducible repeat (first | refine blk_drewN ?_ _ | refine blk_drew ?_ | refine blk_alloc ?_ _)); exact BK132.out⟩, ⟨by (with_reducible repeat (first | refine blk_drewN ?_ _ | refine blk_drew ?_ | refine blk_alloc ?_ _)); refine blk_far ?_ NB133_134.out _; (with_reducible repeat (first | refine blk_drewN ?_ _ | refine blk_drew ?_ | refine blk_alloc ?_ _)); exact BK133.out⟩, ⟨by (with_reducible repeat (first | refine blk_drewN ?_ _ | refine blk_drew ?_ | refine blk_alloc ?_ _)); refine blk_put (cs := #[.int .i64 a0_0, .int .i64 a0_1, .string a0_2, u135003]) ?_ 3 _ rfl; (with_reducible repeat (first | refine blk_drewN ?_ _ | refine blk_drew ?_ | refine blk_alloc ?_ _)); exact BK134.out⟩, ⟨by repeat (first | (with_reducible first | exact HB.out | apply below_alloc | apply pw_below_drewN | apply below_drew1 | refine below_set ?_ GE132.out | refine below_set ?_ GE133.out | refine below_set ?_ GE134.out) | exact HB.out)⟩⟩
          · rw [if_neg c13] at H
            exact absurd H (by simp)
        · rw [if_neg c11] at H
          exact absurd H (by simp)
      · rw [if_neg c10] at H
        have c10b0 : decide (x4_1 < (l0_3.length : Int)) = false := decide_eq_false c10
        clear c10
        simp only [Option.some.injEq, Prod.mk.injEq] at H
        obtain ⟨rfl, rfl, rfl, rfl⟩ := H
        have hnb23 := NB132_133.out
        have hnc23 := NB133_132.out
        have hnb24 := NB132_134.out
        have hnc24 := NB134_132.out
        have hcz25_0 : wr.cell? ⟨gb132, 0, none⟩ = some (.int .i64 a0_0) := (blk_cell BK132.out 0).trans rfl
        have hcz25_1 : wr.cell? ⟨gb132, 1, none⟩ = some (.int .i64 a0_1) := (blk_cell BK132.out 1).trans rfl
        have hcz25_2 : wr.cell? ⟨gb132, 2, none⟩ = some (.string a0_2) := (blk_cell BK132.out 2).trans rfl
        have hcz25_3 : wr.cell? ⟨gb132, 3, none⟩ = some (.slice A0_3 l0_3.length c0_3) := (blk_cell BK132.out 3).trans rfl
        have hfz25_0 := blk_frozen BK132.out 0
        have hfz25_1 := blk_frozen BK132.out 1
        have hfz25_2 := blk_frozen BK132.out 2
        have hfz25_3 := blk_frozen BK132.out 3
        have hnb26 := NB134_133.out
        have hnc26 := NB133_134.out
        have hcz27_0 : wr.cell? ⟨gb134, 0, none⟩ = some (.int .i64 a0_0) := (blk_cell BK134.out 0).trans rfl
        have hcz27_1 : wr.cell? ⟨gb134, 1, none⟩ = some (.int .i64 a0_1) := (blk_cell BK134.out 1).trans rfl
        have hcz27_2 : wr.cell? ⟨gb134, 2, none⟩ = some (.string a0_2) := (blk_cell BK134.out 2).trans rfl
        have hcz27_3 : wr.cell? ⟨gb134, 3, none⟩ = some (u135003) := (blk_cell BK134.out 3).trans rfl
        have hfz27_0 := blk_frozen BK134.out 0
        have hfz27_1 := blk_frozen BK134.out 1
        have hfz27_2 := blk_frozen BK134.out 2
        have hfz27_3 := blk_frozen BK134.out 3
        have hcz28_0 : wr.cell? ⟨gb133, 0, none⟩ = some (.int .i64 0) := (blk_cell BK133.out 0).trans rfl
        have hcz28_1 : wr.cell? ⟨gb133, 1, none⟩ = some (.int .i64 0) := (blk_cell BK133.out 1).trans rfl
        have hcz28_2 : wr.cell? ⟨gb133, 2, none⟩ = some (.string (⟨#[]⟩ : ByteArray)) := (blk_cell BK133.out 2).trans rfl
        have hcz28_3 : wr.cell? ⟨gb133, 3, none⟩ = some (.slice none 0 0) := (blk_cell BK133.out 3).trans rfl
        have hfz28_0 := blk_frozen BK133.out 0
        have hfz28_1 := blk_frozen BK133.out 1
        have hfz28_2 := blk_frozen BK133.out 2
        have hfz28_3 := blk_frozen BK133.out 3
        obtain ⟨Ao29, co29, eo29⟩ := Kd.R_slice HO_135003.out
        subst eo29
        go_wp2
        refine bodyPost_ret (results_cell_row rfl _ _ gb133 29 #[.int .i64 a0_0, .int .i64 a0_1, .string a0_2, .slice Ao29 x135003_1.length co29] (0, 0) _ rfl (by (with_reducible repeat (first | refine blk_drewN ?_ _ | refine blk_drew ?_ | refine blk_alloc ?_ _)); refine blk_put (cs := #[.int .i64 a0_0, .int .i64 a0_1, .string a0_2, .slice none 0 0]) ?_ 3 _ rfl; (with_reducible repeat (first | refine blk_drewN ?_ _ | refine blk_drew ?_ | refine blk_alloc ?_ _)); refine blk_put (cs := #[.int .i64 a0_0, .int .i64 a0_1, .string (⟨#[]⟩ : ByteArray), .slice none 0 0]) ?_ 2 _ rfl; (with_reducible repeat (first | refine blk_drewN ?_ _ | refine blk_drew ?_ | refine blk_alloc ?_ _)); refine blk_put (cs := #[.int .i64 a0_0, .int .i64 0, .string (⟨#[]⟩ : ByteArray), .slice none 0 0]) ?_ 1 _ rfl; (with_reducible repeat (first | refine blk_drewN ?_ _ | refine blk_drew ?_ | refine blk_alloc ?_ _)); refine blk_put (cs := #[.int .i64 0, .int .i64 0, .string (⟨#[]⟩ : ByteArray), .slice none 0 0]) ?_ 0 _ rfl; (with_reducible repeat (first | refine blk_drewN ?_ _ | refine blk_drew ?_ | refine blk_alloc ?_ _)); exact BK133.out) Try.underlying29 rfl (by kernel_rfl)) rfl ?_
        exact ⟨_, by first | rfl | (simp [errW_none, errW_some] <;> rfl) | (simp [*, errW_none, errW_some] <;> rfl), by (with_reducible repeat (first | apply Kd.R_alloc | apply Kd.R_drewN | apply Kd.R_drew)); exact Kd.R_mono (Kd.R_far (p := ⟨gb133, 3, none⟩) (Kd.R_far (p := ⟨gb133, 2, none⟩) (Kd.R_far (p := ⟨gb133, 1, none⟩) (Kd.R_far (p := ⟨gb133, 0, none⟩) (Kd.R_mono HO_135003.out (fun k_ hk => (⟨hk, hk.1⟩ : _ ∧ k_ ≠ gb133))) (fun _ hk => hk.2) (.int .i64 a0_0)) (fun _ hk => hk.2) (.int .i64 a0_1)) (fun _ hk => hk.2) (.string a0_2)) (fun _ hk => hk.2) (.slice Ao29 x135003_1.length co29)) (fun _ hk => trivial), by repeat (first | (with_reducible first | exact HB.out | apply below_alloc | apply pw_below_drewN | apply below_drew1 | refine below_set ?_ GE132.out | refine below_set ?_ GE133.out | refine below_set ?_ GE134.out) | exact HB.out)⟩

/-! ### codec_reader_take: function 38, by hand -/
/-- The reader's state: the block g holds a slice of what lay there ahead of the call. -/
def RdS (w0 w : World) (g : Nat) (l : List Int) : Prop := ∃ A c, w.heap[g]? = some (.cells #[.slice A l.length c] 64 (0, 0)) ∧ (Kd.int .u8).C w0 A l.length l ∧ l.length ≤ c
/-- take: what is taken, whether there was enough, what is left. -/
def takeS (n : Int) (l : List Int) : List Int × Bool × List Int := if n > (l.length : Int) then ([], false, l) else (l.take n.toNat, true, l.drop n.toNat)
theorem wuE (n : Int) : IntKind.u64.wrap n = n % 18446744073709551616 := by simp [IntKind.wrap, IntKind.bits, IntKind.signed]
theorem RdS.len {w0 w : World} {g : Nat} {l : List Int} (h : RdS w0 w g l) : l.length ≤ 9223372036854775807 := by
  obtain ⟨A, c, _, h, _⟩ := h
  have := h.2.1
  omega
theorem RdS.kept {w0 w w' : World} {g : Nat} {l : List Int} (h : RdS w0 w g l) {S : Nat → Prop} (hk : Kept w w' S) (hg : ¬ S g) : RdS w0 w' g l := by
  obtain ⟨A, c, h1, h2⟩ := h
  exact ⟨A, c, blk_kept h1 hk hg, h2⟩
theorem Kept.transE {w w' w'' : World} {S : Nat → Prop} (h : Kept w w' S) (k : Kept w' w'' S) : Kept w w'' S := h.then_ k (fun _ hk => .inl hk)
set_option maxHeartbeats 1600000 in
set_option maxRecDepth 100000 in
theorem reader_take.calls (w0 w : World) (g : Nat) (l : List Int) (n : Int) (hn : 0 ≤ n) (hg : w0.heap.size ≤ g) (hB : Below w0.heap.size w0 w) (hs : RdS w0 w g l) :
    Calls Try.prog 38 #[.pointer (some ⟨g, 0, none⟩), .int .u64 n] w fun e w' => ∃ A c, e = .returned (.tuple #[.slice A (takeS n l).1.length c, .bool (takeS n l).2.1]) ∧ (Kd.int .u8).C w0 A (takeS n l).1.length (takeS n l).1 ∧ (takeS n l).1.length ≤ c ∧ RdS w0 w' g (takeS n l).2.2 ∧ Below w0.heap.size w0 w' ∧ Kept w w' (fun k => k = g) := by
  have hlen := hs.len
  have hs' := Aside0.mk hs
  obtain ⟨A, c, hblk, hC, hc⟩ := hs
  have hcell : w.cell? ⟨g, 0, none⟩ = some (.slice A l.length c) := (blk_cell hblk 0).trans rfl
  have hfz := blk_frozen hblk 0
  have hw : IntKind.u64.wrap (l.length : Int) = (l.length : Int) := by rw [wuE]; omega
  have HBK := Aside0.mk hblk
  have HC := Aside0.mk hC
  have HB := Aside0.mk hB
  have HG := Aside0.mk hg
  have HL := Aside0.mk hlen
  have HCC := Aside0.mk hc
  clear hblk hC hB hg hlen hc
  by_cases h : n > (l.length : Int)
  · rw [show takeS n l = ([], false, l) from if_pos h]
    have b0 : decide (n > (l.length : Int)) = true := decide_eq_true h
    have b1 : decide ((l.length : Int) < n) = true := decide_eq_true h
    clear h
    go_enter Try.func38, Try.ntmps38
    go_wp2
    go_ret2
    exact ⟨none, 0, rfl, Kd.C_nil _ _, Nat.le_refl _, hs'.out, HB.out, Kept.refl _ _⟩
  · rw [show takeS n l = (l.take n.toNat, true, l.drop n.toNat) from if_neg h]
    obtain ⟨m, rfl⟩ : ∃ m : Nat, n = m := ⟨n.toNat, by omega⟩
    have hm : m ≤ l.length := by omega
    have b0 : decide ((m : Int) > (l.length : Int)) = false := decide_eq_false h
    have b1 : decide ((l.length : Int) < (m : Int)) = false := decide_eq_false h
    have b2 : decide (l.length < m) = false := decide_eq_false (by omega)
    have b3 : (l.length < m) = False := eq_false (by omega)
    have hto := cut_to (P := Try.prog) 31 5 .u64 (i := (Try.prog.info? 5).getD default) Try.underlying31 (by kernel_rfl) A l.length c m hn (by omega) HCC.out
    have hfrom := cut_from (P := Try.prog) 31 5 .u64 (i := (Try.prog.info? 5).getD default) Try.underlying31 (by kernel_rfl) 1 (by kernel_rfl) A l.length c m hn (by omega)
    have hC1 := Kd.C_take HC.out hm
    have hC2 := Kd.C_drop HC.out hm HCC.out
    simp only [Int.toNat_natCast] at hto hfrom ⊢
    rw [show m * (Kd.int .u8).sz = m * 1 from rfl] at hC2
    obtain ⟨A2, hA2⟩ : ∃ A2, (if c = m then A else A.map (·.add (m * 1))) = A2 := ⟨_, rfl⟩
    simp only [hA2] at hfrom
    rw [hA2] at hC2
    clear hA2
    obtain ⟨o, ho⟩ : ∃ o, l.take m = o := ⟨_, rfl⟩
    obtain ⟨r, hr⟩ : ∃ r, l.drop m = r := ⟨_, rfl⟩
    have hol : o.length = m := by rw [← ho, List.length_take]; omega
    have hrl : r.length = l.length - m := by rw [← hr, List.length_drop]
    rw [ho] at hC1
    rw [hr] at hC2
    simp only [ho, hr]
    clear ho hr h hn
    have HO := Aside0.mk hol
    have HR := Aside0.mk hrl
    have HC1 := Aside0.mk hC1
    have HC2 := Aside0.mk hC2
    have HM := Aside0.mk hm
    clear hol hrl hC1 hC2 hm
    go_enter Try.func38, Try.ntmps38
    go_wp2
    go_ret2
    refine ⟨A, c, by rw [HO.out]; rfl, HC1.out, by have := HO.out; have := HM.out; have := HCC.out; omega, ⟨A2, c - m, ?_, HC2.out, by have := HR.out; have := HCC.out; have := HM.out; omega⟩, HB.out.setCell (p := ⟨g, 0, none⟩) HG.out _, (Kept.refl w (fun k => k = g)).setCell (p := ⟨g, 0, none⟩) (.inl rfl) _⟩
    rw [HR.out]
    exact blk_set HBK.out 0 _

end Go.Proofs.Ytploigkfnkgjiaa.PC
